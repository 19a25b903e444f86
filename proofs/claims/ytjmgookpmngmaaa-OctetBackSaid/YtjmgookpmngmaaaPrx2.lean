-- Written by a program of this session's (wip/ext/run.py) over the kit's print, with contracts of its own.
import Derived.Test.YtjmgookpmngmaaaPrx0
import Derived.Test.YtjmgookpmngmaaaPrx1
namespace Go.Proofs.Ytjmgookpmngmaaa.Pr
open Go.RowKit Go.Proofs.YtjmgookpmngmaaaW.PrintWords Go.Proofs.YtjmgookpmngmaaaW.PrintLast Go.Proofs.YtjmgookpmngmaaaW.PrintMore
attribute [local go_sem] max2_int min2_int max_two min_two max_three min_three max_four min_four   -- for this text's walks alone
set_option linter.unusedVariables false
set_option linter.unusedSimpArgs false

/-! ### pontoonref01_Get16: function 16 -/
def pontoonref01_Get16.f (k : Nat) (a0 : ByteArray) (a1 : Int) : Option (Int × Int × Int) := (pontoonref01_GetBytes.f k a0 a1 2).bind fun bt135 => (if bt135.2.2 = 0 then (if 0 < (bt135.1.size : Int) then (if 1 < (bt135.1.size : Int) then (if (wrap64 ((wrap64 (256 * (wrap64 (bt bt135.1 0)))) + (wrap64 (bt bt135.1 1)))) ≥ 32768 then (some (wrap64 ((wrap64 ((wrap64 (256 * (wrap64 (bt bt135.1 0)))) + (wrap64 (bt bt135.1 1)))) - 65536), bt135.2.1, 0)) else (some (wrap64 ((wrap64 (256 * (wrap64 (bt bt135.1 0)))) + (wrap64 (bt bt135.1 1))), bt135.2.1, 0))) else (none)) else (none)) else (some (0, 0, bt135.2.2)))
theorem pontoonref01_Get16.mono : ∀ a0 a1 k, LeO (pontoonref01_Get16.f k a0 a1) (pontoonref01_Get16.f (k + 1) a0 a1) := by
  intro a0 a1 k
  unfold pontoonref01_Get16.f
  repeat' first
      | (with_reducible exact pontoonref01_GetBytes.mono _ _ _ _)
      | (with_reducible exact LeO.refl _)
      | (with_reducible exact LeO.none _)
      | (with_reducible refine LeO.ite ?_ ?_)
      | (with_reducible refine LeO.bind ?_ (fun _ => ?_))
      | exact pontoonref01_GetBytes.mono _ _ _ _
      | exact LeO.none _
      | refine LeO.ite ?_ ?_
      | refine LeO.bind ?_ (fun _ => ?_)
set_option maxHeartbeats 8000000 in
set_option maxRecDepth 100000 in
theorem pontoonref01_Get16.calls (k : Nat) (a0 : ByteArray) (a1 : Int) (r1 : Int) (r2 : Int) (r3 : Int) (w : World) (h : pontoonref01_Get16.f k a0 a1 = some (r1, r2, r3)) :
    Calls Try.prog 16 #[.string a0, .int .i64 a1] w fun e w' => e = .returned (.tuple #[.int .i64 r1, .int .i64 r2, .int .i64 r3]) ∧ Drawn0 w w' := by
  have H : ((pontoonref01_GetBytes.f k a0 a1 2).bind fun bt135 => (if bt135.2.2 = 0 then (if 0 < (bt135.1.size : Int) then (if 1 < (bt135.1.size : Int) then (if (wrap64 ((wrap64 (256 * (wrap64 (bt bt135.1 0)))) + (wrap64 (bt bt135.1 1)))) ≥ 32768 then (some (wrap64 ((wrap64 ((wrap64 (256 * (wrap64 (bt bt135.1 0)))) + (wrap64 (bt bt135.1 1)))) - 65536), bt135.2.1, 0)) else (some (wrap64 ((wrap64 (256 * (wrap64 (bt bt135.1 0)))) + (wrap64 (bt bt135.1 1))), bt135.2.1, 0))) else (none)) else (none)) else (some (0, 0, bt135.2.2)))) = some (r1, r2, r3) := h
  clear h
  replace H := Option.bind_eq_some_iff.mp H
  obtain ⟨⟨t135, t136, t137⟩, A30, H⟩ := H
  replace H : (if t137 = 0 then (if 0 < (t135.size : Int) then (if 1 < (t135.size : Int) then (if (wrap64 ((wrap64 (256 * (wrap64 (bt t135 0)))) + (wrap64 (bt t135 1)))) ≥ 32768 then (some (wrap64 ((wrap64 ((wrap64 (256 * (wrap64 (bt t135 0)))) + (wrap64 (bt t135 1)))) - 65536), t136, 0)) else (some (wrap64 ((wrap64 (256 * (wrap64 (bt t135 0)))) + (wrap64 (bt t135 1))), t136, 0))) else (none)) else (none)) else (some (0, 0, t137))) = some (r1, r2, r3) := H
  have A3 := Aside0.mk A30
  clear A30
  by_cases c4 : t137 = 0
  · rw [if_pos c4] at H
    have c4b0 : (t137 == 0) = true := beq_iff_eq.mpr c4
    have c4b1 : (t137 != 0) = false := bne_eq_false_iff_eq.mpr c4
    clear c4
    by_cases c5 : 0 < (t135.size : Int)
    · rw [if_pos c5] at H
      have c5b0 : decide (0 < (t135.size : Int)) = true := decide_eq_true c5
      have c5b1 : decide (0 < t135.size) = true := decide_eq_true (by omega)
      clear c5
      by_cases c7 : 1 < (t135.size : Int)
      · rw [if_pos c7] at H
        have c7b0 : decide (1 < (t135.size : Int)) = true := decide_eq_true c7
        have c7b1 : decide (1 < t135.size) = true := decide_eq_true (by omega)
        clear c7
        by_cases c9 : (wrap64 ((wrap64 (256 * (wrap64 (bt t135 0)))) + (wrap64 (bt t135 1)))) ≥ 32768
        · rw [if_pos c9] at H
          have c9b0 : decide (32768 ≤ (wrap64 ((wrap64 (256 * (wrap64 (bt t135 0)))) + (wrap64 (bt t135 1))))) = true := decide_eq_true c9
          clear c9
          simp only [Option.some.injEq, Prod.mk.injEq] at H
          obtain ⟨rfl, rfl, rfl⟩ := H
          go_enter Try.func16, Try.ntmps16
          go_wp2_with (first | (go_at_call 22; (with_reducible refine (pontoonref01_GetBytes.calls k a0 a1 2 t135 t136 t137 _ A3.out).mono ?_); rintro e w' ⟨rfl, ⟨nd, rfl⟩⟩; (try first | exact ⟨rfl, _, World.drewN_drewN _ _ _⟩ | exact ⟨rfl, _, Eq.trans (World.drewN_drewN _ _ _) (congrArg (World.drewN _) (Nat.add_assoc _ _ _))⟩); have p6 : 0 ≤ (0 : Int) := (by omega); have q6 : 0 < t135.size := (by have : (0 : Int) < (t135.size : Int) := of_decide_eq_true (by first | (with_reducible assumption) | assumption); omega); have hx6 : ∀ h : 0 < t135.size, ((t135[0]'h).toNat : Int) = bt t135 0 := bt_at t135 0; clear p6; have qi6 : (0 < (t135.size : Int)) = True := eq_true (of_decide_eq_true (by first | (with_reducible assumption) | assumption)); replace q6 := eq_true q6; have p8 : 0 ≤ (1 : Int) := (by omega); have q8 : 1 < t135.size := (by have : (1 : Int) < (t135.size : Int) := of_decide_eq_true (by first | (with_reducible assumption) | assumption); omega); have hx8 : ∀ h : 1 < t135.size, ((t135[1]'h).toNat : Int) = bt t135 1 := bt_at t135 1; clear p8; have qi8 : (1 < (t135.size : Int)) = True := eq_true (of_decide_eq_true (by first | (with_reducible assumption) | assumption)); replace q8 := eq_true q8))
          repeat (go_quiet (first | (go_at_call 22; (with_reducible refine (pontoonref01_GetBytes.calls k a0 a1 2 t135 t136 t137 _ A3.out).mono ?_); rintro e w' ⟨rfl, ⟨nd, rfl⟩⟩; (try first | exact ⟨rfl, _, World.drewN_drewN _ _ _⟩ | exact ⟨rfl, _, Eq.trans (World.drewN_drewN _ _ _) (congrArg (World.drewN _) (Nat.add_assoc _ _ _))⟩); have p6 : 0 ≤ (0 : Int) := (by omega); have q6 : 0 < t135.size := (by have : (0 : Int) < (t135.size : Int) := of_decide_eq_true (by first | (with_reducible assumption) | assumption); omega); have hx6 : ∀ h : 0 < t135.size, ((t135[0]'h).toNat : Int) = bt t135 0 := bt_at t135 0; clear p6; have qi6 : (0 < (t135.size : Int)) = True := eq_true (of_decide_eq_true (by first | (with_reducible assumption) | assumption)); replace q6 := eq_true q6; have p8 : 0 ≤ (1 : Int) := (by omega); have q8 : 1 < t135.size := (by have : (1 : Int) < (t135.size : Int) := of_decide_eq_true (by first | (with_reducible assumption) | assumption); omega); have hx8 : ∀ h : 1 < t135.size, ((t135[1]'h).toNat : Int) = bt t135 1 := bt_at t135 1; clear p8; have qi8 : (1 < (t135.size : Int)) = True := eq_true (of_decide_eq_true (by first | (with_reducible assumption) | assumption)); replace q8 := eq_true q8)); try go_wp2_with (first | (go_at_call 22; (with_reducible refine (pontoonref01_GetBytes.calls k a0 a1 2 t135 t136 t137 _ A3.out).mono ?_); rintro e w' ⟨rfl, ⟨nd, rfl⟩⟩; (try first | exact ⟨rfl, _, World.drewN_drewN _ _ _⟩ | exact ⟨rfl, _, Eq.trans (World.drewN_drewN _ _ _) (congrArg (World.drewN _) (Nat.add_assoc _ _ _))⟩); have p6 : 0 ≤ (0 : Int) := (by omega); have q6 : 0 < t135.size := (by have : (0 : Int) < (t135.size : Int) := of_decide_eq_true (by first | (with_reducible assumption) | assumption); omega); have hx6 : ∀ h : 0 < t135.size, ((t135[0]'h).toNat : Int) = bt t135 0 := bt_at t135 0; clear p6; have qi6 : (0 < (t135.size : Int)) = True := eq_true (of_decide_eq_true (by first | (with_reducible assumption) | assumption)); replace q6 := eq_true q6; have p8 : 0 ≤ (1 : Int) := (by omega); have q8 : 1 < t135.size := (by have : (1 : Int) < (t135.size : Int) := of_decide_eq_true (by first | (with_reducible assumption) | assumption); omega); have hx8 : ∀ h : 1 < t135.size, ((t135[1]'h).toNat : Int) = bt t135 1 := bt_at t135 1; clear p8; have qi8 : (1 < (t135.size : Int)) = True := eq_true (of_decide_eq_true (by first | (with_reducible assumption) | assumption)); replace q8 := eq_true q8)))
          go_ret3
          exact ⟨by first | rfl | (simp; done) | (simp [*]; done), by repeat (first | exact Drawn0.refl _ | apply Drawn0.step)⟩
        · rw [if_neg c9] at H
          have c9b0 : decide (32768 ≤ (wrap64 ((wrap64 (256 * (wrap64 (bt t135 0)))) + (wrap64 (bt t135 1))))) = false := decide_eq_false c9
          clear c9
          simp only [Option.some.injEq, Prod.mk.injEq] at H
          obtain ⟨rfl, rfl, rfl⟩ := H
          go_enter Try.func16, Try.ntmps16
          go_wp2_with (first | (go_at_call 22; (with_reducible refine (pontoonref01_GetBytes.calls k a0 a1 2 t135 t136 t137 _ A3.out).mono ?_); rintro e w' ⟨rfl, ⟨nd, rfl⟩⟩; (try first | exact ⟨rfl, _, World.drewN_drewN _ _ _⟩ | exact ⟨rfl, _, Eq.trans (World.drewN_drewN _ _ _) (congrArg (World.drewN _) (Nat.add_assoc _ _ _))⟩); have p6 : 0 ≤ (0 : Int) := (by omega); have q6 : 0 < t135.size := (by have : (0 : Int) < (t135.size : Int) := of_decide_eq_true (by first | (with_reducible assumption) | assumption); omega); have hx6 : ∀ h : 0 < t135.size, ((t135[0]'h).toNat : Int) = bt t135 0 := bt_at t135 0; clear p6; have qi6 : (0 < (t135.size : Int)) = True := eq_true (of_decide_eq_true (by first | (with_reducible assumption) | assumption)); replace q6 := eq_true q6; have p8 : 0 ≤ (1 : Int) := (by omega); have q8 : 1 < t135.size := (by have : (1 : Int) < (t135.size : Int) := of_decide_eq_true (by first | (with_reducible assumption) | assumption); omega); have hx8 : ∀ h : 1 < t135.size, ((t135[1]'h).toNat : Int) = bt t135 1 := bt_at t135 1; clear p8; have qi8 : (1 < (t135.size : Int)) = True := eq_true (of_decide_eq_true (by first | (with_reducible assumption) | assumption)); replace q8 := eq_true q8))
          repeat (go_quiet (first | (go_at_call 22; (with_reducible refine (pontoonref01_GetBytes.calls k a0 a1 2 t135 t136 t137 _ A3.out).mono ?_); rintro e w' ⟨rfl, ⟨nd, rfl⟩⟩; (try first | exact ⟨rfl, _, World.drewN_drewN _ _ _⟩ | exact ⟨rfl, _, Eq.trans (World.drewN_drewN _ _ _) (congrArg (World.drewN _) (Nat.add_assoc _ _ _))⟩); have p6 : 0 ≤ (0 : Int) := (by omega); have q6 : 0 < t135.size := (by have : (0 : Int) < (t135.size : Int) := of_decide_eq_true (by first | (with_reducible assumption) | assumption); omega); have hx6 : ∀ h : 0 < t135.size, ((t135[0]'h).toNat : Int) = bt t135 0 := bt_at t135 0; clear p6; have qi6 : (0 < (t135.size : Int)) = True := eq_true (of_decide_eq_true (by first | (with_reducible assumption) | assumption)); replace q6 := eq_true q6; have p8 : 0 ≤ (1 : Int) := (by omega); have q8 : 1 < t135.size := (by have : (1 : Int) < (t135.size : Int) := of_decide_eq_true (by first | (with_reducible assumption) | assumption); omega); have hx8 : ∀ h : 1 < t135.size, ((t135[1]'h).toNat : Int) = bt t135 1 := bt_at t135 1; clear p8; have qi8 : (1 < (t135.size : Int)) = True := eq_true (of_decide_eq_true (by first | (with_reducible assumption) | assumption)); replace q8 := eq_true q8)); try go_wp2_with (first | (go_at_call 22; (with_reducible refine (pontoonref01_GetBytes.calls k a0 a1 2 t135 t136 t137 _ A3.out).mono ?_); rintro e w' ⟨rfl, ⟨nd, rfl⟩⟩; (try first | exact ⟨rfl, _, World.drewN_drewN _ _ _⟩ | exact ⟨rfl, _, Eq.trans (World.drewN_drewN _ _ _) (congrArg (World.drewN _) (Nat.add_assoc _ _ _))⟩); have p6 : 0 ≤ (0 : Int) := (by omega); have q6 : 0 < t135.size := (by have : (0 : Int) < (t135.size : Int) := of_decide_eq_true (by first | (with_reducible assumption) | assumption); omega); have hx6 : ∀ h : 0 < t135.size, ((t135[0]'h).toNat : Int) = bt t135 0 := bt_at t135 0; clear p6; have qi6 : (0 < (t135.size : Int)) = True := eq_true (of_decide_eq_true (by first | (with_reducible assumption) | assumption)); replace q6 := eq_true q6; have p8 : 0 ≤ (1 : Int) := (by omega); have q8 : 1 < t135.size := (by have : (1 : Int) < (t135.size : Int) := of_decide_eq_true (by first | (with_reducible assumption) | assumption); omega); have hx8 : ∀ h : 1 < t135.size, ((t135[1]'h).toNat : Int) = bt t135 1 := bt_at t135 1; clear p8; have qi8 : (1 < (t135.size : Int)) = True := eq_true (of_decide_eq_true (by first | (with_reducible assumption) | assumption)); replace q8 := eq_true q8)))
          go_ret3
          exact ⟨by first | rfl | (simp; done) | (simp [*]; done), by repeat (first | exact Drawn0.refl _ | apply Drawn0.step)⟩
      · rw [if_neg c7] at H
        exact absurd H (by simp)
    · rw [if_neg c5] at H
      exact absurd H (by simp)
  · rw [if_neg c4] at H
    have c4b0 : (t137 == 0) = false := beq_eq_false_iff_ne.mpr c4
    have c4b1 : (t137 != 0) = true := bne_iff_ne.mpr c4
    simp only [Option.some.injEq, Prod.mk.injEq] at H
    obtain ⟨rfl, rfl, rfl⟩ := H
    go_enter Try.func16, Try.ntmps16
    go_wp2_with (first | (go_at_call 22; (with_reducible refine (pontoonref01_GetBytes.calls k a0 a1 2 t135 t136 t137 _ A3.out).mono ?_); rintro e w' ⟨rfl, ⟨nd, rfl⟩⟩; (try first | exact ⟨rfl, _, World.drewN_drewN _ _ _⟩ | exact ⟨rfl, _, Eq.trans (World.drewN_drewN _ _ _) (congrArg (World.drewN _) (Nat.add_assoc _ _ _))⟩)))
    repeat (go_quiet (first | (go_at_call 22; (with_reducible refine (pontoonref01_GetBytes.calls k a0 a1 2 t135 t136 t137 _ A3.out).mono ?_); rintro e w' ⟨rfl, ⟨nd, rfl⟩⟩; (try first | exact ⟨rfl, _, World.drewN_drewN _ _ _⟩ | exact ⟨rfl, _, Eq.trans (World.drewN_drewN _ _ _) (congrArg (World.drewN _) (Nat.add_assoc _ _ _))⟩))); try go_wp2_with (first | (go_at_call 22; (with_reducible refine (pontoonref01_GetBytes.calls k a0 a1 2 t135 t136 t137 _ A3.out).mono ?_); rintro e w' ⟨rfl, ⟨nd, rfl⟩⟩; (try first | exact ⟨rfl, _, World.drewN_drewN _ _ _⟩ | exact ⟨rfl, _, Eq.trans (World.drewN_drewN _ _ _) (congrArg (World.drewN _) (Nat.add_assoc _ _ _))⟩))))
    go_ret3
    exact ⟨by first | rfl | (simp; done) | (simp [*]; done), by repeat (first | exact Drawn0.refl _ | apply Drawn0.step)⟩

/-! ### pontoonref01_Get32: function 18 -/
def pontoonref01_Get32.l0 : Nat → ByteArray → Int → Int → Int → Option (Int × Int × Int)
  | 0, _, _, _, _ => none
  | k + 1, x7, x8, x10, x11 => if x11 < 4 then (if 0 ≤ x11 then (if x11 < (x7.size : Int) then (pontoonref01_Get32.l0 k x7 x8 (wrap64 ((wrap64 (256 * x10)) + (wrap64 (bt x7 x11)))) (wrap64 (x11 + 1))) else (none)) else (none)) else (if x10 ≥ 2147483648 then (some (wrap64 (x10 - 4294967296), x8, 0)) else (some (x10, x8, 0)))
def pontoonref01_Get32.f (k : Nat) (a0 : ByteArray) (a1 : Int) : Option (Int × Int × Int) := (pontoonref01_GetBytes.f k a0 a1 4).bind fun bt138 => (if bt138.2.2 = 0 then (pontoonref01_Get32.l0 k bt138.1 bt138.2.1 0 0) else (some (0, 0, bt138.2.2)))
theorem pontoonref01_Get32.mono_l : ∀ k, (∀ y0 y1 y2 y3, LeO (pontoonref01_Get32.l0 k y0 y1 y2 y3) (pontoonref01_Get32.l0 (k + 1) y0 y1 y2 y3))
  | 0 => fun _ _ _ _ r h => by simp [pontoonref01_Get32.l0] at h
  | k + 1 => by
    have ih0 := pontoonref01_Get32.mono_l k
    · intro y0 y1 y2 y3
      unfold pontoonref01_Get32.l0
      repeat' first
      | (with_reducible exact ih0 _ _ _ _)
      | (with_reducible exact pontoonref01_GetBytes.mono _ _ _ _)
      | (with_reducible exact LeO.refl _)
      | (with_reducible exact LeO.none _)
      | (with_reducible refine LeO.ite ?_ ?_)
      | (with_reducible refine LeO.bind ?_ (fun _ => ?_))
      | exact ih0 _ _ _ _
      | exact pontoonref01_GetBytes.mono _ _ _ _
      | exact LeO.none _
      | refine LeO.ite ?_ ?_
      | refine LeO.bind ?_ (fun _ => ?_)
theorem pontoonref01_Get32.mono : ∀ a0 a1 k, LeO (pontoonref01_Get32.f k a0 a1) (pontoonref01_Get32.f (k + 1) a0 a1) := by
  intro a0 a1 k
  have ih0 := pontoonref01_Get32.mono_l k
  unfold pontoonref01_Get32.f
  repeat' first
      | (with_reducible exact ih0 _ _ _ _)
      | (with_reducible exact pontoonref01_GetBytes.mono _ _ _ _)
      | (with_reducible exact LeO.refl _)
      | (with_reducible exact LeO.none _)
      | (with_reducible refine LeO.ite ?_ ?_)
      | (with_reducible refine LeO.bind ?_ (fun _ => ?_))
      | exact ih0 _ _ _ _
      | exact pontoonref01_GetBytes.mono _ _ _ _
      | exact LeO.none _
      | refine LeO.ite ?_ ?_
      | refine LeO.bind ?_ (fun _ => ?_)
set_option maxHeartbeats 8000000 in
set_option maxRecDepth 100000 in
theorem pontoonref01_Get32.calls (k : Nat) (a0 : ByteArray) (a1 : Int) (r1 : Int) (r2 : Int) (r3 : Int) (w : World) (h : pontoonref01_Get32.f k a0 a1 = some (r1, r2, r3)) :
    Calls Try.prog 18 #[.string a0, .int .i64 a1] w fun e w' => e = .returned (.tuple #[.int .i64 r1, .int .i64 r2, .int .i64 r3]) ∧ Drawn0 w w' := by
  have H : ((pontoonref01_GetBytes.f k a0 a1 4).bind fun bt138 => (if bt138.2.2 = 0 then (pontoonref01_Get32.l0 k bt138.1 bt138.2.1 0 0) else (some (0, 0, bt138.2.2)))) = some (r1, r2, r3) := h
  clear h
  replace H := Option.bind_eq_some_iff.mp H
  obtain ⟨⟨t138, t139, t140⟩, A30, H⟩ := H
  replace H : (if t140 = 0 then (pontoonref01_Get32.l0 k t138 t139 0 0) else (some (0, 0, t140))) = some (r1, r2, r3) := H
  have A3 := Aside0.mk A30
  clear A30
  by_cases c4 : t140 = 0
  · rw [if_pos c4] at H
    have c4b0 : (t140 == 0) = true := beq_iff_eq.mpr c4
    have c4b1 : (t140 != 0) = false := bne_eq_false_iff_eq.mpr c4
    clear c4
    have H' := Aside0.mk H
    clear H
    go_enter Try.func18, Try.ntmps18
    go_wp2_with (first | ((with_reducible refine gate_callee (f := 22) rfl ?_); refine goesL_ (some 15) rfl rfl Try.func22 (by kernel_rfl) rfl #[.string a0, .int .i64 a1, .int .i64 4] rfl (by (try simp only [List.map_toArray, List.map_cons, List.map_nil]); first | done | rfl | (simp only [List.length_drop, List.length_take]; rfl)) ?_; (with_reducible refine (pontoonref01_GetBytes.calls k a0 a1 4 t138 t139 t140 _ A3.out).mono ?_); rintro e w' ⟨rfl, ⟨nd, rfl⟩⟩; refine ⟨_, rfl, ?_⟩))
    go_loopg [10, 11] k (fun kq v10 v11 w' => ∃ (x10_1 : Int) (x11_1 : Int), v10 = .int .i64 x10_1 ∧ v11 = .int .i64 x11_1 ∧ Aside0 (pontoonref01_Get32.l0 kq t138 t139 x10_1 x11_1 = some (r1, r2, r3)) ∧ Aside0 (kq ≤ k) ∧ Drawn0 w w')
    case atStart => exact ⟨(0), (0), (by first | rfl | (simp; done) | (simp [*]; done)), (by first | rfl | (simp; done) | (simp [*]; done)), H', ⟨Nat.le_refl _⟩, by repeat (first | exact Drawn0.refl _ | apply Drawn0.step)⟩
    case round =>
      clear H'
      try clear c1
      try clear c2
      try clear p2
      try clear c4
      try clear c4b0
      try clear c4b1
      obtain ⟨x10_1, x11_1, rfl, rfl, HA, HK1, ⟨m1, rfl⟩⟩ := hrel
      cases gk with
      | zero => exact absurd HA.out (by simp [pontoonref01_Get32.l0])
      | succ k1 =>
        have H := HA.out
        clear HA
        simp only [pontoonref01_Get32.l0] at H
        by_cases c5 : x11_1 < 4
        · rw [if_pos c5] at H
          have c5b0 : decide (x11_1 < 4) = true := decide_eq_true c5
          clear c5
          by_cases c6 : 0 ≤ x11_1
          · rw [if_pos c6] at H
            have c6b0 : decide (0 ≤ x11_1) = true := decide_eq_true c6
            clear c6
            by_cases c7 : x11_1 < (t138.size : Int)
            · rw [if_pos c7] at H
              have c7b0 : decide (x11_1 < (t138.size : Int)) = true := decide_eq_true c7
              clear c7
              have H' := Aside0.mk H
              clear H
              have p8 : 0 ≤ (x11_1 : Int) := of_decide_eq_true (by first | (with_reducible assumption) | assumption)
              have q8 : x11_1 < (t138.size : Int) := of_decide_eq_true (by first | (with_reducible assumption) | assumption)
              have hx8 := bt_at t138 x11_1
              have q8n := q8
              replace p8 := eq_true p8
              replace q8 := eq_true q8
              go_wp2
              go_roundg k1
              case measure => have := HK1.out; omega
              case rel => exact ⟨(wrap64 ((wrap64 (256 * x10_1)) + (wrap64 (bt t138 x11_1)))), (wrap64 (x11_1 + 1)), (by first | rfl | (simp; done) | (simp [*]; done)), (by first | rfl | (simp; done) | (simp [*]; done)), H', ⟨by have := HK1.out; omega⟩, by repeat (first | exact Drawn0.refl _ | apply Drawn0.step)⟩
            · rw [if_neg c7] at H
              exact absurd H (by simp)
          · rw [if_neg c6] at H
            exact absurd H (by simp)
        · rw [if_neg c5] at H
          have c5b0 : decide (x11_1 < 4) = false := decide_eq_false c5
          clear c5
          by_cases c9 : x10_1 ≥ 2147483648
          · rw [if_pos c9] at H
            have c9b0 : decide (2147483648 ≤ x10_1) = true := decide_eq_true c9
            clear c9
            simp only [Option.some.injEq, Prod.mk.injEq] at H
            obtain ⟨rfl, rfl, rfl⟩ := H
            go_wp2
            go_ret3
            exact ⟨by first | rfl | (simp; done) | (simp [*]; done), by repeat (first | exact Drawn0.refl _ | apply Drawn0.step)⟩
          · rw [if_neg c9] at H
            have c9b0 : decide (2147483648 ≤ x10_1) = false := decide_eq_false c9
            clear c9
            simp only [Option.some.injEq, Prod.mk.injEq] at H
            obtain ⟨rfl, rfl, rfl⟩ := H
            go_wp2
            go_ret3
            exact ⟨by first | rfl | (simp; done) | (simp [*]; done), by repeat (first | exact Drawn0.refl _ | apply Drawn0.step)⟩
  · rw [if_neg c4] at H
    have c4b0 : (t140 == 0) = false := beq_eq_false_iff_ne.mpr c4
    have c4b1 : (t140 != 0) = true := bne_iff_ne.mpr c4
    simp only [Option.some.injEq, Prod.mk.injEq] at H
    obtain ⟨rfl, rfl, rfl⟩ := H
    go_enter Try.func18, Try.ntmps18
    go_wp2_with (first | ((with_reducible refine gate_callee (f := 22) rfl ?_); refine goesL_ (some 15) rfl rfl Try.func22 (by kernel_rfl) rfl #[.string a0, .int .i64 a1, .int .i64 4] rfl (by (try simp only [List.map_toArray, List.map_cons, List.map_nil]); first | done | rfl | (simp only [List.length_drop, List.length_take]; rfl)) ?_; (with_reducible refine (pontoonref01_GetBytes.calls k a0 a1 4 t138 t139 t140 _ A3.out).mono ?_); rintro e w' ⟨rfl, ⟨nd, rfl⟩⟩; refine ⟨_, rfl, ?_⟩))
    go_ret3
    exact ⟨by first | rfl | (simp; done) | (simp [*]; done), by repeat (first | exact Drawn0.refl _ | apply Drawn0.step)⟩

/-! ### pontoonref01_GetText: function 20 -/
mutual
def pontoonref01_GetText.j0 : Nat → ByteArray → Int → Bool → Option (ByteArray × Int × Int)
  | 0, _, _, _ => none
  | k + 1, x0, x1, x15 => if x15 = true then (some ((⟨#[]⟩ : ByteArray), 0, 1)) else (pontoonref01_GetText.l0 k x0 x1 x1)
def pontoonref01_GetText.l0 : Nat → ByteArray → Int → Int → Option (ByteArray × Int × Int)
  | 0, _, _, _ => none
  | k + 1, x0, x1, x7 => if x7 < (x0.size : Int) then (if 0 ≤ x7 then (if (bt x0 x7) = 0 then (if 0 ≤ x1 then (if x1 ≤ x7 then (if x7 ≤ (x0.size : Int) then (some (x0.extract (x1 : Int).toNat (x7 : Int).toNat, wrap64 (x7 + 1), 0)) else (none)) else (none)) else (none)) else (pontoonref01_GetText.l0 k x0 x1 (wrap64 (x7 + 1)))) else (none)) else (some ((⟨#[]⟩ : ByteArray), 0, 3))
end
def pontoonref01_GetText.f (k : Nat) (a0 : ByteArray) (a1 : Int) : Option (ByteArray × Int × Int) := if a1 < 0 then (pontoonref01_GetText.j0 k a0 a1 true) else (pontoonref01_GetText.j0 k a0 a1 (decide (a1 > (a0.size : Int))))
theorem pontoonref01_GetText.mono_l : ∀ k, (∀ y0 y1 y2, LeO (pontoonref01_GetText.j0 k y0 y1 y2) (pontoonref01_GetText.j0 (k + 1) y0 y1 y2)) ∧ (∀ y0 y1 y2, LeO (pontoonref01_GetText.l0 k y0 y1 y2) (pontoonref01_GetText.l0 (k + 1) y0 y1 y2))
  | 0 => ⟨fun _ _ _ r h => by simp [pontoonref01_GetText.j0] at h, fun _ _ _ r h => by simp [pontoonref01_GetText.l0] at h⟩
  | k + 1 => by
    obtain ⟨ih0, ih1⟩ := pontoonref01_GetText.mono_l k
    refine ⟨?_, ?_⟩
    · intro y0 y1 y2
      unfold pontoonref01_GetText.j0
      repeat' first
      | (with_reducible exact ih0 _ _ _)
      | (with_reducible exact ih1 _ _ _)
      | (with_reducible exact LeO.refl _)
      | (with_reducible exact LeO.none _)
      | (with_reducible refine LeO.ite ?_ ?_)
      | (with_reducible refine LeO.bind ?_ (fun _ => ?_))
      | exact ih0 _ _ _
      | exact ih1 _ _ _
      | exact LeO.none _
      | refine LeO.ite ?_ ?_
      | refine LeO.bind ?_ (fun _ => ?_)
    · intro y0 y1 y2
      unfold pontoonref01_GetText.l0
      repeat' first
      | (with_reducible exact ih0 _ _ _)
      | (with_reducible exact ih1 _ _ _)
      | (with_reducible exact LeO.refl _)
      | (with_reducible exact LeO.none _)
      | (with_reducible refine LeO.ite ?_ ?_)
      | (with_reducible refine LeO.bind ?_ (fun _ => ?_))
      | exact ih0 _ _ _
      | exact ih1 _ _ _
      | exact LeO.none _
      | refine LeO.ite ?_ ?_
      | refine LeO.bind ?_ (fun _ => ?_)
theorem pontoonref01_GetText.mono : ∀ a0 a1 k, LeO (pontoonref01_GetText.f k a0 a1) (pontoonref01_GetText.f (k + 1) a0 a1) := by
  intro a0 a1 k
  obtain ⟨ih0, ih1⟩ := pontoonref01_GetText.mono_l k
  unfold pontoonref01_GetText.f
  repeat' first
      | (with_reducible exact ih0 _ _ _)
      | (with_reducible exact ih1 _ _ _)
      | (with_reducible exact LeO.refl _)
      | (with_reducible exact LeO.none _)
      | (with_reducible refine LeO.ite ?_ ?_)
      | (with_reducible refine LeO.bind ?_ (fun _ => ?_))
      | exact ih0 _ _ _
      | exact ih1 _ _ _
      | exact LeO.none _
      | refine LeO.ite ?_ ?_
      | refine LeO.bind ?_ (fun _ => ?_)
set_option maxHeartbeats 8000000 in
set_option maxRecDepth 100000 in
theorem pontoonref01_GetText.calls (k : Nat) (a0 : ByteArray) (a1 : Int) (r1 : ByteArray) (r2 : Int) (r3 : Int) (w : World) (h : pontoonref01_GetText.f k a0 a1 = some (r1, r2, r3)) :
    Calls Try.prog 20 #[.string a0, .int .i64 a1] w fun e w' => e = .returned (.tuple #[.string r1, .int .i64 r2, .int .i64 r3]) ∧ Drawn0 w w' := by
  have H : (if a1 < 0 then (pontoonref01_GetText.j0 k a0 a1 true) else (pontoonref01_GetText.j0 k a0 a1 (decide (a1 > (a0.size : Int))))) = some (r1, r2, r3) := h
  clear h
  have HC3 := Aside0.mk H
  clear H
  go_enter Try.func20, Try.ntmps20
  go_upto_region 1 with (fail)
  go_cut [15] (fun v15 wc => ∃ (kq : Nat) (x15_2 : Bool), v15 = .bool x15_2 ∧ Aside0 (pontoonref01_GetText.j0 kq a0 a1 x15_2 = some (r1, r2, r3)) ∧ Aside0 (kq ≤ k) ∧ Drawn0 w wc)
  case first =>
    have H := HC3.out
    clear HC3
    by_cases c4 : a1 < 0
    · rw [if_pos c4] at H
      have c4b0 : decide (a1 < 0) = true := decide_eq_true c4
      clear c4
      (first | rw [c4b0] | (simp only [i64_w, i32_w]; rw [c4b0]) | skip)
      have H' := Aside0.mk H
      clear H
      go_wp2
      go_meet
      case rel => exact ⟨_, (true), (by first | rfl | (simp; done) | (simp [*]; done)), H', ⟨by first | omega | exact Nat.le_refl _⟩, by repeat (first | exact Drawn0.refl _ | apply Drawn0.step)⟩
    · rw [if_neg c4] at H
      have c4b0 : decide (a1 < 0) = false := decide_eq_false c4
      clear c4
      (first | rw [c4b0] | (simp only [i64_w, i32_w]; rw [c4b0]) | skip)
      have H' := Aside0.mk H
      clear H
      go_wp2
      go_meet
      case rel => exact ⟨_, (decide (a1 > (a0.size : Int))), (by first | rfl | (simp; done) | (simp [*]; done)), H', ⟨by first | omega | exact Nat.le_refl _⟩, by repeat (first | exact Drawn0.refl _ | apply Drawn0.step)⟩
  case rest =>
    clear HC3
    try clear c2
    try clear p2
    try clear c4
    try clear c4b0
    obtain ⟨kq, x15_2, rfl, HA, HJ2, ⟨mc2, rfl⟩⟩ := hcut
    cases kq with
    | zero => exact absurd HA.out (by simp [pontoonref01_GetText.j0])
    | succ kj2 =>
      have H := HA.out
      clear HA
      simp only [pontoonref01_GetText.j0] at H
      by_cases c5 : x15_2 = true
      · subst c5
        have H1 : (some ((⟨#[]⟩ : ByteArray), 0, 1)) = some (r1, r2, r3) := by rw [if_pos rfl] at H; exact H
        clear H
        have H := H1
        clear H1
        simp only [Option.some.injEq, Prod.mk.injEq] at H
        obtain ⟨rfl, rfl, rfl⟩ := H
        go_wp2
        go_ret3
        exact ⟨by first | rfl | (simp; done) | (simp [*]; done), by repeat (first | exact Drawn0.refl _ | apply Drawn0.step)⟩
      · replace c5 := Bool.eq_false_iff.mpr c5
        subst c5
        have H1 : (pontoonref01_GetText.l0 kj2 a0 a1 a1) = some (r1, r2, r3) := by rw [if_neg (show ¬ (false = true) by decide)] at H; exact H
        clear H
        have H := H1
        clear H1
        have H' := Aside0.mk H
        clear H
        go_wp2
        go_loopg [7] kj2 (fun kq v7 w' => ∃ (x7_2 : Int), v7 = .int .i64 x7_2 ∧ Aside0 (pontoonref01_GetText.l0 kq a0 a1 x7_2 = some (r1, r2, r3)) ∧ Aside0 (kq ≤ kj2) ∧ Drawn0 w w')
        case atStart => exact ⟨(a1), (by first | rfl | (simp; done) | (simp [*]; done)), H', ⟨Nat.le_refl _⟩, by repeat (first | exact Drawn0.refl _ | apply Drawn0.step)⟩
        case round =>
          clear H'
          try clear c2
          try clear p2
          try clear c4
          try clear c4b0
          try clear c5
          try clear p2
          obtain ⟨x7_2, rfl, HA, HK2, ⟨m2, rfl⟩⟩ := hrel
          cases gk with
          | zero => exact absurd HA.out (by simp [pontoonref01_GetText.l0])
          | succ k2 =>
            have H := HA.out
            clear HA
            simp only [pontoonref01_GetText.l0] at H
            by_cases c6 : x7_2 < (a0.size : Int)
            · rw [if_pos c6] at H
              have c6b0 : decide (x7_2 < (a0.size : Int)) = true := decide_eq_true c6
              clear c6
              by_cases c7 : 0 ≤ x7_2
              · rw [if_pos c7] at H
                have c7b0 : decide (0 ≤ x7_2) = true := decide_eq_true c7
                clear c7
                by_cases c9 : (bt a0 x7_2) = 0
                · rw [if_pos c9] at H
                  have c9b0 : ((bt a0 x7_2) == 0) = true := beq_iff_eq.mpr c9
                  have c9b1 : ((bt a0 x7_2) != 0) = false := bne_eq_false_iff_eq.mpr c9
                  clear c9
                  by_cases c10 : 0 ≤ a1
                  · rw [if_pos c10] at H
                    have c10b0 := eq_true c10
                    have c10b1 : decide (0 ≤ a1) = true := decide_eq_true c10
                    by_cases c11 : a1 ≤ x7_2
                    · rw [if_pos c11] at H
                      have c11b0 := eq_true c11
                      have c11b1 : decide (a1 ≤ x7_2) = true := decide_eq_true c11
                      by_cases c12 : x7_2 ≤ (a0.size : Int)
                      · rw [if_pos c12] at H
                        have c12b0 := eq_true c12
                        have c12b1 : decide (x7_2 ≤ (a0.size : Int)) = true := decide_eq_true c12
                        simp only [Option.some.injEq, Prod.mk.injEq] at H
                        obtain ⟨rfl, rfl, rfl⟩ := H
                        have p8 : 0 ≤ (x7_2 : Int) := of_decide_eq_true (by first | (with_reducible assumption) | assumption)
                        have q8 : x7_2 < (a0.size : Int) := of_decide_eq_true (by first | (with_reducible assumption) | assumption)
                        have hx8 := bt_at a0 x7_2
                        have q8n := q8
                        replace p8 := eq_true p8
                        replace q8 := eq_true q8
                        go_wp2
                        go_ret3
                        exact ⟨by first | rfl | (simp; done) | (simp [*]; done), by repeat (first | exact Drawn0.refl _ | apply Drawn0.step)⟩
                      · rw [if_neg c12] at H
                        exact absurd H (by simp)
                    · rw [if_neg c11] at H
                      exact absurd H (by simp)
                  · rw [if_neg c10] at H
                    exact absurd H (by simp)
                · rw [if_neg c9] at H
                  have c9b0 : ((bt a0 x7_2) == 0) = false := beq_eq_false_iff_ne.mpr c9
                  have c9b1 : ((bt a0 x7_2) != 0) = true := bne_iff_ne.mpr c9
                  have H' := Aside0.mk H
                  clear H
                  have p8 : 0 ≤ (x7_2 : Int) := of_decide_eq_true (by first | (with_reducible assumption) | assumption)
                  have q8 : x7_2 < (a0.size : Int) := of_decide_eq_true (by first | (with_reducible assumption) | assumption)
                  have hx8 := bt_at a0 x7_2
                  have q8n := q8
                  replace p8 := eq_true p8
                  replace q8 := eq_true q8
                  go_wp2
                  go_roundg k2
                  case measure => have := HJ2.out; have := HK2.out; omega
                  case rel => exact ⟨(wrap64 (x7_2 + 1)), (by first | rfl | (simp; done) | (simp [*]; done)), H', ⟨by have := HJ2.out; have := HK2.out; omega⟩, by repeat (first | exact Drawn0.refl _ | apply Drawn0.step)⟩
              · rw [if_neg c7] at H
                exact absurd H (by simp)
            · rw [if_neg c6] at H
              have c6b0 : decide (x7_2 < (a0.size : Int)) = false := decide_eq_false c6
              clear c6
              simp only [Option.some.injEq, Prod.mk.injEq] at H
              obtain ⟨rfl, rfl, rfl⟩ := H
              go_wp2
              go_ret3
              exact ⟨by first | rfl | (simp; done) | (simp [*]; done), by repeat (first | exact Drawn0.refl _ | apply Drawn0.step)⟩

/-! ### pontoonlaw01_OctetGets: function 4 -/
def pontoonlaw01_OctetGets.j0 : Nat → ByteArray → Int → Int → Bool → Option (Bool)
  | 0, _, _, _, _ => none
  | k + 1, x0, x1, x2, x86 => if x86 = true then (some false) else ((octet_GetText.f x0 x1).bind fun bt153 => ((pontoonref01_GetText.f k x0 x1).bind fun bt156 => ((octet_GetBytes.f x0 x1 x2).bind fun bt159 => ((pontoonref01_GetBytes.f k x0 x1 x2).bind fun bt162 => (if bt153.1.toList = bt156.1.toList then (if bt153.2.1 = bt156.2.1 then (if bt153.2.2 = bt156.2.2 then (if bt159.1.toList = bt162.1.toList then (if bt159.2.1 = bt162.2.1 then (if bt159.2.2 = bt162.2.2 then ((pontoonlaw01_known.f).bind fun t165 => (some t165)) else (some false)) else (some false)) else (some false)) else (some false)) else (some false)) else (some false))))))
def pontoonlaw01_OctetGets.f (k : Nat) (a0 : ByteArray) (a1 : Int) (a2 : Int) : Option (Bool) := (octet_Get16.f a0 a1).bind fun bt141 => ((pontoonref01_Get16.f k a0 a1).bind fun bt144 => ((octet_Get32.f a0 a1).bind fun bt147 => ((pontoonref01_Get32.f k a0 a1).bind fun bt150 => (if bt141.1 = bt144.1 then (if bt141.2.1 = bt144.2.1 then (if bt141.2.2 = bt144.2.2 then (if bt147.1 = bt150.1 then (if bt147.2.1 = bt150.2.1 then (pontoonlaw01_OctetGets.j0 k a0 a1 a2 (bt147.2.2 != bt150.2.2)) else (pontoonlaw01_OctetGets.j0 k a0 a1 a2 true)) else (pontoonlaw01_OctetGets.j0 k a0 a1 a2 true)) else (pontoonlaw01_OctetGets.j0 k a0 a1 a2 true)) else (pontoonlaw01_OctetGets.j0 k a0 a1 a2 true)) else (pontoonlaw01_OctetGets.j0 k a0 a1 a2 true)))))
theorem pontoonlaw01_OctetGets.mono_l : ∀ k, (∀ y0 y1 y2 y3, LeO (pontoonlaw01_OctetGets.j0 k y0 y1 y2 y3) (pontoonlaw01_OctetGets.j0 (k + 1) y0 y1 y2 y3))
  | 0 => fun _ _ _ _ r h => by simp [pontoonlaw01_OctetGets.j0] at h
  | k + 1 => by
    have ih0 := pontoonlaw01_OctetGets.mono_l k
    · intro y0 y1 y2 y3
      unfold pontoonlaw01_OctetGets.j0
      repeat' first
      | (with_reducible exact ih0 _ _ _ _)
      | (with_reducible exact pontoonref01_Get16.mono _ _ _)
      | (with_reducible exact pontoonref01_Get32.mono _ _ _)
      | (with_reducible exact pontoonref01_GetBytes.mono _ _ _ _)
      | (with_reducible exact pontoonref01_GetText.mono _ _ _)
      | (with_reducible exact LeO.refl _)
      | (with_reducible exact LeO.none _)
      | (with_reducible refine LeO.ite ?_ ?_)
      | (with_reducible refine LeO.bind ?_ (fun _ => ?_))
      | exact ih0 _ _ _ _
      | exact pontoonref01_Get16.mono _ _ _
      | exact pontoonref01_Get32.mono _ _ _
      | exact pontoonref01_GetBytes.mono _ _ _ _
      | exact pontoonref01_GetText.mono _ _ _
      | exact LeO.none _
      | refine LeO.ite ?_ ?_
      | refine LeO.bind ?_ (fun _ => ?_)
theorem pontoonlaw01_OctetGets.mono : ∀ a0 a1 a2 k, LeO (pontoonlaw01_OctetGets.f k a0 a1 a2) (pontoonlaw01_OctetGets.f (k + 1) a0 a1 a2) := by
  intro a0 a1 a2 k
  have ih0 := pontoonlaw01_OctetGets.mono_l k
  unfold pontoonlaw01_OctetGets.f
  repeat' first
      | (with_reducible exact ih0 _ _ _ _)
      | (with_reducible exact pontoonref01_Get16.mono _ _ _)
      | (with_reducible exact pontoonref01_Get32.mono _ _ _)
      | (with_reducible exact pontoonref01_GetBytes.mono _ _ _ _)
      | (with_reducible exact pontoonref01_GetText.mono _ _ _)
      | (with_reducible exact LeO.refl _)
      | (with_reducible exact LeO.none _)
      | (with_reducible refine LeO.ite ?_ ?_)
      | (with_reducible refine LeO.bind ?_ (fun _ => ?_))
      | exact ih0 _ _ _ _
      | exact pontoonref01_Get16.mono _ _ _
      | exact pontoonref01_Get32.mono _ _ _
      | exact pontoonref01_GetBytes.mono _ _ _ _
      | exact pontoonref01_GetText.mono _ _ _
      | exact LeO.none _
      | refine LeO.ite ?_ ?_
      | refine LeO.bind ?_ (fun _ => ?_)
set_option maxHeartbeats 8000000 in
set_option maxRecDepth 100000 in
theorem pontoonlaw01_OctetGets.calls (k : Nat) (a0 : ByteArray) (a1 : Int) (a2 : Int) (r : Bool) (w : World) (h : pontoonlaw01_OctetGets.f k a0 a1 a2 = some r) :
    Calls Try.prog 4 #[.string a0, .int .i64 a1, .int .i64 a2] w fun e w' => e = .returned (.bool r) ∧ Below w.heap.size w w' := by
  have HB := Aside0.mk (Below.refl w.heap.size w)
  have H : ((octet_Get16.f a0 a1).bind fun bt141 => ((pontoonref01_Get16.f k a0 a1).bind fun bt144 => ((octet_Get32.f a0 a1).bind fun bt147 => ((pontoonref01_Get32.f k a0 a1).bind fun bt150 => (if bt141.1 = bt144.1 then (if bt141.2.1 = bt144.2.1 then (if bt141.2.2 = bt144.2.2 then (if bt147.1 = bt150.1 then (if bt147.2.1 = bt150.2.1 then (pontoonlaw01_OctetGets.j0 k a0 a1 a2 (bt147.2.2 != bt150.2.2)) else (pontoonlaw01_OctetGets.j0 k a0 a1 a2 true)) else (pontoonlaw01_OctetGets.j0 k a0 a1 a2 true)) else (pontoonlaw01_OctetGets.j0 k a0 a1 a2 true)) else (pontoonlaw01_OctetGets.j0 k a0 a1 a2 true)) else (pontoonlaw01_OctetGets.j0 k a0 a1 a2 true)))))) = some r := h
  clear h
  replace H := Option.bind_eq_some_iff.mp H
  obtain ⟨⟨t141, t142, t143⟩, A40, H⟩ := H
  replace H : ((pontoonref01_Get16.f k a0 a1).bind fun bt144 => ((octet_Get32.f a0 a1).bind fun bt147 => ((pontoonref01_Get32.f k a0 a1).bind fun bt150 => (if t141 = bt144.1 then (if t142 = bt144.2.1 then (if t143 = bt144.2.2 then (if bt147.1 = bt150.1 then (if bt147.2.1 = bt150.2.1 then (pontoonlaw01_OctetGets.j0 k a0 a1 a2 (bt147.2.2 != bt150.2.2)) else (pontoonlaw01_OctetGets.j0 k a0 a1 a2 true)) else (pontoonlaw01_OctetGets.j0 k a0 a1 a2 true)) else (pontoonlaw01_OctetGets.j0 k a0 a1 a2 true)) else (pontoonlaw01_OctetGets.j0 k a0 a1 a2 true)) else (pontoonlaw01_OctetGets.j0 k a0 a1 a2 true))))) = some r := H
  have A4 := Aside0.mk A40
  clear A40
  replace H := Option.bind_eq_some_iff.mp H
  obtain ⟨⟨t144, t145, t146⟩, A50, H⟩ := H
  replace H : ((octet_Get32.f a0 a1).bind fun bt147 => ((pontoonref01_Get32.f k a0 a1).bind fun bt150 => (if t141 = t144 then (if t142 = t145 then (if t143 = t146 then (if bt147.1 = bt150.1 then (if bt147.2.1 = bt150.2.1 then (pontoonlaw01_OctetGets.j0 k a0 a1 a2 (bt147.2.2 != bt150.2.2)) else (pontoonlaw01_OctetGets.j0 k a0 a1 a2 true)) else (pontoonlaw01_OctetGets.j0 k a0 a1 a2 true)) else (pontoonlaw01_OctetGets.j0 k a0 a1 a2 true)) else (pontoonlaw01_OctetGets.j0 k a0 a1 a2 true)) else (pontoonlaw01_OctetGets.j0 k a0 a1 a2 true)))) = some r := H
  have A5 := Aside0.mk A50
  clear A50
  replace H := Option.bind_eq_some_iff.mp H
  obtain ⟨⟨t147, t148, t149⟩, A60, H⟩ := H
  replace H : ((pontoonref01_Get32.f k a0 a1).bind fun bt150 => (if t141 = t144 then (if t142 = t145 then (if t143 = t146 then (if t147 = bt150.1 then (if t148 = bt150.2.1 then (pontoonlaw01_OctetGets.j0 k a0 a1 a2 (t149 != bt150.2.2)) else (pontoonlaw01_OctetGets.j0 k a0 a1 a2 true)) else (pontoonlaw01_OctetGets.j0 k a0 a1 a2 true)) else (pontoonlaw01_OctetGets.j0 k a0 a1 a2 true)) else (pontoonlaw01_OctetGets.j0 k a0 a1 a2 true)) else (pontoonlaw01_OctetGets.j0 k a0 a1 a2 true))) = some r := H
  have A6 := Aside0.mk A60
  clear A60
  replace H := Option.bind_eq_some_iff.mp H
  obtain ⟨⟨t150, t151, t152⟩, A70, H⟩ := H
  replace H : (if t141 = t144 then (if t142 = t145 then (if t143 = t146 then (if t147 = t150 then (if t148 = t151 then (pontoonlaw01_OctetGets.j0 k a0 a1 a2 (t149 != t152)) else (pontoonlaw01_OctetGets.j0 k a0 a1 a2 true)) else (pontoonlaw01_OctetGets.j0 k a0 a1 a2 true)) else (pontoonlaw01_OctetGets.j0 k a0 a1 a2 true)) else (pontoonlaw01_OctetGets.j0 k a0 a1 a2 true)) else (pontoonlaw01_OctetGets.j0 k a0 a1 a2 true)) = some r := H
  have A7 := Aside0.mk A70
  clear A70
  have HC8 := Aside0.mk H
  clear H
  go_enter Try.func4, Try.ntmps4
  go_upto_region 5 with (first | ((with_reducible refine gate_callee (f := 15) rfl ?_); refine goesL_ (some 34) rfl rfl Try.func15 (by kernel_rfl) rfl #[.string a0, .int .i64 a1] rfl (by (try simp only [List.map_toArray, List.map_cons, List.map_nil]); first | done | rfl | (simp only [List.length_drop, List.length_take]; rfl)) ?_; (with_reducible refine (octet_Get16.calls a0 a1 t141 t142 t143 _ A4.out).mono ?_); rintro e w9 ⟨rfl, hb⟩; refine ⟨_, rfl, ?_⟩; have n0_ := Aside0.mk (below_step (by repeat (first | (with_reducible first | exact HB.out | apply below_alloc | apply pw_below_drewN | apply below_drew1) | exact HB.out)) hb); clear HB; have HB := n0_; clear n0_; (try clear hb); (try clear hb2); (try clear hk); (try clear hi)) | ((with_reducible refine gate_callee (f := 16) rfl ?_); refine goesL_ (some 41) rfl rfl Try.func16 (by kernel_rfl) rfl #[.string a0, .int .i64 a1] rfl (by (try simp only [List.map_toArray, List.map_cons, List.map_nil]); first | done | rfl | (simp only [List.length_drop, List.length_take]; rfl)) ?_; (with_reducible refine (pontoonref01_Get16.calls k a0 a1 t144 t145 t146 _ A5.out).mono ?_); rintro e w' ⟨rfl, ⟨nd, rfl⟩⟩; refine ⟨_, rfl, ?_⟩) | ((with_reducible refine gate_callee (f := 17) rfl ?_); refine goesL_ (some 48) rfl rfl Try.func17 (by kernel_rfl) rfl #[.string a0, .int .i64 a1] rfl (by (try simp only [List.map_toArray, List.map_cons, List.map_nil]); first | done | rfl | (simp only [List.length_drop, List.length_take]; rfl)) ?_; (with_reducible refine (octet_Get32.calls a0 a1 t147 t148 t149 _ A6.out).mono ?_); rintro e w10 ⟨rfl, hb⟩; refine ⟨_, rfl, ?_⟩; have n0_ := Aside0.mk (below_step (by repeat (first | (with_reducible first | exact HB.out | apply below_alloc | apply pw_below_drewN | apply below_drew1) | exact HB.out)) hb); clear HB; have HB := n0_; clear n0_; (try clear hb); (try clear hb2); (try clear hk); (try clear hi)) | ((with_reducible refine gate_callee (f := 18) rfl ?_); refine goesL_ (some 55) rfl rfl Try.func18 (by kernel_rfl) rfl #[.string a0, .int .i64 a1] rfl (by (try simp only [List.map_toArray, List.map_cons, List.map_nil]); first | done | rfl | (simp only [List.length_drop, List.length_take]; rfl)) ?_; (with_reducible refine (pontoonref01_Get32.calls k a0 a1 t150 t151 t152 _ A7.out).mono ?_); rintro e w' ⟨rfl, ⟨nd, rfl⟩⟩; refine ⟨_, rfl, ?_⟩))
  (try simp only [Act.put, List.setIfInBounds_toArray, List.set_cons_zero, List.set_cons_succ])
  go_cut [86] (fun v86 wc => ∃ (kq : Nat) (x86_7 : Bool), v86 = .bool x86_7 ∧ Aside0 (pontoonlaw01_OctetGets.j0 kq a0 a1 a2 x86_7 = some r) ∧ Aside0 (kq ≤ k) ∧ Aside0 (Below w.heap.size w wc))
  case first =>
    have H := HC8.out
    clear HC8
    by_cases c11 : t141 = t144
    · rw [if_pos c11] at H
      have c11b0 : (t141 == t144) = true := beq_iff_eq.mpr c11
      have c11b1 : (t141 != t144) = false := bne_eq_false_iff_eq.mpr c11
      clear c11
      (first | rw [c11b0] | (simp only [i64_w, i32_w]; rw [c11b0]) | skip)
      by_cases c12 : t142 = t145
      · rw [if_pos c12] at H
        have c12b0 : (t142 == t145) = true := beq_iff_eq.mpr c12
        have c12b1 : (t142 != t145) = false := bne_eq_false_iff_eq.mpr c12
        clear c12
        by_cases c13 : t143 = t146
        · rw [if_pos c13] at H
          have c13b0 : (t143 == t146) = true := beq_iff_eq.mpr c13
          have c13b1 : (t143 != t146) = false := bne_eq_false_iff_eq.mpr c13
          clear c13
          by_cases c14 : t147 = t150
          · rw [if_pos c14] at H
            have c14b0 : (t147 == t150) = true := beq_iff_eq.mpr c14
            have c14b1 : (t147 != t150) = false := bne_eq_false_iff_eq.mpr c14
            clear c14
            by_cases c15 : t148 = t151
            · rw [if_pos c15] at H
              have c15b0 : (t148 == t151) = true := beq_iff_eq.mpr c15
              have c15b1 : (t148 != t151) = false := bne_eq_false_iff_eq.mpr c15
              clear c15
              have H' := Aside0.mk H
              clear H
              go_wp2
              go_meet
              case rel => exact ⟨_, ((t149 != t152)), (by first | rfl | (simp; done) | (simp [*]; done)), H', ⟨by first | omega | exact Nat.le_refl _⟩, ⟨by repeat (first | (with_reducible first | exact HB.out | apply below_alloc | apply pw_below_drewN | apply below_drew1) | exact HB.out)⟩⟩
            · rw [if_neg c15] at H
              have c15b0 : (t148 == t151) = false := beq_eq_false_iff_ne.mpr c15
              have c15b1 : (t148 != t151) = true := bne_iff_ne.mpr c15
              have H' := Aside0.mk H
              clear H
              go_wp2
              go_meet
              case rel => exact ⟨_, (true), (by first | rfl | (simp; done) | (simp [*]; done)), H', ⟨by first | omega | exact Nat.le_refl _⟩, ⟨by repeat (first | (with_reducible first | exact HB.out | apply below_alloc | apply pw_below_drewN | apply below_drew1) | exact HB.out)⟩⟩
          · rw [if_neg c14] at H
            have c14b0 : (t147 == t150) = false := beq_eq_false_iff_ne.mpr c14
            have c14b1 : (t147 != t150) = true := bne_iff_ne.mpr c14
            have H' := Aside0.mk H
            clear H
            go_wp2
            go_meet
            case rel => exact ⟨_, (true), (by first | rfl | (simp; done) | (simp [*]; done)), H', ⟨by first | omega | exact Nat.le_refl _⟩, ⟨by repeat (first | (with_reducible first | exact HB.out | apply below_alloc | apply pw_below_drewN | apply below_drew1) | exact HB.out)⟩⟩
        · rw [if_neg c13] at H
          have c13b0 : (t143 == t146) = false := beq_eq_false_iff_ne.mpr c13
          have c13b1 : (t143 != t146) = true := bne_iff_ne.mpr c13
          have H' := Aside0.mk H
          clear H
          go_wp2
          go_meet
          case rel => exact ⟨_, (true), (by first | rfl | (simp; done) | (simp [*]; done)), H', ⟨by first | omega | exact Nat.le_refl _⟩, ⟨by repeat (first | (with_reducible first | exact HB.out | apply below_alloc | apply pw_below_drewN | apply below_drew1) | exact HB.out)⟩⟩
      · rw [if_neg c12] at H
        have c12b0 : (t142 == t145) = false := beq_eq_false_iff_ne.mpr c12
        have c12b1 : (t142 != t145) = true := bne_iff_ne.mpr c12
        have H' := Aside0.mk H
        clear H
        go_wp2
        go_meet
        case rel => exact ⟨_, (true), (by first | rfl | (simp; done) | (simp [*]; done)), H', ⟨by first | omega | exact Nat.le_refl _⟩, ⟨by repeat (first | (with_reducible first | exact HB.out | apply below_alloc | apply pw_below_drewN | apply below_drew1) | exact HB.out)⟩⟩
    · rw [if_neg c11] at H
      have c11b0 : (t141 == t144) = false := beq_eq_false_iff_ne.mpr c11
      have c11b1 : (t141 != t144) = true := bne_iff_ne.mpr c11
      (first | rw [c11b0] | (simp only [i64_w, i32_w]; rw [c11b0]) | skip)
      have H' := Aside0.mk H
      clear H
      go_wp2
      go_meet
      case rel => exact ⟨_, (true), (by first | rfl | (simp; done) | (simp [*]; done)), H', ⟨by first | omega | exact Nat.le_refl _⟩, ⟨by repeat (first | (with_reducible first | exact HB.out | apply below_alloc | apply pw_below_drewN | apply below_drew1) | exact HB.out)⟩⟩
  case rest =>
    clear HC8
    try clear c1
    try clear p2
    try clear c4
    try clear c11
    try clear c11b0
    try clear c11b1
    try clear c12
    try clear c12b0
    try clear c12b1
    try clear c13
    try clear c13b0
    try clear c13b1
    try clear c14
    try clear c14b0
    try clear c14b1
    try clear c15
    try clear c15b0
    try clear c15b1
    obtain ⟨kq, x86_7, rfl, HA, HJ7, HB⟩ := hcut
    cases kq with
    | zero => exact absurd HA.out (by simp [pontoonlaw01_OctetGets.j0])
    | succ kj7 =>
      have H := HA.out
      clear HA
      simp only [pontoonlaw01_OctetGets.j0] at H
      by_cases c16 : x86_7 = true
      · subst c16
        have H1 : (some false) = some r := by rw [if_pos rfl] at H; exact H
        clear H
        have H := H1
        clear H1
        obtain rfl := Option.some.inj H
        go_wp2
        go_ret
        exact ⟨by first | rfl | (simp [errW_none, errW_some] <;> rfl) | (simp [*, errW_none, errW_some] <;> rfl), by repeat (first | (with_reducible first | exact HB.out | apply below_alloc | apply pw_below_drewN | apply below_drew1) | exact HB.out)⟩
      · replace c16 := Bool.eq_false_iff.mpr c16
        subst c16
        have H1 : ((octet_GetText.f a0 a1).bind fun bt153 => ((pontoonref01_GetText.f kj7 a0 a1).bind fun bt156 => ((octet_GetBytes.f a0 a1 a2).bind fun bt159 => ((pontoonref01_GetBytes.f kj7 a0 a1 a2).bind fun bt162 => (if bt153.1.toList = bt156.1.toList then (if bt153.2.1 = bt156.2.1 then (if bt153.2.2 = bt156.2.2 then (if bt159.1.toList = bt162.1.toList then (if bt159.2.1 = bt162.2.1 then (if bt159.2.2 = bt162.2.2 then ((pontoonlaw01_known.f).bind fun t165 => (some t165)) else (some false)) else (some false)) else (some false)) else (some false)) else (some false)) else (some false)))))) = some r := by rw [if_neg (show ¬ (false = true) by decide)] at H; exact H
        clear H
        have H := H1
        clear H1
        replace H := Option.bind_eq_some_iff.mp H
        obtain ⟨⟨t153, t154, t155⟩, A170, H⟩ := H
        replace H : ((pontoonref01_GetText.f kj7 a0 a1).bind fun bt156 => ((octet_GetBytes.f a0 a1 a2).bind fun bt159 => ((pontoonref01_GetBytes.f kj7 a0 a1 a2).bind fun bt162 => (if t153.toList = bt156.1.toList then (if t154 = bt156.2.1 then (if t155 = bt156.2.2 then (if bt159.1.toList = bt162.1.toList then (if bt159.2.1 = bt162.2.1 then (if bt159.2.2 = bt162.2.2 then ((pontoonlaw01_known.f).bind fun t165 => (some t165)) else (some false)) else (some false)) else (some false)) else (some false)) else (some false)) else (some false))))) = some r := H
        have A17 := Aside0.mk A170
        clear A170
        replace H := Option.bind_eq_some_iff.mp H
        obtain ⟨⟨t156, t157, t158⟩, A180, H⟩ := H
        replace H : ((octet_GetBytes.f a0 a1 a2).bind fun bt159 => ((pontoonref01_GetBytes.f kj7 a0 a1 a2).bind fun bt162 => (if t153.toList = t156.toList then (if t154 = t157 then (if t155 = t158 then (if bt159.1.toList = bt162.1.toList then (if bt159.2.1 = bt162.2.1 then (if bt159.2.2 = bt162.2.2 then ((pontoonlaw01_known.f).bind fun t165 => (some t165)) else (some false)) else (some false)) else (some false)) else (some false)) else (some false)) else (some false)))) = some r := H
        have A18 := Aside0.mk A180
        clear A180
        replace H := Option.bind_eq_some_iff.mp H
        obtain ⟨⟨t159, t160, t161⟩, A190, H⟩ := H
        replace H : ((pontoonref01_GetBytes.f kj7 a0 a1 a2).bind fun bt162 => (if t153.toList = t156.toList then (if t154 = t157 then (if t155 = t158 then (if t159.toList = bt162.1.toList then (if t160 = bt162.2.1 then (if t161 = bt162.2.2 then ((pontoonlaw01_known.f).bind fun t165 => (some t165)) else (some false)) else (some false)) else (some false)) else (some false)) else (some false)) else (some false))) = some r := H
        have A19 := Aside0.mk A190
        clear A190
        replace H := Option.bind_eq_some_iff.mp H
        obtain ⟨⟨t162, t163, t164⟩, A200, H⟩ := H
        replace H : (if t153.toList = t156.toList then (if t154 = t157 then (if t155 = t158 then (if t159.toList = t162.toList then (if t160 = t163 then (if t161 = t164 then ((pontoonlaw01_known.f).bind fun t165 => (some t165)) else (some false)) else (some false)) else (some false)) else (some false)) else (some false)) else (some false)) = some r := H
        have A20 := Aside0.mk A200
        clear A200
        by_cases c21 : t153.toList = t156.toList
        · rw [if_pos c21] at H
          have c21b0 : (t153.toList == t156.toList) = true := beq_iff_eq.mpr c21
          have c21b1 : (t153.toList != t156.toList) = false := bne_eq_false_iff_eq.mpr c21
          clear c21
          by_cases c22 : t154 = t157
          · rw [if_pos c22] at H
            have c22b0 : (t154 == t157) = true := beq_iff_eq.mpr c22
            have c22b1 : (t154 != t157) = false := bne_eq_false_iff_eq.mpr c22
            clear c22
            by_cases c23 : t155 = t158
            · rw [if_pos c23] at H
              have c23b0 : (t155 == t158) = true := beq_iff_eq.mpr c23
              have c23b1 : (t155 != t158) = false := bne_eq_false_iff_eq.mpr c23
              clear c23
              by_cases c24 : t159.toList = t162.toList
              · rw [if_pos c24] at H
                have c24b0 : (t159.toList == t162.toList) = true := beq_iff_eq.mpr c24
                have c24b1 : (t159.toList != t162.toList) = false := bne_eq_false_iff_eq.mpr c24
                clear c24
                by_cases c25 : t160 = t163
                · rw [if_pos c25] at H
                  have c25b0 : (t160 == t163) = true := beq_iff_eq.mpr c25
                  have c25b1 : (t160 != t163) = false := bne_eq_false_iff_eq.mpr c25
                  clear c25
                  by_cases c26 : t161 = t164
                  · rw [if_pos c26] at H
                    have c26b0 : (t161 == t164) = true := beq_iff_eq.mpr c26
                    have c26b1 : (t161 != t164) = false := bne_eq_false_iff_eq.mpr c26
                    clear c26
                    replace H := Option.bind_eq_some_iff.mp H
                    obtain ⟨t165, A270, H⟩ := H
                    replace H : (some t165) = some r := H
                    have A27 := Aside0.mk A270
                    clear A270
                    obtain rfl := Option.some.inj H
                    go_wp2_with (first | ((with_reducible refine gate_callee (f := 19) rfl ?_); refine goesL_ (some 90) rfl rfl Try.func19 (by kernel_rfl) rfl #[.string a0, .int .i64 a1] rfl (by (try simp only [List.map_toArray, List.map_cons, List.map_nil]); first | done | rfl | (simp only [List.length_drop, List.length_take]; rfl)) ?_; (with_reducible refine (octet_GetText.calls a0 a1 t153 t154 t155 _ A17.out).mono ?_); rintro e w' ⟨rfl, ⟨nd, rfl⟩⟩; refine ⟨_, rfl, ?_⟩) | ((with_reducible refine gate_callee (f := 20) rfl ?_); refine goesL_ (some 97) rfl rfl Try.func20 (by kernel_rfl) rfl #[.string a0, .int .i64 a1] rfl (by (try simp only [List.map_toArray, List.map_cons, List.map_nil]); first | done | rfl | (simp only [List.length_drop, List.length_take]; rfl)) ?_; (with_reducible refine (pontoonref01_GetText.calls kj7 a0 a1 t156 t157 t158 _ A18.out).mono ?_); rintro e w' ⟨rfl, ⟨nd, rfl⟩⟩; refine ⟨_, rfl, ?_⟩) | ((with_reducible refine gate_callee (f := 21) rfl ?_); refine goesL_ (some 105) rfl rfl Try.func21 (by kernel_rfl) rfl #[.string a0, .int .i64 a1, .int .i64 a2] rfl (by (try simp only [List.map_toArray, List.map_cons, List.map_nil]); first | done | rfl | (simp only [List.length_drop, List.length_take]; rfl)) ?_; (with_reducible refine (octet_GetBytes.calls a0 a1 a2 t159 t160 t161 _ A19.out).mono ?_); rintro e w28 ⟨rfl, hb⟩; refine ⟨_, rfl, ?_⟩; have n0_ := Aside0.mk (below_step (by repeat (first | (with_reducible first | exact HB.out | apply below_alloc | apply pw_below_drewN | apply below_drew1) | exact HB.out)) hb); clear HB; have HB := n0_; clear n0_; (try clear hb); (try clear hb2); (try clear hk); (try clear hi)) | ((with_reducible refine gate_callee (f := 22) rfl ?_); refine goesL_ (some 113) rfl rfl Try.func22 (by kernel_rfl) rfl #[.string a0, .int .i64 a1, .int .i64 a2] rfl (by (try simp only [List.map_toArray, List.map_cons, List.map_nil]); first | done | rfl | (simp only [List.length_drop, List.length_take]; rfl)) ?_; (with_reducible refine (pontoonref01_GetBytes.calls kj7 a0 a1 a2 t162 t163 t164 _ A20.out).mono ?_); rintro e w' ⟨rfl, ⟨nd, rfl⟩⟩; refine ⟨_, rfl, ?_⟩) | (go_at_call 14; (with_reducible refine (pontoonlaw01_known.calls  t165 _ A27.out).mono ?_); rintro e w29 ⟨rfl, hb⟩; have n0_ := Aside0.mk (below_step (by repeat (first | (with_reducible first | exact HB.out | apply below_alloc | apply pw_below_drewN | apply below_drew1) | exact HB.out)) hb); clear HB; have HB := n0_; clear n0_; (try clear hb); (try clear hb2); (try clear hk); (try clear hi)))
                    go_ret
                    exact ⟨by first | rfl | (simp [errW_none, errW_some] <;> rfl) | (simp [*, errW_none, errW_some] <;> rfl), by repeat (first | (with_reducible first | exact HB.out | apply below_alloc | apply pw_below_drewN | apply below_drew1) | exact HB.out)⟩
                  · rw [if_neg c26] at H
                    have c26b0 : (t161 == t164) = false := beq_eq_false_iff_ne.mpr c26
                    have c26b1 : (t161 != t164) = true := bne_iff_ne.mpr c26
                    obtain rfl := Option.some.inj H
                    go_wp2_with (first | ((with_reducible refine gate_callee (f := 19) rfl ?_); refine goesL_ (some 90) rfl rfl Try.func19 (by kernel_rfl) rfl #[.string a0, .int .i64 a1] rfl (by (try simp only [List.map_toArray, List.map_cons, List.map_nil]); first | done | rfl | (simp only [List.length_drop, List.length_take]; rfl)) ?_; (with_reducible refine (octet_GetText.calls a0 a1 t153 t154 t155 _ A17.out).mono ?_); rintro e w' ⟨rfl, ⟨nd, rfl⟩⟩; refine ⟨_, rfl, ?_⟩) | ((with_reducible refine gate_callee (f := 20) rfl ?_); refine goesL_ (some 97) rfl rfl Try.func20 (by kernel_rfl) rfl #[.string a0, .int .i64 a1] rfl (by (try simp only [List.map_toArray, List.map_cons, List.map_nil]); first | done | rfl | (simp only [List.length_drop, List.length_take]; rfl)) ?_; (with_reducible refine (pontoonref01_GetText.calls kj7 a0 a1 t156 t157 t158 _ A18.out).mono ?_); rintro e w' ⟨rfl, ⟨nd, rfl⟩⟩; refine ⟨_, rfl, ?_⟩) | ((with_reducible refine gate_callee (f := 21) rfl ?_); refine goesL_ (some 105) rfl rfl Try.func21 (by kernel_rfl) rfl #[.string a0, .int .i64 a1, .int .i64 a2] rfl (by (try simp only [List.map_toArray, List.map_cons, List.map_nil]); first | done | rfl | (simp only [List.length_drop, List.length_take]; rfl)) ?_; (with_reducible refine (octet_GetBytes.calls a0 a1 a2 t159 t160 t161 _ A19.out).mono ?_); rintro e w30 ⟨rfl, hb⟩; refine ⟨_, rfl, ?_⟩; have n0_ := Aside0.mk (below_step (by repeat (first | (with_reducible first | exact HB.out | apply below_alloc | apply pw_below_drewN | apply below_drew1) | exact HB.out)) hb); clear HB; have HB := n0_; clear n0_; (try clear hb); (try clear hb2); (try clear hk); (try clear hi)) | ((with_reducible refine gate_callee (f := 22) rfl ?_); refine goesL_ (some 113) rfl rfl Try.func22 (by kernel_rfl) rfl #[.string a0, .int .i64 a1, .int .i64 a2] rfl (by (try simp only [List.map_toArray, List.map_cons, List.map_nil]); first | done | rfl | (simp only [List.length_drop, List.length_take]; rfl)) ?_; (with_reducible refine (pontoonref01_GetBytes.calls kj7 a0 a1 a2 t162 t163 t164 _ A20.out).mono ?_); rintro e w' ⟨rfl, ⟨nd, rfl⟩⟩; refine ⟨_, rfl, ?_⟩))
                    go_ret
                    exact ⟨by first | rfl | (simp [errW_none, errW_some] <;> rfl) | (simp [*, errW_none, errW_some] <;> rfl), by repeat (first | (with_reducible first | exact HB.out | apply below_alloc | apply pw_below_drewN | apply below_drew1) | exact HB.out)⟩
                · rw [if_neg c25] at H
                  have c25b0 : (t160 == t163) = false := beq_eq_false_iff_ne.mpr c25
                  have c25b1 : (t160 != t163) = true := bne_iff_ne.mpr c25
                  obtain rfl := Option.some.inj H
                  go_wp2_with (first | ((with_reducible refine gate_callee (f := 19) rfl ?_); refine goesL_ (some 90) rfl rfl Try.func19 (by kernel_rfl) rfl #[.string a0, .int .i64 a1] rfl (by (try simp only [List.map_toArray, List.map_cons, List.map_nil]); first | done | rfl | (simp only [List.length_drop, List.length_take]; rfl)) ?_; (with_reducible refine (octet_GetText.calls a0 a1 t153 t154 t155 _ A17.out).mono ?_); rintro e w' ⟨rfl, ⟨nd, rfl⟩⟩; refine ⟨_, rfl, ?_⟩) | ((with_reducible refine gate_callee (f := 20) rfl ?_); refine goesL_ (some 97) rfl rfl Try.func20 (by kernel_rfl) rfl #[.string a0, .int .i64 a1] rfl (by (try simp only [List.map_toArray, List.map_cons, List.map_nil]); first | done | rfl | (simp only [List.length_drop, List.length_take]; rfl)) ?_; (with_reducible refine (pontoonref01_GetText.calls kj7 a0 a1 t156 t157 t158 _ A18.out).mono ?_); rintro e w' ⟨rfl, ⟨nd, rfl⟩⟩; refine ⟨_, rfl, ?_⟩) | ((with_reducible refine gate_callee (f := 21) rfl ?_); refine goesL_ (some 105) rfl rfl Try.func21 (by kernel_rfl) rfl #[.string a0, .int .i64 a1, .int .i64 a2] rfl (by (try simp only [List.map_toArray, List.map_cons, List.map_nil]); first | done | rfl | (simp only [List.length_drop, List.length_take]; rfl)) ?_; (with_reducible refine (octet_GetBytes.calls a0 a1 a2 t159 t160 t161 _ A19.out).mono ?_); rintro e w31 ⟨rfl, hb⟩; refine ⟨_, rfl, ?_⟩; have n0_ := Aside0.mk (below_step (by repeat (first | (with_reducible first | exact HB.out | apply below_alloc | apply pw_below_drewN | apply below_drew1) | exact HB.out)) hb); clear HB; have HB := n0_; clear n0_; (try clear hb); (try clear hb2); (try clear hk); (try clear hi)) | ((with_reducible refine gate_callee (f := 22) rfl ?_); refine goesL_ (some 113) rfl rfl Try.func22 (by kernel_rfl) rfl #[.string a0, .int .i64 a1, .int .i64 a2] rfl (by (try simp only [List.map_toArray, List.map_cons, List.map_nil]); first | done | rfl | (simp only [List.length_drop, List.length_take]; rfl)) ?_; (with_reducible refine (pontoonref01_GetBytes.calls kj7 a0 a1 a2 t162 t163 t164 _ A20.out).mono ?_); rintro e w' ⟨rfl, ⟨nd, rfl⟩⟩; refine ⟨_, rfl, ?_⟩))
                  go_ret
                  exact ⟨by first | rfl | (simp [errW_none, errW_some] <;> rfl) | (simp [*, errW_none, errW_some] <;> rfl), by repeat (first | (with_reducible first | exact HB.out | apply below_alloc | apply pw_below_drewN | apply below_drew1) | exact HB.out)⟩
              · rw [if_neg c24] at H
                have c24b0 : (t159.toList == t162.toList) = false := beq_eq_false_iff_ne.mpr c24
                have c24b1 : (t159.toList != t162.toList) = true := bne_iff_ne.mpr c24
                obtain rfl := Option.some.inj H
                go_wp2_with (first | ((with_reducible refine gate_callee (f := 19) rfl ?_); refine goesL_ (some 90) rfl rfl Try.func19 (by kernel_rfl) rfl #[.string a0, .int .i64 a1] rfl (by (try simp only [List.map_toArray, List.map_cons, List.map_nil]); first | done | rfl | (simp only [List.length_drop, List.length_take]; rfl)) ?_; (with_reducible refine (octet_GetText.calls a0 a1 t153 t154 t155 _ A17.out).mono ?_); rintro e w' ⟨rfl, ⟨nd, rfl⟩⟩; refine ⟨_, rfl, ?_⟩) | ((with_reducible refine gate_callee (f := 20) rfl ?_); refine goesL_ (some 97) rfl rfl Try.func20 (by kernel_rfl) rfl #[.string a0, .int .i64 a1] rfl (by (try simp only [List.map_toArray, List.map_cons, List.map_nil]); first | done | rfl | (simp only [List.length_drop, List.length_take]; rfl)) ?_; (with_reducible refine (pontoonref01_GetText.calls kj7 a0 a1 t156 t157 t158 _ A18.out).mono ?_); rintro e w' ⟨rfl, ⟨nd, rfl⟩⟩; refine ⟨_, rfl, ?_⟩) | ((with_reducible refine gate_callee (f := 21) rfl ?_); refine goesL_ (some 105) rfl rfl Try.func21 (by kernel_rfl) rfl #[.string a0, .int .i64 a1, .int .i64 a2] rfl (by (try simp only [List.map_toArray, List.map_cons, List.map_nil]); first | done | rfl | (simp only [List.length_drop, List.length_take]; rfl)) ?_; (with_reducible refine (octet_GetBytes.calls a0 a1 a2 t159 t160 t161 _ A19.out).mono ?_); rintro e w32 ⟨rfl, hb⟩; refine ⟨_, rfl, ?_⟩; have n0_ := Aside0.mk (below_step (by repeat (first | (with_reducible first | exact HB.out | apply below_alloc | apply pw_below_drewN | apply below_drew1) | exact HB.out)) hb); clear HB; have HB := n0_; clear n0_; (try clear hb); (try clear hb2); (try clear hk); (try clear hi)) | ((with_reducible refine gate_callee (f := 22) rfl ?_); refine goesL_ (some 113) rfl rfl Try.func22 (by kernel_rfl) rfl #[.string a0, .int .i64 a1, .int .i64 a2] rfl (by (try simp only [List.map_toArray, List.map_cons, List.map_nil]); first | done | rfl | (simp only [List.length_drop, List.length_take]; rfl)) ?_; (with_reducible refine (pontoonref01_GetBytes.calls kj7 a0 a1 a2 t162 t163 t164 _ A20.out).mono ?_); rintro e w' ⟨rfl, ⟨nd, rfl⟩⟩; refine ⟨_, rfl, ?_⟩))
                go_ret
                exact ⟨by first | rfl | (simp [errW_none, errW_some] <;> rfl) | (simp [*, errW_none, errW_some] <;> rfl), by repeat (first | (with_reducible first | exact HB.out | apply below_alloc | apply pw_below_drewN | apply below_drew1) | exact HB.out)⟩
            · rw [if_neg c23] at H
              have c23b0 : (t155 == t158) = false := beq_eq_false_iff_ne.mpr c23
              have c23b1 : (t155 != t158) = true := bne_iff_ne.mpr c23
              obtain rfl := Option.some.inj H
              go_wp2_with (first | ((with_reducible refine gate_callee (f := 19) rfl ?_); refine goesL_ (some 90) rfl rfl Try.func19 (by kernel_rfl) rfl #[.string a0, .int .i64 a1] rfl (by (try simp only [List.map_toArray, List.map_cons, List.map_nil]); first | done | rfl | (simp only [List.length_drop, List.length_take]; rfl)) ?_; (with_reducible refine (octet_GetText.calls a0 a1 t153 t154 t155 _ A17.out).mono ?_); rintro e w' ⟨rfl, ⟨nd, rfl⟩⟩; refine ⟨_, rfl, ?_⟩) | ((with_reducible refine gate_callee (f := 20) rfl ?_); refine goesL_ (some 97) rfl rfl Try.func20 (by kernel_rfl) rfl #[.string a0, .int .i64 a1] rfl (by (try simp only [List.map_toArray, List.map_cons, List.map_nil]); first | done | rfl | (simp only [List.length_drop, List.length_take]; rfl)) ?_; (with_reducible refine (pontoonref01_GetText.calls kj7 a0 a1 t156 t157 t158 _ A18.out).mono ?_); rintro e w' ⟨rfl, ⟨nd, rfl⟩⟩; refine ⟨_, rfl, ?_⟩) | ((with_reducible refine gate_callee (f := 21) rfl ?_); refine goesL_ (some 105) rfl rfl Try.func21 (by kernel_rfl) rfl #[.string a0, .int .i64 a1, .int .i64 a2] rfl (by (try simp only [List.map_toArray, List.map_cons, List.map_nil]); first | done | rfl | (simp only [List.length_drop, List.length_take]; rfl)) ?_; (with_reducible refine (octet_GetBytes.calls a0 a1 a2 t159 t160 t161 _ A19.out).mono ?_); rintro e w33 ⟨rfl, hb⟩; refine ⟨_, rfl, ?_⟩; have n0_ := Aside0.mk (below_step (by repeat (first | (with_reducible first | exact HB.out | apply below_alloc | apply pw_below_drewN | apply below_drew1) | exact HB.out)) hb); clear HB; have HB := n0_; clear n0_; (try clear hb); (try clear hb2); (try clear hk); (try clear hi)) | ((with_reducible refine gate_callee (f := 22) rfl ?_); refine goesL_ (some 113) rfl rfl Try.func22 (by kernel_rfl) rfl #[.string a0, .int .i64 a1, .int .i64 a2] rfl (by (try simp only [List.map_toArray, List.map_cons, List.map_nil]); first | done | rfl | (simp only [List.length_drop, List.length_take]; rfl)) ?_; (with_reducible refine (pontoonref01_GetBytes.calls kj7 a0 a1 a2 t162 t163 t164 _ A20.out).mono ?_); rintro e w' ⟨rfl, ⟨nd, rfl⟩⟩; refine ⟨_, rfl, ?_⟩))
              go_ret
              exact ⟨by first | rfl | (simp [errW_none, errW_some] <;> rfl) | (simp [*, errW_none, errW_some] <;> rfl), by repeat (first | (with_reducible first | exact HB.out | apply below_alloc | apply pw_below_drewN | apply below_drew1) | exact HB.out)⟩
          · rw [if_neg c22] at H
            have c22b0 : (t154 == t157) = false := beq_eq_false_iff_ne.mpr c22
            have c22b1 : (t154 != t157) = true := bne_iff_ne.mpr c22
            obtain rfl := Option.some.inj H
            go_wp2_with (first | ((with_reducible refine gate_callee (f := 19) rfl ?_); refine goesL_ (some 90) rfl rfl Try.func19 (by kernel_rfl) rfl #[.string a0, .int .i64 a1] rfl (by (try simp only [List.map_toArray, List.map_cons, List.map_nil]); first | done | rfl | (simp only [List.length_drop, List.length_take]; rfl)) ?_; (with_reducible refine (octet_GetText.calls a0 a1 t153 t154 t155 _ A17.out).mono ?_); rintro e w' ⟨rfl, ⟨nd, rfl⟩⟩; refine ⟨_, rfl, ?_⟩) | ((with_reducible refine gate_callee (f := 20) rfl ?_); refine goesL_ (some 97) rfl rfl Try.func20 (by kernel_rfl) rfl #[.string a0, .int .i64 a1] rfl (by (try simp only [List.map_toArray, List.map_cons, List.map_nil]); first | done | rfl | (simp only [List.length_drop, List.length_take]; rfl)) ?_; (with_reducible refine (pontoonref01_GetText.calls kj7 a0 a1 t156 t157 t158 _ A18.out).mono ?_); rintro e w' ⟨rfl, ⟨nd, rfl⟩⟩; refine ⟨_, rfl, ?_⟩) | ((with_reducible refine gate_callee (f := 21) rfl ?_); refine goesL_ (some 105) rfl rfl Try.func21 (by kernel_rfl) rfl #[.string a0, .int .i64 a1, .int .i64 a2] rfl (by (try simp only [List.map_toArray, List.map_cons, List.map_nil]); first | done | rfl | (simp only [List.length_drop, List.length_take]; rfl)) ?_; (with_reducible refine (octet_GetBytes.calls a0 a1 a2 t159 t160 t161 _ A19.out).mono ?_); rintro e w34 ⟨rfl, hb⟩; refine ⟨_, rfl, ?_⟩; have n0_ := Aside0.mk (below_step (by repeat (first | (with_reducible first | exact HB.out | apply below_alloc | apply pw_below_drewN | apply below_drew1) | exact HB.out)) hb); clear HB; have HB := n0_; clear n0_; (try clear hb); (try clear hb2); (try clear hk); (try clear hi)) | ((with_reducible refine gate_callee (f := 22) rfl ?_); refine goesL_ (some 113) rfl rfl Try.func22 (by kernel_rfl) rfl #[.string a0, .int .i64 a1, .int .i64 a2] rfl (by (try simp only [List.map_toArray, List.map_cons, List.map_nil]); first | done | rfl | (simp only [List.length_drop, List.length_take]; rfl)) ?_; (with_reducible refine (pontoonref01_GetBytes.calls kj7 a0 a1 a2 t162 t163 t164 _ A20.out).mono ?_); rintro e w' ⟨rfl, ⟨nd, rfl⟩⟩; refine ⟨_, rfl, ?_⟩))
            go_ret
            exact ⟨by first | rfl | (simp [errW_none, errW_some] <;> rfl) | (simp [*, errW_none, errW_some] <;> rfl), by repeat (first | (with_reducible first | exact HB.out | apply below_alloc | apply pw_below_drewN | apply below_drew1) | exact HB.out)⟩
        · rw [if_neg c21] at H
          have c21b0 : (t153.toList == t156.toList) = false := beq_eq_false_iff_ne.mpr c21
          have c21b1 : (t153.toList != t156.toList) = true := bne_iff_ne.mpr c21
          obtain rfl := Option.some.inj H
          go_wp2_with (first | ((with_reducible refine gate_callee (f := 19) rfl ?_); refine goesL_ (some 90) rfl rfl Try.func19 (by kernel_rfl) rfl #[.string a0, .int .i64 a1] rfl (by (try simp only [List.map_toArray, List.map_cons, List.map_nil]); first | done | rfl | (simp only [List.length_drop, List.length_take]; rfl)) ?_; (with_reducible refine (octet_GetText.calls a0 a1 t153 t154 t155 _ A17.out).mono ?_); rintro e w' ⟨rfl, ⟨nd, rfl⟩⟩; refine ⟨_, rfl, ?_⟩) | ((with_reducible refine gate_callee (f := 20) rfl ?_); refine goesL_ (some 97) rfl rfl Try.func20 (by kernel_rfl) rfl #[.string a0, .int .i64 a1] rfl (by (try simp only [List.map_toArray, List.map_cons, List.map_nil]); first | done | rfl | (simp only [List.length_drop, List.length_take]; rfl)) ?_; (with_reducible refine (pontoonref01_GetText.calls kj7 a0 a1 t156 t157 t158 _ A18.out).mono ?_); rintro e w' ⟨rfl, ⟨nd, rfl⟩⟩; refine ⟨_, rfl, ?_⟩) | ((with_reducible refine gate_callee (f := 21) rfl ?_); refine goesL_ (some 105) rfl rfl Try.func21 (by kernel_rfl) rfl #[.string a0, .int .i64 a1, .int .i64 a2] rfl (by (try simp only [List.map_toArray, List.map_cons, List.map_nil]); first | done | rfl | (simp only [List.length_drop, List.length_take]; rfl)) ?_; (with_reducible refine (octet_GetBytes.calls a0 a1 a2 t159 t160 t161 _ A19.out).mono ?_); rintro e w35 ⟨rfl, hb⟩; refine ⟨_, rfl, ?_⟩; have n0_ := Aside0.mk (below_step (by repeat (first | (with_reducible first | exact HB.out | apply below_alloc | apply pw_below_drewN | apply below_drew1) | exact HB.out)) hb); clear HB; have HB := n0_; clear n0_; (try clear hb); (try clear hb2); (try clear hk); (try clear hi)) | ((with_reducible refine gate_callee (f := 22) rfl ?_); refine goesL_ (some 113) rfl rfl Try.func22 (by kernel_rfl) rfl #[.string a0, .int .i64 a1, .int .i64 a2] rfl (by (try simp only [List.map_toArray, List.map_cons, List.map_nil]); first | done | rfl | (simp only [List.length_drop, List.length_take]; rfl)) ?_; (with_reducible refine (pontoonref01_GetBytes.calls kj7 a0 a1 a2 t162 t163 t164 _ A20.out).mono ?_); rintro e w' ⟨rfl, ⟨nd, rfl⟩⟩; refine ⟨_, rfl, ?_⟩))
          go_ret
          exact ⟨by first | rfl | (simp [errW_none, errW_some] <;> rfl) | (simp [*, errW_none, errW_some] <;> rfl), by repeat (first | (with_reducible first | exact HB.out | apply below_alloc | apply pw_below_drewN | apply below_drew1) | exact HB.out)⟩

/-- THE ONE PURE STATEMENT of pontoonlaw01_OctetGets: yours. -/
def pontoonlaw01_OctetGets.Pure : Prop := ∀ (a0 : ByteArray) (a1 : Int) (a2 : Int), a0.size ≤ 140737488351232 → (Lit.int .i64 a1).wf = true → (Lit.int .i64 a2).wf = true → ∃ k, pontoonlaw01_OctetGets.f k a0 a1 a2 = some true
theorem pontoonlaw01_OctetGets.walk (P : pontoonlaw01_OctetGets.Pure) (a0 : ByteArray) (a1 : Int) (a2 : Int) (w : World) (w0 : a0.size ≤ 140737488351232) (w1 : (Lit.int .i64 a1).wf = true) (w2 : (Lit.int .i64 a2).wf = true) :
    Calls Try.prog 4 #[.string a0, .int .i64 a1, .int .i64 a2] w fun e w' => e = .returned (.bool true) ∧ Below w.heap.size w w' := by
  obtain ⟨k, h⟩ := P a0 a1 a2 w0 w1 w2
  refine (pontoonlaw01_OctetGets.calls k a0 a1 a2 true w h).mono ?_
  rintro e w' ⟨rfl, hd⟩
  exact ⟨rfl, hd⟩

-- NOT PRINTED: function 5 (pontoonlaw01_OctetBack)

end Go.Proofs.Ytjmgookpmngmaaa.Pr
