-- Written by a program of this session's (wip/ext/run.py) over the kit's print, with contracts of its own.
import Derived.Test.YthfchnoebncpfaaPux0
import Derived.Test.YthfchnoebncpfaaPux1
import Derived.Test.YthfchnoebncpfaaPux2
import Derived.Test.YthfchnoebncpfaaPux3
import Derived.Test.YthfchnoebncpfaaPux4
import Derived.Test.YthfchnoebncpfaaPux5
import Derived.Test.YthfchnoebncpfaaPux6
import Derived.Test.YthfchnoebncpfaaPux7
import Derived.Test.YthfchnoebncpfaaPux8
import Derived.Test.YthfchnoebncpfaaPux9
namespace Go.Proofs.Ythfchnoebncpfaa.Pu
open Go Go.Maps Go.Proofs.Ythfchnoebncpfaa Go.RowKit Go.Proofs.YthfchnoebncpfaaW.PrintWords Go.Proofs.YthfchnoebncpfaaW.PrintLast Go.Proofs.YthfchnoebncpfaaW.PrintMore
attribute [local go_sem] max2_int min2_int max_two min_two max_three min_three max_four min_four   -- for this text's walks alone
set_option linter.unusedVariables false
set_option linter.unusedSimpArgs false

/-! ### pontoonlaw06_ClassQuotes: function 6 -/
mutual
def pontoonlaw06_ClassQuotes.j0 : Nat → List (S33) → ByteArray → Bool → Option (Bool)
  | 0, _, _, _ => none
  | k + 1, x0, x1, x14 => if x14 = true then ((pontoonlaw06_known.f).bind fun t279 => (some t279)) else ((some (([] : List (S33)) : List (S33))).bind fun y280 => (if y280.length + x0.length < 4398046511104 then (pontoonlaw06_ClassQuotes.l0 k x0 x1 (y280 ++ x0) 0) else (none)))
def pontoonlaw06_ClassQuotes.l0 : Nat → List (S33) → ByteArray → List (S33) → Int → Option (Bool)
  | 0, _, _, _, _ => none
  | k + 1, x0, x1, x5, x6 => if x6 < (x5.length : Int) then (if 0 ≤ x6 then (if ((rd_T33 x5 x6).f0) = 2 then (pontoonlaw06_ClassQuotes.l0 k x0 x1 (x5.set (x6 : Int).toNat (⟨(rd_T33 x5 x6).f0, x1, (rd_T33 x5 x6).f2⟩ : S33)) (wrap64 (x6 + 1))) else (if ((rd_T33 x5 x6).f0) = 3 then (pontoonlaw06_ClassQuotes.l0 k x0 x1 (x5.set (x6 : Int).toNat (⟨(rd_T33 x5 x6).f0, x1, (rd_T33 x5 x6).f2⟩ : S33)) (wrap64 (x6 + 1))) else (pontoonlaw06_ClassQuotes.l0 k x0 x1 x5 (wrap64 (x6 + 1))))) else (none)) else ((class_Of.f k x0).bind fun t290 => ((class_Of.f k x5).bind fun t291 => (if t290 = t291 then ((pontoonlaw06_known.f).bind fun t292 => (some t292)) else (some false))))
end
def pontoonlaw06_ClassQuotes.f (k : Nat) (l0 : List (S33)) (a1 : ByteArray) : Option (Bool) := (pontoonlaw06_light.f k l0).bind fun t278 => (if t278 = true then (pontoonlaw06_ClassQuotes.j0 k l0 a1 (decide ((a1.size : Int) > 100))) else (pontoonlaw06_ClassQuotes.j0 k l0 a1 true))
theorem pontoonlaw06_ClassQuotes.mono_l : ∀ k, (∀ y0 y1 y2, LeO (pontoonlaw06_ClassQuotes.j0 k y0 y1 y2) (pontoonlaw06_ClassQuotes.j0 (k + 1) y0 y1 y2)) ∧ (∀ y0 y1 y2 y3, LeO (pontoonlaw06_ClassQuotes.l0 k y0 y1 y2 y3) (pontoonlaw06_ClassQuotes.l0 (k + 1) y0 y1 y2 y3))
  | 0 => ⟨fun _ _ _ r h => by simp [pontoonlaw06_ClassQuotes.j0] at h, fun _ _ _ _ r h => by simp [pontoonlaw06_ClassQuotes.l0] at h⟩
  | k + 1 => by
    obtain ⟨ih0, ih1⟩ := pontoonlaw06_ClassQuotes.mono_l k
    refine ⟨?_, ?_⟩
    · intro y0 y1 y2
      unfold pontoonlaw06_ClassQuotes.j0
      repeat' first
      | (with_reducible exact ih0 _ _ _)
      | (with_reducible exact ih1 _ _ _ _)
      | (with_reducible exact class_Of.mono _ _)
      | (with_reducible exact pontoonlaw06_light.mono _ _)
      | (with_reducible exact LeO.refl _)
      | (with_reducible exact LeO.none _)
      | (with_reducible refine LeO.ite ?_ ?_)
      | (with_reducible refine LeO.bind ?_ (fun _ => ?_))
      | exact ih0 _ _ _
      | exact ih1 _ _ _ _
      | exact class_Of.mono _ _
      | exact pontoonlaw06_light.mono _ _
      | exact LeO.none _
      | refine LeO.ite ?_ ?_
      | refine LeO.bind ?_ (fun _ => ?_)
    · intro y0 y1 y2 y3
      unfold pontoonlaw06_ClassQuotes.l0
      repeat' first
      | (with_reducible exact ih0 _ _ _)
      | (with_reducible exact ih1 _ _ _ _)
      | (with_reducible exact class_Of.mono _ _)
      | (with_reducible exact pontoonlaw06_light.mono _ _)
      | (with_reducible exact LeO.refl _)
      | (with_reducible exact LeO.none _)
      | (with_reducible refine LeO.ite ?_ ?_)
      | (with_reducible refine LeO.bind ?_ (fun _ => ?_))
      | exact ih0 _ _ _
      | exact ih1 _ _ _ _
      | exact class_Of.mono _ _
      | exact pontoonlaw06_light.mono _ _
      | exact LeO.none _
      | refine LeO.ite ?_ ?_
      | refine LeO.bind ?_ (fun _ => ?_)
theorem pontoonlaw06_ClassQuotes.mono : ∀ a0 a1 k, LeO (pontoonlaw06_ClassQuotes.f k a0 a1) (pontoonlaw06_ClassQuotes.f (k + 1) a0 a1) := by
  intro a0 a1 k
  obtain ⟨ih0, ih1⟩ := pontoonlaw06_ClassQuotes.mono_l k
  unfold pontoonlaw06_ClassQuotes.f
  repeat' first
      | (with_reducible exact ih0 _ _ _)
      | (with_reducible exact ih1 _ _ _ _)
      | (with_reducible exact class_Of.mono _ _)
      | (with_reducible exact pontoonlaw06_light.mono _ _)
      | (with_reducible exact LeO.refl _)
      | (with_reducible exact LeO.none _)
      | (with_reducible refine LeO.ite ?_ ?_)
      | (with_reducible refine LeO.bind ?_ (fun _ => ?_))
      | exact ih0 _ _ _
      | exact ih1 _ _ _ _
      | exact class_Of.mono _ _
      | exact pontoonlaw06_light.mono _ _
      | exact LeO.none _
      | refine LeO.ite ?_ ?_
      | refine LeO.bind ?_ (fun _ => ?_)
set_option maxHeartbeats 8000000 in
set_option maxRecDepth 100000 in
theorem pontoonlaw06_ClassQuotes.calls (k : Nat) (A0 : Option Addr) (c0 : Nat) (l0 : List (S33)) (a1 : ByteArray) (r : Bool) (w : World) (hr0 : Kd.C k33 w A0 l0.length l0) (hc0 : l0.length ≤ c0) (h : pontoonlaw06_ClassQuotes.f k l0 a1 = some r) :
    Calls Try.prog 6 #[.slice A0 l0.length c0, .string a1] w fun e w' => e = .returned (.bool r) ∧ Below w.heap.size w w' := by
  have HR0 := Aside0.mk hr0
  have HC0 := Aside0.mk hc0
  clear hr0 hc0
  have HB := Aside0.mk (Below.refl w.heap.size w)
  have H : ((pontoonlaw06_light.f k l0).bind fun t278 => (if t278 = true then (pontoonlaw06_ClassQuotes.j0 k l0 a1 (decide ((a1.size : Int) > 100))) else (pontoonlaw06_ClassQuotes.j0 k l0 a1 true))) = some r := h
  clear h
  have HC3 := Aside0.mk H
  clear H
  go_enter Try.func6, Try.ntmps6
  go_upto_region 1 with (fail)
  go_cut [14] (fun v14 wc => ∃ (kq : Nat) (x14_2 : Bool), v14 = .bool x14_2 ∧ Aside0 (pontoonlaw06_ClassQuotes.j0 kq l0 a1 x14_2 = some r) ∧ Aside0 (kq ≤ k) ∧ Aside0 (Below w.heap.size w wc))
  case first =>
    have H := HC3.out
    clear HC3
    replace H := Option.bind_eq_some_iff.mp H
    obtain ⟨t278, A40, H⟩ := H
    replace H : (if t278 = true then (pontoonlaw06_ClassQuotes.j0 k l0 a1 (decide ((a1.size : Int) > 100))) else (pontoonlaw06_ClassQuotes.j0 k l0 a1 true)) = some r := H
    have A4 := Aside0.mk A40
    clear A40
    by_cases c5 : t278 = true
    · subst c5
      have H1 : (pontoonlaw06_ClassQuotes.j0 k l0 a1 (decide ((a1.size : Int) > 100))) = some r := by rw [if_pos rfl] at H; exact H
      clear H
      have H := H1
      clear H1
      have H' := Aside0.mk H
      clear H
      go_wp2_with (first | ((with_reducible refine gate_callee (f := 8) rfl ?_); refine goesL_ (some 8) rfl rfl Try.func8 (by kernel_rfl) rfl #[.slice A0 l0.length c0] rfl (by (try simp only [List.map_toArray, List.map_cons, List.map_nil]); first | done | rfl | (simp only [List.length_drop, List.length_take]; rfl)) ?_; (with_reducible refine (pontoonlaw06_light.calls k _ _ l0 true _ ?side1 ?side2 A4.out).mono ?_); (case side1 => repeat (first | exact (Kd.C_below HR0.out HB.out) | (with_reducible refine Kd.C_alloc ?_ _) | (with_reducible refine Kd.C_drewN ?_ _) | (with_reducible refine Kd.C_drew ?_))); (case side2 => exact HC0.out); rintro e w' ⟨rfl, ⟨nd, rfl⟩⟩; refine ⟨_, rfl, ?_⟩))
      go_meet
      case rel => exact ⟨_, (decide ((a1.size : Int) > 100)), (by first | rfl | (simp; done) | (simp [*]; done)), H', ⟨by first | omega | exact Nat.le_refl _⟩, ⟨by repeat (first | (with_reducible first | exact HB.out | apply below_alloc | apply pw_below_drewN | apply below_drew1) | exact HB.out)⟩⟩
    · replace c5 := Bool.eq_false_iff.mpr c5
      subst c5
      have H1 : (pontoonlaw06_ClassQuotes.j0 k l0 a1 true) = some r := by rw [if_neg (show ¬ (false = true) by decide)] at H; exact H
      clear H
      have H := H1
      clear H1
      have H' := Aside0.mk H
      clear H
      go_wp2_with (first | ((with_reducible refine gate_callee (f := 8) rfl ?_); refine goesL_ (some 8) rfl rfl Try.func8 (by kernel_rfl) rfl #[.slice A0 l0.length c0] rfl (by (try simp only [List.map_toArray, List.map_cons, List.map_nil]); first | done | rfl | (simp only [List.length_drop, List.length_take]; rfl)) ?_; (with_reducible refine (pontoonlaw06_light.calls k _ _ l0 false _ ?side1 ?side2 A4.out).mono ?_); (case side1 => repeat (first | exact (Kd.C_below HR0.out HB.out) | (with_reducible refine Kd.C_alloc ?_ _) | (with_reducible refine Kd.C_drewN ?_ _) | (with_reducible refine Kd.C_drew ?_))); (case side2 => exact HC0.out); rintro e w' ⟨rfl, ⟨nd, rfl⟩⟩; refine ⟨_, rfl, ?_⟩))
      go_meet
      case rel => exact ⟨_, (true), (by first | rfl | (simp; done) | (simp [*]; done)), H', ⟨by first | omega | exact Nat.le_refl _⟩, ⟨by repeat (first | (with_reducible first | exact HB.out | apply below_alloc | apply pw_below_drewN | apply below_drew1) | exact HB.out)⟩⟩
  case rest =>
    clear HC3
    try clear p2
    try clear c5
    obtain ⟨kq, x14_2, rfl, HA, HJ2, HB⟩ := hcut
    cases kq with
    | zero => exact absurd HA.out (by simp [pontoonlaw06_ClassQuotes.j0])
    | succ kj2 =>
      have H := HA.out
      clear HA
      simp only [pontoonlaw06_ClassQuotes.j0] at H
      by_cases c6 : x14_2 = true
      · subst c6
        have H1 : ((pontoonlaw06_known.f).bind fun t279 => (some t279)) = some r := by rw [if_pos rfl] at H; exact H
        clear H
        have H := H1
        clear H1
        replace H := Option.bind_eq_some_iff.mp H
        obtain ⟨t279, A70, H⟩ := H
        replace H : (some t279) = some r := H
        have A7 := Aside0.mk A70
        clear A70
        obtain rfl := Option.some.inj H
        go_wp2_with (first | ((with_reducible refine gate_callee (f := 9) rfl ?_); refine goesL_ (some 15) rfl rfl Try.func9 (by kernel_rfl) rfl #[] rfl (by (try simp only [List.map_toArray, List.map_cons, List.map_nil]); first | done | rfl | (simp only [List.length_drop, List.length_take]; rfl)) ?_; (with_reducible refine (pontoonlaw06_known.calls  t279 _ A7.out).mono ?_); rintro e w8 ⟨rfl, hb⟩; refine ⟨_, rfl, ?_⟩; have n0_ := Aside0.mk (below_step (by repeat (first | (with_reducible first | exact HB.out | apply below_alloc | apply pw_below_drewN | apply below_drew1) | exact HB.out)) hb); clear HB; have HB := n0_; clear n0_; (try clear hb); (try clear hb2); (try clear hk); (try clear hi)))
        go_ret
        exact ⟨by first | rfl | (simp [errW_none, errW_some] <;> rfl) | (simp [*, errW_none, errW_some] <;> rfl), by repeat (first | (with_reducible first | exact HB.out | apply below_alloc | apply pw_below_drewN | apply below_drew1) | exact HB.out)⟩
      · replace c6 := Bool.eq_false_iff.mpr c6
        subst c6
        have H1 : ((some (([] : List (S33)) : List (S33))).bind fun y280 => (if y280.length + l0.length < 4398046511104 then (pontoonlaw06_ClassQuotes.l0 kj2 l0 a1 (y280 ++ l0) 0) else (none))) = some r := by rw [if_neg (show ¬ (false = true) by decide)] at H; exact H
        clear H
        have H := H1
        clear H1
        obtain ⟨y280, hy280⟩ : ∃ y_ : List (S33), y_ = (([] : List (S33))) := ⟨_, rfl⟩
        replace H : (if y280.length + l0.length < 4398046511104 then (pontoonlaw06_ClassQuotes.l0 kj2 l0 a1 (y280 ++ l0) 0) else (none)) = some r := by first | (rw [hy280]; with_reducible exact H) | (have H2_ := (Option.bind_some _ _).symm.trans H; rw [hy280]; with_reducible exact H2_) | (have H2_ := (Option.bind_some _ _).symm.trans H; with_reducible exact H2_) | with_reducible exact H | (rw [hy280]; exact H) | exact H
        have Ny280 := Aside0.mk hy280
        clear hy280
        by_cases c9 : y280.length + l0.length < 4398046511104
        · rw [if_pos c9] at H
          have LMc9 := Aside0.mk c9
          clear c9
          obtain ⟨y283, hy283⟩ : ∃ y_ : List (S33), y_ = (y280 ++ l0) := ⟨_, rfl⟩
          replace H : (pontoonlaw06_ClassQuotes.l0 kj2 l0 a1 y283 0) = some r := by first | (rw [hy283]; with_reducible exact H) | (have H2_ := (Option.bind_some _ _).symm.trans H; rw [hy283]; with_reducible exact H2_) | (have H2_ := (Option.bind_some _ _).symm.trans H; with_reducible exact H2_) | with_reducible exact H | (rw [hy283]; exact H) | exact H
          have Ny283 := Aside0.mk hy283
          clear hy283
          have H' := Aside0.mk H
          clear H
          go_wp2_with (first | ((with_reducible refine gate_dst (N := 16) rfl ?_); (try (refine gate_guard (by rfl) ?_; dsimp only)); refine Kd.R_lit k33 _ 33 ?hg (N := 16) ?hd (xs := ([] : List (S33))) (inner := []) (ok := fun _ => True) (okp := fun _ => True) ?hr ?hp (fun _ hk => hk) trivial (Below.refl _ _) (Nat.le_refl _) (by simp) ?_; (case hd => rfl); (case hg => rfl); (case hr => first | (go_simp; done) | (go_simp; rfl)); (case hp => exact (Reps.none _ _)); intro v281 w10 ho11 hb hg_ hnew_; clear hg_ hnew_; (first | rw [← Ny280.out] at ho11 | (simp only [Int.reduceToNat] at ho11; rw [← Ny280.out] at ho11)); have n0_ := Aside0.mk (Kd.R_lower ho11 (below_size (by repeat (first | (with_reducible first | exact HB.out | apply below_alloc | apply pw_below_drewN | apply below_drew1) | exact HB.out)))); have n1_ := Aside0.mk (below_step (by repeat (first | (with_reducible first | exact HB.out | apply below_alloc | apply pw_below_drewN | apply below_drew1) | exact HB.out)) hb); clear HB; have HO282 := n0_; have HB := n1_; clear n0_ n1_; clear hb ho11) | ((with_reducible refine gate_builtin (b := .append) (xs := #[.tmp 16, .tmp 17]) rfl ?_); (try (refine gate_guard (by rfl) ?_; dsimp only)); at_builtin; refine Kd.R_append_rows k33 (w0 := w) w.heap.size rfl (.tmp 16) (.tmp 17) 22 33 (.agg #[(.int .i64 0), (.string ⟨#[]⟩), (.int .i64 0)]) 32 rfl Try.underlying22 info33 rfl (by decide) (by omega) v281 y280 l0 _ _ _ (fun _ => True) (fun _ => False) rfl rfl ?aO ?aR (fun _ _ h => h) (fun _ h => h.elim) ?aF ?aB ?aS ?aL ?_; (case aR => repeat (first | exact (Kd.C_below HR0.out HB.out) | (with_reducible refine Kd.C_alloc ?_ _) | (with_reducible refine Kd.C_drewN ?_ _) | (with_reducible refine Kd.C_drew ?_))); (case aB => exact (by repeat (first | (with_reducible first | exact HB.out | apply below_alloc | apply pw_below_drewN | apply below_drew1) | exact HB.out))); (case aF => exact (fun _ _ => trivial)); (case aO => exact (by (with_reducible repeat (first | apply Kd.R_alloc | apply Kd.R_drewN | apply Kd.R_drew)); exact HO282.out)); (case aS => exact (below_size (by repeat (first | (with_reducible first | exact HB.out | apply below_alloc | apply pw_below_drewN | apply below_drew1) | exact HB.out)))); (case aL => have := LMc9.out; omega); intro v284 w12 ho hb hg hat; rw [← Ny283.out] at ho; have n0_ := Aside0.mk (hb); have n1_ := Aside0.mk (ho); clear HB; clear HO282; have HB := n0_; have HO285 := n1_; clear n0_ n1_; clear ho hb hg hat))
          go_loopg [6] kj2 (fun kq v6 w' => ∃ (x5_2 : List (S33)) (x6_2 : Int), v6 = .int .i64 x6_2 ∧ Aside0 (pontoonlaw06_ClassQuotes.l0 kq l0 a1 x5_2 x6_2 = some r) ∧ Aside0 (kq ≤ kj2) ∧ Aside0 (Kd.R k33 33 w' w.heap.size (fun _ => True) v284 x5_2) ∧ Aside0 (Below w.heap.size w w'))
          case atStart => exact ⟨(y283), (0), (by first | rfl | (simp; done) | (simp [*]; done)), H', ⟨Nat.le_refl _⟩, ⟨by (with_reducible repeat (first | apply Kd.R_alloc | apply Kd.R_drewN | apply Kd.R_drew)); exact HO285.out⟩, ⟨by repeat (first | (with_reducible first | exact HB.out | apply below_alloc | apply pw_below_drewN | apply below_drew1) | exact HB.out)⟩⟩
          case round =>
            clear H'
            try clear p2
            try clear c5
            try clear c6
            try clear c8
            try clear c9
            try clear p2
            obtain ⟨x5_2, x6_2, rfl, HA, HK2, HO_5, HB⟩ := hrel
            cases gk with
            | zero => exact absurd HA.out (by simp [pontoonlaw06_ClassQuotes.l0])
            | succ k2 =>
              have H := HA.out
              clear HA
              simp only [pontoonlaw06_ClassQuotes.l0] at H
              by_cases c13 : x6_2 < (x5_2.length : Int)
              · rw [if_pos c13] at H
                have c13b0 : decide (x6_2 < (x5_2.length : Int)) = true := decide_eq_true c13
                clear c13
                by_cases c14 : 0 ≤ x6_2
                · rw [if_pos c14] at H
                  have c14b0 : decide (0 ≤ x6_2) = true := decide_eq_true c14
                  clear c14
                  by_cases c15 : ((rd_T33 x5_2 x6_2).f0) = 2
                  · rw [if_pos c15] at H
                    have c15b0 : (((rd_T33 x5_2 x6_2).f0) == 2) = true := beq_iff_eq.mpr c15
                    have c15b1 : (((rd_T33 x5_2 x6_2).f0) != 2) = false := bne_eq_false_iff_eq.mpr c15
                    clear c15
                    obtain ⟨y287, hy287⟩ : ∃ y_ : List (S33), y_ = (x5_2.set (x6_2 : Int).toNat (⟨(rd_T33 x5_2 x6_2).f0, a1, (rd_T33 x5_2 x6_2).f2⟩ : S33)) := ⟨_, rfl⟩
                    replace H : (pontoonlaw06_ClassQuotes.l0 k2 l0 a1 y287 (wrap64 (x6_2 + 1))) = some r := by first | (rw [hy287]; with_reducible exact H) | (have H2_ := (Option.bind_some _ _).symm.trans H; rw [hy287]; with_reducible exact H2_) | (have H2_ := (Option.bind_some _ _).symm.trans H; with_reducible exact H2_) | with_reducible exact H | (rw [hy287]; exact H) | exact H
                    have Ny287 := Aside0.mk hy287
                    clear hy287
                    have H' := Aside0.mk H
                    clear H
                    obtain ⟨Ao17, co17, eo17⟩ := Kd.R_slice HO_5.out
                    subst eo17
                    have p286 : 0 ≤ (x6_2 : Int) := of_decide_eq_true (by first | (with_reducible assumption) | assumption)
                    have q286 : x6_2 < (x5_2.length : Int) := of_decide_eq_true (by first | (with_reducible assumption) | assumption)
                    obtain ⟨ad286, e286, hx286_0, hx286_1, hx286_2⟩ := at_T33 (Kd.R_reads' HO_5.out).2.2 x6_2 p286 q286
                    cases e286
                    have q286n := q286
                    replace p286 := eq_true p286
                    replace q286 := eq_true q286
                    have p16 : 0 ≤ (x6_2 : Int) := of_decide_eq_true (by first | (with_reducible assumption) | assumption)
                    have q16 : (x6_2 : Int) < ((x5_2.length : Int) : Int) := of_decide_eq_true (by first | (with_reducible assumption) | assumption)
                    obtain ⟨go16, co16, eo16, gb16, gl16, cl16, HG16⟩ := Kd.R_form HO_5.out (by omega)
                    (first | cases eo16 | (injection eo16 with ea_ en_ ec_; (first | subst ea_ | (injection ea_ with ea_; subst ea_)); subst ec_; clear en_))
                    have GB16 := Aside0.mk gb16
                    have GG16 := Aside0.mk HG16
                    clear gb16 gl16 HG16
                    (first | simp only [add_plain] at hx286_0 | skip)
                    (first | simp only [add_plain] at hx286_1 | skip)
                    (first | simp only [add_plain] at hx286_2 | skip)
                    obtain ⟨ce16, hcl16, hM16, hcc16, hfr16⟩ := Kd.R_elem HO_5.out z33 (x6_2 : Int) p16 q16
                    obtain rfl := k33_openM hM16
                    have hx16_0 : wr.cell? ⟨go16, (x6_2 : Int).toNat * 3, none⟩ = some (.int .i64 ((rd_T33 x5_2 x6_2).f0)) := hcc16 0 _ rfl
                    have hx16_1 : wr.cell? ⟨go16, (x6_2 : Int).toNat * 3 + 1, none⟩ = some (.string ((rd_T33 x5_2 x6_2).f1)) := hcc16 1 _ rfl
                    have hx16_2 : wr.cell? ⟨go16, (x6_2 : Int).toNat * 3 + 2, none⟩ = some (.int .i64 ((rd_T33 x5_2 x6_2).f2)) := hcc16 2 _ rfl
                    have hf16_0 : wr.frozen? ⟨go16, (x6_2 : Int).toNat * 3, none⟩ = false := hfr16 0
                    have hf16_1 : wr.frozen? ⟨go16, (x6_2 : Int).toNat * 3 + 1, none⟩ = false := hfr16 1
                    have hf16_2 : wr.frozen? ⟨go16, (x6_2 : Int).toNat * 3 + 2, none⟩ = false := hfr16 2
                    clear hcl16 hcc16 hfr16 hM16
                    have q16n := q16
                    replace p16 := eq_true p16
                    replace q16 := eq_true q16
                    have HX18 := Aside0.mk (show Kd.R k33 33 wr w.heap.size (fun _ => True) (.slice (some ⟨go16, 0, none⟩) x5_2.length co17) x5_2 from (by (with_reducible repeat (first | apply Kd.R_alloc | apply Kd.R_drewN | apply Kd.R_drew)); exact HO_5.out))
                    obtain ⟨ce18, hcl18, hM18, hcc18, hfr18⟩ := Kd.R_elem HX18.out z33 (x6_2 : Int) (of_decide_eq_true (by first | (with_reducible assumption) | assumption)) (by have h_ : (x6_2 : Int) < ((x5_2.length : Int) : Int) := of_decide_eq_true (by first | (with_reducible assumption) | assumption); first | exact h_ | (have e_ := (Kd.R_reads' HO_5.out).1; omega) | simpa using h_)
                    obtain rfl := k33_openM hM18
                    have HP18 := Kd.R_seg HX18.out (x6_2 : Int) (of_decide_eq_true (by first | (with_reducible assumption) | assumption)) (by have h_ : (x6_2 : Int) < ((x5_2.length : Int) : Int) := of_decide_eq_true (by first | (with_reducible assumption) | assumption); first | exact h_ | (have e_ := (Kd.R_reads' HO_5.out).1; omega) | simpa using h_) (seg := [.string a1]) (j := 1) hcl18 hcc18 (show 2 ≤ 3 from by decide) (x' := (⟨(rd_T33 x5_2 x6_2).f0, a1, (rd_T33 x5_2 x6_2).f2⟩ : S33)) (k33_mkM _ _ _ (⟨(rd_T33 x5_2 x6_2).f0, a1, (rd_T33 x5_2 x6_2).f2⟩ : S33) ) (fun _ hk => hk)
                    have hx18_1 := hcc18 1 _ rfl
                    (try simp only [show (k33).sz = 3 from rfl, Nat.mul_one, Nat.add_zero] at hx18_1)
                    have hf18_1 := hfr18 1
                    (try simp only [show (k33).sz = 3 from rfl, Nat.mul_one, Nat.add_zero] at hf18_1)
                    clear hcl18 hcc18 hfr18 hM18
                    go_wp2_with (first | ((with_reducible refine gate_store (t := 9) (p := 43) rfl ?_); refine store_event (t := 9) (p := 43) (v := ?vo_w19) (w1 := (wr.setCell ⟨go16, (x6_2 : Int).toNat * 3 + 1, none⟩ (.string a1))) ?hg ?ho ?hn ?hr ?_; (case ho => rfl); (case hg => rfl); (case hn => rfl); (case hr => first | (go_simp; done) | (go_simp; rfl)); intro w19 hw; have hg : wr.grownBy w19 (some go16) := (by rw [hw]; exact HP18.2); have hp_ : Kd.R k33 33 w19 w.heap.size (fun _ => True) (.slice (some ⟨go16, 0, none⟩) x5_2.length co17) y287 := (by rw [hw, Ny287.out]; exact HP18.1); clear HP18; have n0_ := Aside0.mk (hp_); have n1_ := Aside0.mk ((by rw [hw]; exact below_set (HB.out) GB16.out : Below w.heap.size w w19)); clear HO_5; clear HB; have HO_5 := n0_; have HB := n1_; clear n0_ n1_; clear hg hw hp_))
                    go_roundg k2
                    case measure => have := HJ2.out; have := HK2.out; omega
                    case rel => exact ⟨(y287), (wrap64 (x6_2 + 1)), (by first | rfl | (simp; done) | (simp [*]; done)), H', ⟨by have := HJ2.out; have := HK2.out; omega⟩, ⟨by (with_reducible repeat (first | apply Kd.R_alloc | apply Kd.R_drewN | apply Kd.R_drew)); exact HO_5.out⟩, ⟨by repeat (first | (with_reducible first | exact HB.out | apply below_alloc | apply pw_below_drewN | apply below_drew1) | exact HB.out)⟩⟩
                  · rw [if_neg c15] at H
                    have c15b0 : (((rd_T33 x5_2 x6_2).f0) == 2) = false := beq_eq_false_iff_ne.mpr c15
                    have c15b1 : (((rd_T33 x5_2 x6_2).f0) != 2) = true := bne_iff_ne.mpr c15
                    by_cases c20 : ((rd_T33 x5_2 x6_2).f0) = 3
                    · rw [if_pos c20] at H
                      have c20b0 : (((rd_T33 x5_2 x6_2).f0) == 3) = true := beq_iff_eq.mpr c20
                      have c20b1 : (((rd_T33 x5_2 x6_2).f0) != 3) = false := bne_eq_false_iff_eq.mpr c20
                      clear c20
                      obtain ⟨y289, hy289⟩ : ∃ y_ : List (S33), y_ = (x5_2.set (x6_2 : Int).toNat (⟨(rd_T33 x5_2 x6_2).f0, a1, (rd_T33 x5_2 x6_2).f2⟩ : S33)) := ⟨_, rfl⟩
                      replace H : (pontoonlaw06_ClassQuotes.l0 k2 l0 a1 y289 (wrap64 (x6_2 + 1))) = some r := by first | (rw [hy289]; with_reducible exact H) | (have H2_ := (Option.bind_some _ _).symm.trans H; rw [hy289]; with_reducible exact H2_) | (have H2_ := (Option.bind_some _ _).symm.trans H; with_reducible exact H2_) | with_reducible exact H | (rw [hy289]; exact H) | exact H
                      have Ny289 := Aside0.mk hy289
                      clear hy289
                      have H' := Aside0.mk H
                      clear H
                      obtain ⟨Ao22, co22, eo22⟩ := Kd.R_slice HO_5.out
                      subst eo22
                      have p286 : 0 ≤ (x6_2 : Int) := of_decide_eq_true (by first | (with_reducible assumption) | assumption)
                      have q286 : x6_2 < (x5_2.length : Int) := of_decide_eq_true (by first | (with_reducible assumption) | assumption)
                      obtain ⟨ad286, e286, hx286_0, hx286_1, hx286_2⟩ := at_T33 (Kd.R_reads' HO_5.out).2.2 x6_2 p286 q286
                      cases e286
                      have q286n := q286
                      replace p286 := eq_true p286
                      replace q286 := eq_true q286
                      have p288 : 0 ≤ (x6_2 : Int) := of_decide_eq_true (by first | (with_reducible assumption) | assumption)
                      have q288 : x6_2 < (x5_2.length : Int) := of_decide_eq_true (by first | (with_reducible assumption) | assumption)
                      obtain ⟨ad288, e288, hx288_0, hx288_1, hx288_2⟩ := at_T33 (Kd.R_reads' HO_5.out).2.2 x6_2 p288 q288
                      obtain rfl : ad286 = ad288 := (by injection e288)
                      have q288n := q288
                      replace p288 := eq_true p288
                      replace q288 := eq_true q288
                      have p21 : 0 ≤ (x6_2 : Int) := of_decide_eq_true (by first | (with_reducible assumption) | assumption)
                      have q21 : (x6_2 : Int) < ((x5_2.length : Int) : Int) := of_decide_eq_true (by first | (with_reducible assumption) | assumption)
                      obtain ⟨go21, co21, eo21, gb21, gl21, cl21, HG21⟩ := Kd.R_form HO_5.out (by omega)
                      (first | cases eo21 | (injection eo21 with ea_ en_ ec_; (first | subst ea_ | (injection ea_ with ea_; subst ea_)); subst ec_; clear en_))
                      have GB21 := Aside0.mk gb21
                      have GG21 := Aside0.mk HG21
                      clear gb21 gl21 HG21
                      (first | simp only [add_plain] at hx286_0 | skip)
                      (first | simp only [add_plain] at hx286_1 | skip)
                      (first | simp only [add_plain] at hx286_2 | skip)
                      (first | simp only [add_plain] at hx288_0 | skip)
                      (first | simp only [add_plain] at hx288_1 | skip)
                      (first | simp only [add_plain] at hx288_2 | skip)
                      obtain ⟨ce21, hcl21, hM21, hcc21, hfr21⟩ := Kd.R_elem HO_5.out z33 (x6_2 : Int) p21 q21
                      obtain rfl := k33_openM hM21
                      have hx21_0 : wr.cell? ⟨go21, (x6_2 : Int).toNat * 3, none⟩ = some (.int .i64 ((rd_T33 x5_2 x6_2).f0)) := hcc21 0 _ rfl
                      have hx21_1 : wr.cell? ⟨go21, (x6_2 : Int).toNat * 3 + 1, none⟩ = some (.string ((rd_T33 x5_2 x6_2).f1)) := hcc21 1 _ rfl
                      have hx21_2 : wr.cell? ⟨go21, (x6_2 : Int).toNat * 3 + 2, none⟩ = some (.int .i64 ((rd_T33 x5_2 x6_2).f2)) := hcc21 2 _ rfl
                      have hf21_0 : wr.frozen? ⟨go21, (x6_2 : Int).toNat * 3, none⟩ = false := hfr21 0
                      have hf21_1 : wr.frozen? ⟨go21, (x6_2 : Int).toNat * 3 + 1, none⟩ = false := hfr21 1
                      have hf21_2 : wr.frozen? ⟨go21, (x6_2 : Int).toNat * 3 + 2, none⟩ = false := hfr21 2
                      clear hcl21 hcc21 hfr21 hM21
                      have q21n := q21
                      replace p21 := eq_true p21
                      replace q21 := eq_true q21
                      have HX23 := Aside0.mk (show Kd.R k33 33 wr w.heap.size (fun _ => True) (.slice (some ⟨go21, 0, none⟩) x5_2.length co22) x5_2 from (by (with_reducible repeat (first | apply Kd.R_alloc | apply Kd.R_drewN | apply Kd.R_drew)); exact HO_5.out))
                      obtain ⟨ce23, hcl23, hM23, hcc23, hfr23⟩ := Kd.R_elem HX23.out z33 (x6_2 : Int) (of_decide_eq_true (by first | (with_reducible assumption) | assumption)) (by have h_ : (x6_2 : Int) < ((x5_2.length : Int) : Int) := of_decide_eq_true (by first | (with_reducible assumption) | assumption); first | exact h_ | (have e_ := (Kd.R_reads' HO_5.out).1; omega) | simpa using h_)
                      obtain rfl := k33_openM hM23
                      have HP23 := Kd.R_seg HX23.out (x6_2 : Int) (of_decide_eq_true (by first | (with_reducible assumption) | assumption)) (by have h_ : (x6_2 : Int) < ((x5_2.length : Int) : Int) := of_decide_eq_true (by first | (with_reducible assumption) | assumption); first | exact h_ | (have e_ := (Kd.R_reads' HO_5.out).1; omega) | simpa using h_) (seg := [.string a1]) (j := 1) hcl23 hcc23 (show 2 ≤ 3 from by decide) (x' := (⟨(rd_T33 x5_2 x6_2).f0, a1, (rd_T33 x5_2 x6_2).f2⟩ : S33)) (k33_mkM _ _ _ (⟨(rd_T33 x5_2 x6_2).f0, a1, (rd_T33 x5_2 x6_2).f2⟩ : S33) ) (fun _ hk => hk)
                      have hx23_1 := hcc23 1 _ rfl
                      (try simp only [show (k33).sz = 3 from rfl, Nat.mul_one, Nat.add_zero] at hx23_1)
                      have hf23_1 := hfr23 1
                      (try simp only [show (k33).sz = 3 from rfl, Nat.mul_one, Nat.add_zero] at hf23_1)
                      clear hcl23 hcc23 hfr23 hM23
                      go_wp2_with (first | ((with_reducible refine gate_store (t := 9) (p := 43) rfl ?_); refine store_event (t := 9) (p := 43) (v := ?vo_w24) (w1 := (wr.setCell ⟨go21, (x6_2 : Int).toNat * 3 + 1, none⟩ (.string a1))) ?hg ?ho ?hn ?hr ?_; (case ho => rfl); (case hg => rfl); (case hn => rfl); (case hr => first | (go_simp; done) | (go_simp; rfl)); intro w24 hw; have hg : wr.grownBy w24 (some go21) := (by rw [hw]; exact HP23.2); have hp_ : Kd.R k33 33 w24 w.heap.size (fun _ => True) (.slice (some ⟨go21, 0, none⟩) x5_2.length co22) y289 := (by rw [hw, Ny289.out]; exact HP23.1); clear HP23; have n0_ := Aside0.mk (hp_); have n1_ := Aside0.mk ((by rw [hw]; exact below_set (HB.out) GB21.out : Below w.heap.size w w24)); clear HO_5; clear HB; have HO_5 := n0_; have HB := n1_; clear n0_ n1_; clear hg hw hp_))
                      go_roundg k2
                      case measure => have := HJ2.out; have := HK2.out; omega
                      case rel => exact ⟨(y289), (wrap64 (x6_2 + 1)), (by first | rfl | (simp; done) | (simp [*]; done)), H', ⟨by have := HJ2.out; have := HK2.out; omega⟩, ⟨by (with_reducible repeat (first | apply Kd.R_alloc | apply Kd.R_drewN | apply Kd.R_drew)); exact HO_5.out⟩, ⟨by repeat (first | (with_reducible first | exact HB.out | apply below_alloc | apply pw_below_drewN | apply below_drew1) | exact HB.out)⟩⟩
                    · rw [if_neg c20] at H
                      have c20b0 : (((rd_T33 x5_2 x6_2).f0) == 3) = false := beq_eq_false_iff_ne.mpr c20
                      have c20b1 : (((rd_T33 x5_2 x6_2).f0) != 3) = true := bne_iff_ne.mpr c20
                      have H' := Aside0.mk H
                      clear H
                      obtain ⟨Ao25, co25, eo25⟩ := Kd.R_slice HO_5.out
                      subst eo25
                      have p286 : 0 ≤ (x6_2 : Int) := of_decide_eq_true (by first | (with_reducible assumption) | assumption)
                      have q286 : x6_2 < (x5_2.length : Int) := of_decide_eq_true (by first | (with_reducible assumption) | assumption)
                      obtain ⟨ad286, e286, hx286_0, hx286_1, hx286_2⟩ := at_T33 (Kd.R_reads' HO_5.out).2.2 x6_2 p286 q286
                      cases e286
                      have q286n := q286
                      replace p286 := eq_true p286
                      replace q286 := eq_true q286
                      have p288 : 0 ≤ (x6_2 : Int) := of_decide_eq_true (by first | (with_reducible assumption) | assumption)
                      have q288 : x6_2 < (x5_2.length : Int) := of_decide_eq_true (by first | (with_reducible assumption) | assumption)
                      obtain ⟨ad288, e288, hx288_0, hx288_1, hx288_2⟩ := at_T33 (Kd.R_reads' HO_5.out).2.2 x6_2 p288 q288
                      obtain rfl : ad286 = ad288 := (by injection e288)
                      have q288n := q288
                      replace p288 := eq_true p288
                      replace q288 := eq_true q288
                      go_wp2
                      go_roundg k2
                      case measure => have := HJ2.out; have := HK2.out; omega
                      case rel => exact ⟨(x5_2), (wrap64 (x6_2 + 1)), (by first | rfl | (simp; done) | (simp [*]; done)), H', ⟨by have := HJ2.out; have := HK2.out; omega⟩, ⟨by (with_reducible repeat (first | apply Kd.R_alloc | apply Kd.R_drewN | apply Kd.R_drew)); exact HO_5.out⟩, ⟨by repeat (first | (with_reducible first | exact HB.out | apply below_alloc | apply pw_below_drewN | apply below_drew1) | exact HB.out)⟩⟩
                · rw [if_neg c14] at H
                  exact absurd H (by simp)
              · rw [if_neg c13] at H
                have c13b0 : decide (x6_2 < (x5_2.length : Int)) = false := decide_eq_false c13
                clear c13
                replace H := Option.bind_eq_some_iff.mp H
                obtain ⟨t290, A260, H⟩ := H
                replace H : ((class_Of.f k2 x5_2).bind fun t291 => (if t290 = t291 then ((pontoonlaw06_known.f).bind fun t292 => (some t292)) else (some false))) = some r := H
                have A26 := Aside0.mk A260
                clear A260
                replace H := Option.bind_eq_some_iff.mp H
                obtain ⟨t291, A270, H⟩ := H
                replace H : (if t290 = t291 then ((pontoonlaw06_known.f).bind fun t292 => (some t292)) else (some false)) = some r := H
                have A27 := Aside0.mk A270
                clear A270
                by_cases c28 : t290 = t291
                · rw [if_pos c28] at H
                  have c28b0 : (t290 == t291) = true := beq_iff_eq.mpr c28
                  have c28b1 : (t290 != t291) = false := bne_eq_false_iff_eq.mpr c28
                  clear c28
                  replace H := Option.bind_eq_some_iff.mp H
                  obtain ⟨t292, A290, H⟩ := H
                  replace H : (some t292) = some r := H
                  have A29 := Aside0.mk A290
                  clear A290
                  obtain rfl := Option.some.inj H
                  obtain ⟨Ao30, co30, eo30⟩ := Kd.R_slice HO_5.out
                  subst eo30
                  go_wp2_with (first | ((with_reducible refine gate_callee (f := 10) rfl ?_); refine goesL_ (some 45) rfl rfl Try.func10 (by kernel_rfl) rfl #[.slice A0 l0.length c0] rfl (by (try simp only [List.map_toArray, List.map_cons, List.map_nil]); first | done | rfl | (simp only [List.length_drop, List.length_take]; rfl)) ?_; (with_reducible refine (class_Of.calls k2 _ _ l0 t290 _ ?side1 ?side2 A26.out).mono ?_); (case side1 => repeat (first | exact (Kd.C_below HR0.out HB.out) | (with_reducible refine Kd.C_alloc ?_ _) | (with_reducible refine Kd.C_drewN ?_ _) | (with_reducible refine Kd.C_drew ?_))); (case side2 => exact HC0.out); rintro e w31 ⟨rfl, hb⟩; refine ⟨_, rfl, ?_⟩; have n0_ := Aside0.mk (Kd.R_below (by (with_reducible repeat (first | apply Kd.R_alloc | apply Kd.R_drewN | apply Kd.R_drew)); exact HO_5.out) hb); have n1_ := Aside0.mk (below_step (by repeat (first | (with_reducible first | exact HB.out | apply below_alloc | apply pw_below_drewN | apply below_drew1) | exact HB.out)) hb); clear HO_5; clear HB; have HO_5 := n0_; have HB := n1_; clear n0_ n1_; (try clear hb); (try clear hb2); (try clear hk); (try clear hi)) | ((with_reducible refine gate_callee (f := 10) rfl ?_); refine goesL_ (some 47) rfl rfl Try.func10 (by kernel_rfl) rfl #[.slice Ao30 x5_2.length co30] rfl (by (try simp only [List.map_toArray, List.map_cons, List.map_nil]); first | done | rfl | (simp only [List.length_drop, List.length_take]; rfl)) ?_; (with_reducible refine (class_Of.calls k2 _ _ x5_2 t291 _ ?side1 ?side2 A27.out).mono ?_); (case side1 => repeat (first | exact (Kd.R_reads' HO_5.out).2.2 | (with_reducible refine Kd.C_alloc ?_ _) | (with_reducible refine Kd.C_drewN ?_ _) | (with_reducible refine Kd.C_drew ?_))); (case side2 => exact (Kd.R_reads' HO_5.out).2.1); rintro e w32 ⟨rfl, hb⟩; refine ⟨_, rfl, ?_⟩; have n0_ := Aside0.mk (Kd.R_below (by (with_reducible repeat (first | apply Kd.R_alloc | apply Kd.R_drewN | apply Kd.R_drew)); exact HO_5.out) hb); have n1_ := Aside0.mk (below_step (by repeat (first | (with_reducible first | exact HB.out | apply below_alloc | apply pw_below_drewN | apply below_drew1) | exact HB.out)) hb); clear HO_5; clear HB; have HO_5 := n0_; have HB := n1_; clear n0_ n1_; (try clear hb); (try clear hb2); (try clear hk); (try clear hi)) | (go_at_call 9; (with_reducible refine (pontoonlaw06_known.calls  t292 _ A29.out).mono ?_); rintro e w33 ⟨rfl, hb⟩; have n0_ := Aside0.mk (Kd.R_below (by (with_reducible repeat (first | apply Kd.R_alloc | apply Kd.R_drewN | apply Kd.R_drew)); exact HO_5.out) hb); have n1_ := Aside0.mk (below_step (by repeat (first | (with_reducible first | exact HB.out | apply below_alloc | apply pw_below_drewN | apply below_drew1) | exact HB.out)) hb); clear HO_5; clear HB; have HO_5 := n0_; have HB := n1_; clear n0_ n1_; (try clear hb); (try clear hb2); (try clear hk); (try clear hi)))
                  go_ret
                  exact ⟨by first | rfl | (simp [errW_none, errW_some] <;> rfl) | (simp [*, errW_none, errW_some] <;> rfl), by repeat (first | (with_reducible first | exact HB.out | apply below_alloc | apply pw_below_drewN | apply below_drew1) | exact HB.out)⟩
                · rw [if_neg c28] at H
                  have c28b0 : (t290 == t291) = false := beq_eq_false_iff_ne.mpr c28
                  have c28b1 : (t290 != t291) = true := bne_iff_ne.mpr c28
                  obtain rfl := Option.some.inj H
                  obtain ⟨Ao34, co34, eo34⟩ := Kd.R_slice HO_5.out
                  subst eo34
                  go_wp2_with (first | ((with_reducible refine gate_callee (f := 10) rfl ?_); refine goesL_ (some 45) rfl rfl Try.func10 (by kernel_rfl) rfl #[.slice A0 l0.length c0] rfl (by (try simp only [List.map_toArray, List.map_cons, List.map_nil]); first | done | rfl | (simp only [List.length_drop, List.length_take]; rfl)) ?_; (with_reducible refine (class_Of.calls k2 _ _ l0 t290 _ ?side1 ?side2 A26.out).mono ?_); (case side1 => repeat (first | exact (Kd.C_below HR0.out HB.out) | (with_reducible refine Kd.C_alloc ?_ _) | (with_reducible refine Kd.C_drewN ?_ _) | (with_reducible refine Kd.C_drew ?_))); (case side2 => exact HC0.out); rintro e w35 ⟨rfl, hb⟩; refine ⟨_, rfl, ?_⟩; have n0_ := Aside0.mk (Kd.R_below (by (with_reducible repeat (first | apply Kd.R_alloc | apply Kd.R_drewN | apply Kd.R_drew)); exact HO_5.out) hb); have n1_ := Aside0.mk (below_step (by repeat (first | (with_reducible first | exact HB.out | apply below_alloc | apply pw_below_drewN | apply below_drew1) | exact HB.out)) hb); clear HO_5; clear HB; have HO_5 := n0_; have HB := n1_; clear n0_ n1_; (try clear hb); (try clear hb2); (try clear hk); (try clear hi)) | ((with_reducible refine gate_callee (f := 10) rfl ?_); refine goesL_ (some 47) rfl rfl Try.func10 (by kernel_rfl) rfl #[.slice Ao34 x5_2.length co34] rfl (by (try simp only [List.map_toArray, List.map_cons, List.map_nil]); first | done | rfl | (simp only [List.length_drop, List.length_take]; rfl)) ?_; (with_reducible refine (class_Of.calls k2 _ _ x5_2 t291 _ ?side1 ?side2 A27.out).mono ?_); (case side1 => repeat (first | exact (Kd.R_reads' HO_5.out).2.2 | (with_reducible refine Kd.C_alloc ?_ _) | (with_reducible refine Kd.C_drewN ?_ _) | (with_reducible refine Kd.C_drew ?_))); (case side2 => exact (Kd.R_reads' HO_5.out).2.1); rintro e w36 ⟨rfl, hb⟩; refine ⟨_, rfl, ?_⟩; have n0_ := Aside0.mk (Kd.R_below (by (with_reducible repeat (first | apply Kd.R_alloc | apply Kd.R_drewN | apply Kd.R_drew)); exact HO_5.out) hb); have n1_ := Aside0.mk (below_step (by repeat (first | (with_reducible first | exact HB.out | apply below_alloc | apply pw_below_drewN | apply below_drew1) | exact HB.out)) hb); clear HO_5; clear HB; have HO_5 := n0_; have HB := n1_; clear n0_ n1_; (try clear hb); (try clear hb2); (try clear hk); (try clear hi)))
                  go_ret
                  exact ⟨by first | rfl | (simp [errW_none, errW_some] <;> rfl) | (simp [*, errW_none, errW_some] <;> rfl), by repeat (first | (with_reducible first | exact HB.out | apply below_alloc | apply pw_below_drewN | apply below_drew1) | exact HB.out)⟩
        · rw [if_neg c9] at H
          exact absurd H (by simp)

end Go.Proofs.Ythfchnoebncpfaa.Pu
