-- Written by a program of this session's (wip/ext/run.py) over the kit's print, with contracts of its own.
import Derived.Test.YthfchnoebncpfaaPux0
import Derived.Test.YthfchnoebncpfaaPux8
namespace Go.Proofs.Ythfchnoebncpfaa.Pu
open Go Go.Maps Go.Proofs.Ythfchnoebncpfaa Go.RowKit Go.Proofs.YthfchnoebncpfaaW.PrintWords Go.Proofs.YthfchnoebncpfaaW.PrintLast Go.Proofs.YthfchnoebncpfaaW.PrintMore
attribute [local go_sem] max2_int min2_int max_two min_two max_three min_three max_four min_four   -- for this text's walks alone
set_option linter.unusedVariables false
set_option linter.unusedSimpArgs false

/-! ### pontoonref06_system: function 27 -/
def pontoonref06_system.l0 : Nat → List (S33) → Int → Option (Bool)
  | 0, _, _ => none
  | k + 1, x0, x3 => if x3 < (x0.length : Int) then ((pontoonref06_called.f x0 x3).bind fun t211 => (if t211 = true then (if 0 ≤ x3 then (if (((rd_T33 x0 x3).f1).size : Int) ≥ 3 then (if 0 ≤ 3 then (if 3 ≤ (((rd_T33 x0 x3).f1).size : Int) then (if (((rd_T33 x0 x3).f1).extract 0 3).toList = ([112, 103, 95] : List UInt8) then (some true) else (pontoonref06_system.l0 k x0 (wrap64 (x3 + 1)))) else (none)) else (none)) else (pontoonref06_system.l0 k x0 (wrap64 (x3 + 1)))) else (none)) else (pontoonref06_system.l0 k x0 (wrap64 (x3 + 1))))) else (some false)
def pontoonref06_system.f (k : Nat) (l0 : List (S33)) : Option (Bool) := pontoonref06_system.l0 k l0 0
theorem pontoonref06_system.mono_l : ∀ k, (∀ y0 y1, LeO (pontoonref06_system.l0 k y0 y1) (pontoonref06_system.l0 (k + 1) y0 y1))
  | 0 => fun _ _ r h => by simp [pontoonref06_system.l0] at h
  | k + 1 => by
    have ih0 := pontoonref06_system.mono_l k
    · intro y0 y1
      unfold pontoonref06_system.l0
      repeat' first
      | (with_reducible exact ih0 _ _)
      | (with_reducible exact LeO.refl _)
      | (with_reducible exact LeO.none _)
      | (with_reducible refine LeO.ite ?_ ?_)
      | (with_reducible refine LeO.bind ?_ (fun _ => ?_))
      | exact ih0 _ _
      | exact LeO.none _
      | refine LeO.ite ?_ ?_
      | refine LeO.bind ?_ (fun _ => ?_)
theorem pontoonref06_system.mono : ∀ a0 k, LeO (pontoonref06_system.f k a0) (pontoonref06_system.f (k + 1) a0) := by
  intro a0 k
  have ih0 := pontoonref06_system.mono_l k
  unfold pontoonref06_system.f
  repeat' first
      | (with_reducible exact ih0 _ _)
      | (with_reducible exact LeO.refl _)
      | (with_reducible exact LeO.none _)
      | (with_reducible refine LeO.ite ?_ ?_)
      | (with_reducible refine LeO.bind ?_ (fun _ => ?_))
      | exact ih0 _ _
      | exact LeO.none _
      | refine LeO.ite ?_ ?_
      | refine LeO.bind ?_ (fun _ => ?_)
set_option maxHeartbeats 8000000 in
set_option maxRecDepth 100000 in
theorem pontoonref06_system.calls (k : Nat) (A0 : Option Addr) (c0 : Nat) (l0 : List (S33)) (r : Bool) (w : World) (hr0 : Kd.C k33 w A0 l0.length l0) (hc0 : l0.length ≤ c0) (h : pontoonref06_system.f k l0 = some r) :
    Calls Try.prog 27 #[.slice A0 l0.length c0] w fun e w' => e = .returned (.bool r) ∧ Drawn0 w w' := by
  have HR0 := Aside0.mk hr0
  have HC0 := Aside0.mk hc0
  clear hr0 hc0
  have H : (pontoonref06_system.l0 k l0 0) = some r := h
  clear h
  have H' := Aside0.mk H
  clear H
  go_enter Try.func27, Try.ntmps27
  go_wp2
  go_loopg [3] k (fun kq v3 w' => ∃ (x3_1 : Int), v3 = .int .i64 x3_1 ∧ Aside0 (pontoonref06_system.l0 kq l0 x3_1 = some r) ∧ Aside0 (kq ≤ k) ∧ Drawn0 w w')
  case atStart => exact ⟨(0), (by first | rfl | (simp; done) | (simp [*]; done)), H', ⟨Nat.le_refl _⟩, by repeat (first | exact Drawn0.refl _ | apply Drawn0.step)⟩
  case round =>
    clear H'
    obtain ⟨x3_1, rfl, HA, HK1, ⟨m1, rfl⟩⟩ := hrel
    cases gk with
    | zero => exact absurd HA.out (by simp [pontoonref06_system.l0])
    | succ k1 =>
      have H := HA.out
      clear HA
      simp only [pontoonref06_system.l0] at H
      by_cases c2 : x3_1 < (l0.length : Int)
      · rw [if_pos c2] at H
        have c2b0 : decide (x3_1 < (l0.length : Int)) = true := decide_eq_true c2
        clear c2
        replace H := Option.bind_eq_some_iff.mp H
        obtain ⟨t211, A30, H⟩ := H
        replace H : (if t211 = true then (if 0 ≤ x3_1 then (if (((rd_T33 l0 x3_1).f1).size : Int) ≥ 3 then (if 0 ≤ 3 then (if 3 ≤ (((rd_T33 l0 x3_1).f1).size : Int) then (if (((rd_T33 l0 x3_1).f1).extract 0 3).toList = ([112, 103, 95] : List UInt8) then (some true) else (pontoonref06_system.l0 k1 l0 (wrap64 (x3_1 + 1)))) else (none)) else (none)) else (pontoonref06_system.l0 k1 l0 (wrap64 (x3_1 + 1)))) else (none)) else (pontoonref06_system.l0 k1 l0 (wrap64 (x3_1 + 1)))) = some r := H
        have A3 := Aside0.mk A30
        clear A30
        by_cases c4 : t211 = true
        · subst c4
          have H1 : (if 0 ≤ x3_1 then (if (((rd_T33 l0 x3_1).f1).size : Int) ≥ 3 then (if 0 ≤ 3 then (if 3 ≤ (((rd_T33 l0 x3_1).f1).size : Int) then (if (((rd_T33 l0 x3_1).f1).extract 0 3).toList = ([112, 103, 95] : List UInt8) then (some true) else (pontoonref06_system.l0 k1 l0 (wrap64 (x3_1 + 1)))) else (none)) else (none)) else (pontoonref06_system.l0 k1 l0 (wrap64 (x3_1 + 1)))) else (none)) = some r := by rw [if_pos rfl] at H; exact H
          clear H
          have H := H1
          clear H1
          by_cases c5 : 0 ≤ x3_1
          · rw [if_pos c5] at H
            have c5b0 : decide (0 ≤ x3_1) = true := decide_eq_true c5
            clear c5
            by_cases c6 : (((rd_T33 l0 x3_1).f1).size : Int) ≥ 3
            · rw [if_pos c6] at H
              have c6b0 : decide (3 ≤ (((rd_T33 l0 x3_1).f1).size : Int)) = true := decide_eq_true c6
              have c6b1 : decide (3 ≤ ((rd_T33 l0 x3_1).f1).size) = true := decide_eq_true (by omega)
              clear c6
              by_cases c7 : 0 ≤ 3
              · rw [if_pos c7] at H
                have c7b0 := eq_true c7
                have c7b1 : decide (0 ≤ 3) = true := decide_eq_true c7
                by_cases c8 : 3 ≤ (((rd_T33 l0 x3_1).f1).size : Int)
                · rw [if_pos c8] at H
                  have c8b0 := eq_true c8
                  have c8b1 : decide (3 ≤ (((rd_T33 l0 x3_1).f1).size : Int)) = true := decide_eq_true c8
                  by_cases c9 : (((rd_T33 l0 x3_1).f1).extract 0 3).toList = ([112, 103, 95] : List UInt8)
                  · rw [if_pos c9] at H
                    have c9b0 : ((((rd_T33 l0 x3_1).f1).extract 0 3).toList == ([112, 103, 95] : List UInt8)) = true := beq_iff_eq.mpr c9
                    have c9b1 : ((((rd_T33 l0 x3_1).f1).extract 0 3).toList != ([112, 103, 95] : List UInt8)) = false := bne_eq_false_iff_eq.mpr c9
                    clear c9
                    obtain rfl := Option.some.inj H
                    go_wp2_with (first | ((with_reducible refine gate_callee (f := 32) rfl ?_); refine goesL_ (some 12) rfl rfl Try.func32 (by kernel_rfl) rfl #[.slice A0 l0.length c0, .int .i64 x3_1] rfl (by (try simp only [List.map_toArray, List.map_cons, List.map_nil]); first | done | rfl | (simp only [List.length_drop, List.length_take]; rfl)) ?_; (with_reducible refine (pontoonref06_called.calls _ _ l0 x3_1 true _ ?side1 ?side2 A3.out).mono ?_); (case side1 => repeat (first | exact HR0.out | (with_reducible refine Kd.C_alloc ?_ _) | (with_reducible refine Kd.C_drewN ?_ _) | (with_reducible refine Kd.C_drew ?_))); (case side2 => exact HC0.out); rintro e w' ⟨rfl, ⟨nd, rfl⟩⟩; refine ⟨_, rfl, ?_⟩; have p212 : 0 ≤ (x3_1 : Int) := of_decide_eq_true (by first | (with_reducible assumption) | assumption); have q212 : x3_1 < (l0.length : Int) := of_decide_eq_true (by first | (with_reducible assumption) | assumption); obtain ⟨ad212, e212, hx212_0, hx212_1, hx212_2⟩ := at_T33 HR0.out x3_1 p212 q212; cases e212; have q212n := q212; replace p212 := eq_true p212; replace q212 := eq_true q212; have p213 : 0 ≤ (x3_1 : Int) := of_decide_eq_true (by first | (with_reducible assumption) | assumption); have q213 : x3_1 < (l0.length : Int) := of_decide_eq_true (by first | (with_reducible assumption) | assumption); obtain ⟨ad213, e213, hx213_0, hx213_1, hx213_2⟩ := at_T33 HR0.out x3_1 p213 q213; obtain rfl : ad212 = ad213 := (by injection e213); have q213n := q213; replace p213 := eq_true p213; replace q213 := eq_true q213))
                    go_ret
                    exact ⟨by first | rfl | (simp; done) | (simp [*]; done), by repeat (first | exact Drawn0.refl _ | apply Drawn0.step)⟩
                  · rw [if_neg c9] at H
                    have c9b0 : ((((rd_T33 l0 x3_1).f1).extract 0 3).toList == ([112, 103, 95] : List UInt8)) = false := beq_eq_false_iff_ne.mpr c9
                    have c9b1 : ((((rd_T33 l0 x3_1).f1).extract 0 3).toList != ([112, 103, 95] : List UInt8)) = true := bne_iff_ne.mpr c9
                    have H' := Aside0.mk H
                    clear H
                    go_wp2_with (first | ((with_reducible refine gate_callee (f := 32) rfl ?_); refine goesL_ (some 12) rfl rfl Try.func32 (by kernel_rfl) rfl #[.slice A0 l0.length c0, .int .i64 x3_1] rfl (by (try simp only [List.map_toArray, List.map_cons, List.map_nil]); first | done | rfl | (simp only [List.length_drop, List.length_take]; rfl)) ?_; (with_reducible refine (pontoonref06_called.calls _ _ l0 x3_1 true _ ?side1 ?side2 A3.out).mono ?_); (case side1 => repeat (first | exact HR0.out | (with_reducible refine Kd.C_alloc ?_ _) | (with_reducible refine Kd.C_drewN ?_ _) | (with_reducible refine Kd.C_drew ?_))); (case side2 => exact HC0.out); rintro e w' ⟨rfl, ⟨nd, rfl⟩⟩; refine ⟨_, rfl, ?_⟩; have p212 : 0 ≤ (x3_1 : Int) := of_decide_eq_true (by first | (with_reducible assumption) | assumption); have q212 : x3_1 < (l0.length : Int) := of_decide_eq_true (by first | (with_reducible assumption) | assumption); obtain ⟨ad212, e212, hx212_0, hx212_1, hx212_2⟩ := at_T33 HR0.out x3_1 p212 q212; cases e212; have q212n := q212; replace p212 := eq_true p212; replace q212 := eq_true q212; have p213 : 0 ≤ (x3_1 : Int) := of_decide_eq_true (by first | (with_reducible assumption) | assumption); have q213 : x3_1 < (l0.length : Int) := of_decide_eq_true (by first | (with_reducible assumption) | assumption); obtain ⟨ad213, e213, hx213_0, hx213_1, hx213_2⟩ := at_T33 HR0.out x3_1 p213 q213; obtain rfl : ad212 = ad213 := (by injection e213); have q213n := q213; replace p213 := eq_true p213; replace q213 := eq_true q213))
                    go_roundg k1
                    case measure => have := HK1.out; omega
                    case rel => exact ⟨(wrap64 (x3_1 + 1)), (by first | rfl | (simp; done) | (simp [*]; done)), H', ⟨by have := HK1.out; omega⟩, by repeat (first | exact Drawn0.refl _ | apply Drawn0.step)⟩
                · rw [if_neg c8] at H
                  exact absurd H (by simp)
              · rw [if_neg c7] at H
                exact absurd H (by simp)
            · rw [if_neg c6] at H
              have c6b0 : decide (3 ≤ (((rd_T33 l0 x3_1).f1).size : Int)) = false := decide_eq_false c6
              have c6b1 : decide (3 ≤ ((rd_T33 l0 x3_1).f1).size) = false := decide_eq_false (by omega)
              clear c6
              have H' := Aside0.mk H
              clear H
              go_wp2_with (first | ((with_reducible refine gate_callee (f := 32) rfl ?_); refine goesL_ (some 12) rfl rfl Try.func32 (by kernel_rfl) rfl #[.slice A0 l0.length c0, .int .i64 x3_1] rfl (by (try simp only [List.map_toArray, List.map_cons, List.map_nil]); first | done | rfl | (simp only [List.length_drop, List.length_take]; rfl)) ?_; (with_reducible refine (pontoonref06_called.calls _ _ l0 x3_1 true _ ?side1 ?side2 A3.out).mono ?_); (case side1 => repeat (first | exact HR0.out | (with_reducible refine Kd.C_alloc ?_ _) | (with_reducible refine Kd.C_drewN ?_ _) | (with_reducible refine Kd.C_drew ?_))); (case side2 => exact HC0.out); rintro e w' ⟨rfl, ⟨nd, rfl⟩⟩; refine ⟨_, rfl, ?_⟩; have p212 : 0 ≤ (x3_1 : Int) := of_decide_eq_true (by first | (with_reducible assumption) | assumption); have q212 : x3_1 < (l0.length : Int) := of_decide_eq_true (by first | (with_reducible assumption) | assumption); obtain ⟨ad212, e212, hx212_0, hx212_1, hx212_2⟩ := at_T33 HR0.out x3_1 p212 q212; cases e212; have q212n := q212; replace p212 := eq_true p212; replace q212 := eq_true q212))
              go_roundg k1
              case measure => have := HK1.out; omega
              case rel => exact ⟨(wrap64 (x3_1 + 1)), (by first | rfl | (simp; done) | (simp [*]; done)), H', ⟨by have := HK1.out; omega⟩, by repeat (first | exact Drawn0.refl _ | apply Drawn0.step)⟩
          · rw [if_neg c5] at H
            exact absurd H (by simp)
        · replace c4 := Bool.eq_false_iff.mpr c4
          subst c4
          have H1 : (pontoonref06_system.l0 k1 l0 (wrap64 (x3_1 + 1))) = some r := by rw [if_neg (show ¬ (false = true) by decide)] at H; exact H
          clear H
          have H := H1
          clear H1
          have H' := Aside0.mk H
          clear H
          go_wp2_with (first | ((with_reducible refine gate_callee (f := 32) rfl ?_); refine goesL_ (some 12) rfl rfl Try.func32 (by kernel_rfl) rfl #[.slice A0 l0.length c0, .int .i64 x3_1] rfl (by (try simp only [List.map_toArray, List.map_cons, List.map_nil]); first | done | rfl | (simp only [List.length_drop, List.length_take]; rfl)) ?_; (with_reducible refine (pontoonref06_called.calls _ _ l0 x3_1 false _ ?side1 ?side2 A3.out).mono ?_); (case side1 => repeat (first | exact HR0.out | (with_reducible refine Kd.C_alloc ?_ _) | (with_reducible refine Kd.C_drewN ?_ _) | (with_reducible refine Kd.C_drew ?_))); (case side2 => exact HC0.out); rintro e w' ⟨rfl, ⟨nd, rfl⟩⟩; refine ⟨_, rfl, ?_⟩))
          go_roundg k1
          case measure => have := HK1.out; omega
          case rel => exact ⟨(wrap64 (x3_1 + 1)), (by first | rfl | (simp; done) | (simp [*]; done)), H', ⟨by have := HK1.out; omega⟩, by repeat (first | exact Drawn0.refl _ | apply Drawn0.step)⟩
      · rw [if_neg c2] at H
        have c2b0 : decide (x3_1 < (l0.length : Int)) = false := decide_eq_false c2
        clear c2
        obtain rfl := Option.some.inj H
        go_wp2
        go_ret
        exact ⟨by first | rfl | (simp; done) | (simp [*]; done), by repeat (first | exact Drawn0.refl _ | apply Drawn0.step)⟩

end Go.Proofs.Ythfchnoebncpfaa.Pu
