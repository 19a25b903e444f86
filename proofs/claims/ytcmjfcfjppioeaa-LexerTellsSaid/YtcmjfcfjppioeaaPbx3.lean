-- Written by a program of this session's (wip/ext/run.py) over the kit's print, with contracts of its own.
import Derived.Test.YtcmjfcfjppioeaaPbx0
namespace Go.Proofs.Ytcmjfcfjppioeaa.Pb
open Go Go.Proofs.Ytcmjfcfjppioeaa Go.RowKit Go.Proofs.YtcmjfcfjppioeaaW.PrintWords Go.Proofs.YtcmjfcfjppioeaaW.PrintLast Go.Proofs.YtcmjfcfjppioeaaW.PrintMore
attribute [local go_sem] max2_int min2_int max_two min_two max_three min_three max_four min_four   -- for this text's walks alone
set_option linter.unusedVariables false
set_option linter.unusedSimpArgs false

/-! ### pontoonref04_Same: function 11 -/
def pontoonref04_Same.l0 : Nat → List (S30) → List (S30) → Bool → Int → Option (Bool)
  | 0, _, _, _, _ => none
  | k + 1, x0, x1, x2, x7 => if x7 < (x0.length : Int) then (if 0 ≤ x7 then (if x7 < (x1.length : Int) then (if ((rd_T30 x0 x7).f0) = ((rd_T30 x1 x7).f0) then (if ((rd_T30 x0 x7).f1).toList = ((rd_T30 x1 x7).f1).toList then (if x2 = true then (if ((rd_T30 x0 x7).f2) = ((rd_T30 x1 x7).f2) then (pontoonref04_Same.l0 k x0 x1 x2 (wrap64 (x7 + 1))) else (some false)) else (pontoonref04_Same.l0 k x0 x1 x2 (wrap64 (x7 + 1)))) else (some false)) else (some false)) else (none)) else (none)) else (some true)
def pontoonref04_Same.f (k : Nat) (l0 : List (S30)) (l1 : List (S30)) (a2 : Bool) : Option (Bool) := if (l0.length : Int) = (l1.length : Int) then (pontoonref04_Same.l0 k l0 l1 a2 0) else (some false)
theorem pontoonref04_Same.mono_l : ∀ k, (∀ y0 y1 y2 y3, LeO (pontoonref04_Same.l0 k y0 y1 y2 y3) (pontoonref04_Same.l0 (k + 1) y0 y1 y2 y3))
  | 0 => fun _ _ _ _ r h => by simp [pontoonref04_Same.l0] at h
  | k + 1 => by
    have ih0 := pontoonref04_Same.mono_l k
    · intro y0 y1 y2 y3
      unfold pontoonref04_Same.l0
      repeat' first
      | (with_reducible exact ih0 _ _ _ _)
      | (with_reducible exact LeO.refl _)
      | (with_reducible exact LeO.none _)
      | (with_reducible refine LeO.ite ?_ ?_)
      | (with_reducible refine LeO.bind ?_ (fun _ => ?_))
      | exact ih0 _ _ _ _
      | exact LeO.none _
      | refine LeO.ite ?_ ?_
      | refine LeO.bind ?_ (fun _ => ?_)
theorem pontoonref04_Same.mono : ∀ a0 a1 a2 k, LeO (pontoonref04_Same.f k a0 a1 a2) (pontoonref04_Same.f (k + 1) a0 a1 a2) := by
  intro a0 a1 a2 k
  have ih0 := pontoonref04_Same.mono_l k
  unfold pontoonref04_Same.f
  repeat' first
      | (with_reducible exact ih0 _ _ _ _)
      | (with_reducible exact LeO.refl _)
      | (with_reducible exact LeO.none _)
      | (with_reducible refine LeO.ite ?_ ?_)
      | (with_reducible refine LeO.bind ?_ (fun _ => ?_))
      | exact ih0 _ _ _ _
      | exact LeO.none _
      | refine LeO.ite ?_ ?_
      | refine LeO.bind ?_ (fun _ => ?_)
set_option maxHeartbeats 8000000 in
set_option maxRecDepth 100000 in
theorem pontoonref04_Same.calls (k : Nat) (A0 : Option Addr) (c0 : Nat) (l0 : List (S30)) (A1 : Option Addr) (c1 : Nat) (l1 : List (S30)) (a2 : Bool) (r : Bool) (w : World) (hr0 : Kd.C k30 w A0 l0.length l0) (hc0 : l0.length ≤ c0) (hr1 : Kd.C k30 w A1 l1.length l1) (hc1 : l1.length ≤ c1) (h : pontoonref04_Same.f k l0 l1 a2 = some r) :
    Calls Try.prog 11 #[.slice A0 l0.length c0, .slice A1 l1.length c1, .bool a2] w fun e w' => e = .returned (.bool r) ∧ Drawn0 w w' := by
  have HR0 := Aside0.mk hr0
  have HC0 := Aside0.mk hc0
  clear hr0 hc0
  have HR1 := Aside0.mk hr1
  have HC1 := Aside0.mk hc1
  clear hr1 hc1
  have H : (if (l0.length : Int) = (l1.length : Int) then (pontoonref04_Same.l0 k l0 l1 a2 0) else (some false)) = some r := h
  clear h
  by_cases c4 : (l0.length : Int) = (l1.length : Int)
  · rw [if_pos c4] at H
    have c4b0 : ((l0.length : Int) == (l1.length : Int)) = true := beq_iff_eq.mpr c4
    have c4b1 : ((l0.length : Int) != (l1.length : Int)) = false := bne_eq_false_iff_eq.mpr c4
    have c4b2 : (l0.length == l1.length) = true := by first | simpa using c4 | (simp at c4 ⊢; omega)
    clear c4
    have H' := Aside0.mk H
    clear H
    go_enter Try.func11, Try.ntmps11
    go_wp2
    repeat (go_quiet (fail); try go_wp2)
    go_loopg [7] k (fun kq v7 w' => ∃ (x7_1 : Int), v7 = .int .i64 x7_1 ∧ Aside0 (pontoonref04_Same.l0 kq l0 l1 a2 x7_1 = some r) ∧ Aside0 (kq ≤ k) ∧ Drawn0 w w')
    case atStart => exact ⟨(0), (by first | rfl | (simp; done) | (simp [*]; done)), H', ⟨Nat.le_refl _⟩, by repeat (first | exact Drawn0.refl _ | apply Drawn0.step)⟩
    case round =>
      clear H'
      try clear c1
      try clear p2
      try clear c4
      try clear c4b0
      try clear c4b1
      try clear c4b2
      obtain ⟨x7_1, rfl, HA, HK1, ⟨m1, rfl⟩⟩ := hrel
      cases gk with
      | zero => exact absurd HA.out (by simp [pontoonref04_Same.l0])
      | succ k1 =>
        have H := HA.out
        clear HA
        simp only [pontoonref04_Same.l0] at H
        by_cases c5 : x7_1 < (l0.length : Int)
        · rw [if_pos c5] at H
          have c5b0 : decide (x7_1 < (l0.length : Int)) = true := decide_eq_true c5
          clear c5
          by_cases c6 : 0 ≤ x7_1
          · rw [if_pos c6] at H
            have c6b0 : decide (0 ≤ x7_1) = true := decide_eq_true c6
            clear c6
            by_cases c7 : x7_1 < (l1.length : Int)
            · rw [if_pos c7] at H
              have c7b0 : decide (x7_1 < (l1.length : Int)) = true := decide_eq_true c7
              clear c7
              by_cases c8 : ((rd_T30 l0 x7_1).f0) = ((rd_T30 l1 x7_1).f0)
              · rw [if_pos c8] at H
                have c8b0 : (((rd_T30 l0 x7_1).f0) == ((rd_T30 l1 x7_1).f0)) = true := beq_iff_eq.mpr c8
                have c8b1 : (((rd_T30 l0 x7_1).f0) != ((rd_T30 l1 x7_1).f0)) = false := bne_eq_false_iff_eq.mpr c8
                clear c8
                by_cases c9 : ((rd_T30 l0 x7_1).f1).toList = ((rd_T30 l1 x7_1).f1).toList
                · rw [if_pos c9] at H
                  have c9b0 : (((rd_T30 l0 x7_1).f1).toList == ((rd_T30 l1 x7_1).f1).toList) = true := beq_iff_eq.mpr c9
                  have c9b1 : (((rd_T30 l0 x7_1).f1).toList != ((rd_T30 l1 x7_1).f1).toList) = false := bne_eq_false_iff_eq.mpr c9
                  clear c9
                  by_cases c10 : a2 = true
                  · subst c10
                    have H1 : (if ((rd_T30 l0 x7_1).f2) = ((rd_T30 l1 x7_1).f2) then (pontoonref04_Same.l0 k1 l0 l1 true (wrap64 (x7_1 + 1))) else (some false)) = some r := by rw [if_pos rfl] at H; exact H
                    clear H
                    have H := H1
                    clear H1
                    by_cases c11 : ((rd_T30 l0 x7_1).f2) = ((rd_T30 l1 x7_1).f2)
                    · rw [if_pos c11] at H
                      have c11b0 : (((rd_T30 l0 x7_1).f2) == ((rd_T30 l1 x7_1).f2)) = true := beq_iff_eq.mpr c11
                      have c11b1 : (((rd_T30 l0 x7_1).f2) != ((rd_T30 l1 x7_1).f2)) = false := bne_eq_false_iff_eq.mpr c11
                      clear c11
                      have H' := Aside0.mk H
                      clear H
                      have p109 : 0 ≤ (x7_1 : Int) := of_decide_eq_true (by first | (with_reducible assumption) | assumption)
                      have q109 : x7_1 < (l0.length : Int) := of_decide_eq_true (by first | (with_reducible assumption) | assumption)
                      obtain ⟨ad109, e109, hx109_0, hx109_1, hx109_2⟩ := at_T30 HR0.out x7_1 p109 q109
                      cases e109
                      have q109n := q109
                      replace p109 := eq_true p109
                      replace q109 := eq_true q109
                      have p110 : 0 ≤ (x7_1 : Int) := of_decide_eq_true (by first | (with_reducible assumption) | assumption)
                      have q110 : x7_1 < (l1.length : Int) := of_decide_eq_true (by first | (with_reducible assumption) | assumption)
                      obtain ⟨ad110, e110, hx110_0, hx110_1, hx110_2⟩ := at_T30 HR1.out x7_1 p110 q110
                      cases e110
                      have q110n := q110
                      replace p110 := eq_true p110
                      replace q110 := eq_true q110
                      have p111 : 0 ≤ (x7_1 : Int) := of_decide_eq_true (by first | (with_reducible assumption) | assumption)
                      have q111 : x7_1 < (l0.length : Int) := of_decide_eq_true (by first | (with_reducible assumption) | assumption)
                      obtain ⟨ad111, e111, hx111_0, hx111_1, hx111_2⟩ := at_T30 HR0.out x7_1 p111 q111
                      obtain rfl : ad109 = ad111 := (by injection e111)
                      have q111n := q111
                      replace p111 := eq_true p111
                      replace q111 := eq_true q111
                      have p112 : 0 ≤ (x7_1 : Int) := of_decide_eq_true (by first | (with_reducible assumption) | assumption)
                      have q112 : x7_1 < (l1.length : Int) := of_decide_eq_true (by first | (with_reducible assumption) | assumption)
                      obtain ⟨ad112, e112, hx112_0, hx112_1, hx112_2⟩ := at_T30 HR1.out x7_1 p112 q112
                      obtain rfl : ad110 = ad112 := (by injection e112)
                      have q112n := q112
                      replace p112 := eq_true p112
                      replace q112 := eq_true q112
                      have p113 : 0 ≤ (x7_1 : Int) := of_decide_eq_true (by first | (with_reducible assumption) | assumption)
                      have q113 : x7_1 < (l0.length : Int) := of_decide_eq_true (by first | (with_reducible assumption) | assumption)
                      obtain ⟨ad113, e113, hx113_0, hx113_1, hx113_2⟩ := at_T30 HR0.out x7_1 p113 q113
                      obtain rfl : ad109 = ad113 := (by injection e113)
                      have q113n := q113
                      replace p113 := eq_true p113
                      replace q113 := eq_true q113
                      have p114 : 0 ≤ (x7_1 : Int) := of_decide_eq_true (by first | (with_reducible assumption) | assumption)
                      have q114 : x7_1 < (l1.length : Int) := of_decide_eq_true (by first | (with_reducible assumption) | assumption)
                      obtain ⟨ad114, e114, hx114_0, hx114_1, hx114_2⟩ := at_T30 HR1.out x7_1 p114 q114
                      obtain rfl : ad110 = ad114 := (by injection e114)
                      have q114n := q114
                      replace p114 := eq_true p114
                      replace q114 := eq_true q114
                      go_wp2
                      repeat (go_quiet (fail); try go_wp2)
                      go_roundg k1
                      case measure => have := HK1.out; omega
                      case rel => exact ⟨(wrap64 (x7_1 + 1)), (by first | rfl | (simp; done) | (simp [*]; done)), H', ⟨by have := HK1.out; omega⟩, by repeat (first | exact Drawn0.refl _ | apply Drawn0.step)⟩
                    · rw [if_neg c11] at H
                      have c11b0 : (((rd_T30 l0 x7_1).f2) == ((rd_T30 l1 x7_1).f2)) = false := beq_eq_false_iff_ne.mpr c11
                      have c11b1 : (((rd_T30 l0 x7_1).f2) != ((rd_T30 l1 x7_1).f2)) = true := bne_iff_ne.mpr c11
                      obtain rfl := Option.some.inj H
                      have p109 : 0 ≤ (x7_1 : Int) := of_decide_eq_true (by first | (with_reducible assumption) | assumption)
                      have q109 : x7_1 < (l0.length : Int) := of_decide_eq_true (by first | (with_reducible assumption) | assumption)
                      obtain ⟨ad109, e109, hx109_0, hx109_1, hx109_2⟩ := at_T30 HR0.out x7_1 p109 q109
                      cases e109
                      have q109n := q109
                      replace p109 := eq_true p109
                      replace q109 := eq_true q109
                      have p110 : 0 ≤ (x7_1 : Int) := of_decide_eq_true (by first | (with_reducible assumption) | assumption)
                      have q110 : x7_1 < (l1.length : Int) := of_decide_eq_true (by first | (with_reducible assumption) | assumption)
                      obtain ⟨ad110, e110, hx110_0, hx110_1, hx110_2⟩ := at_T30 HR1.out x7_1 p110 q110
                      cases e110
                      have q110n := q110
                      replace p110 := eq_true p110
                      replace q110 := eq_true q110
                      have p111 : 0 ≤ (x7_1 : Int) := of_decide_eq_true (by first | (with_reducible assumption) | assumption)
                      have q111 : x7_1 < (l0.length : Int) := of_decide_eq_true (by first | (with_reducible assumption) | assumption)
                      obtain ⟨ad111, e111, hx111_0, hx111_1, hx111_2⟩ := at_T30 HR0.out x7_1 p111 q111
                      obtain rfl : ad109 = ad111 := (by injection e111)
                      have q111n := q111
                      replace p111 := eq_true p111
                      replace q111 := eq_true q111
                      have p112 : 0 ≤ (x7_1 : Int) := of_decide_eq_true (by first | (with_reducible assumption) | assumption)
                      have q112 : x7_1 < (l1.length : Int) := of_decide_eq_true (by first | (with_reducible assumption) | assumption)
                      obtain ⟨ad112, e112, hx112_0, hx112_1, hx112_2⟩ := at_T30 HR1.out x7_1 p112 q112
                      obtain rfl : ad110 = ad112 := (by injection e112)
                      have q112n := q112
                      replace p112 := eq_true p112
                      replace q112 := eq_true q112
                      have p113 : 0 ≤ (x7_1 : Int) := of_decide_eq_true (by first | (with_reducible assumption) | assumption)
                      have q113 : x7_1 < (l0.length : Int) := of_decide_eq_true (by first | (with_reducible assumption) | assumption)
                      obtain ⟨ad113, e113, hx113_0, hx113_1, hx113_2⟩ := at_T30 HR0.out x7_1 p113 q113
                      obtain rfl : ad109 = ad113 := (by injection e113)
                      have q113n := q113
                      replace p113 := eq_true p113
                      replace q113 := eq_true q113
                      have p114 : 0 ≤ (x7_1 : Int) := of_decide_eq_true (by first | (with_reducible assumption) | assumption)
                      have q114 : x7_1 < (l1.length : Int) := of_decide_eq_true (by first | (with_reducible assumption) | assumption)
                      obtain ⟨ad114, e114, hx114_0, hx114_1, hx114_2⟩ := at_T30 HR1.out x7_1 p114 q114
                      obtain rfl : ad110 = ad114 := (by injection e114)
                      have q114n := q114
                      replace p114 := eq_true p114
                      replace q114 := eq_true q114
                      go_wp2
                      repeat (go_quiet (fail); try go_wp2)
                      go_ret
                      exact ⟨by first | rfl | (simp; done) | (simp [*]; done), by repeat (first | exact Drawn0.refl _ | apply Drawn0.step)⟩
                  · replace c10 := Bool.eq_false_iff.mpr c10
                    subst c10
                    have H1 : (pontoonref04_Same.l0 k1 l0 l1 false (wrap64 (x7_1 + 1))) = some r := by rw [if_neg (show ¬ (false = true) by decide)] at H; exact H
                    clear H
                    have H := H1
                    clear H1
                    have H' := Aside0.mk H
                    clear H
                    have p109 : 0 ≤ (x7_1 : Int) := of_decide_eq_true (by first | (with_reducible assumption) | assumption)
                    have q109 : x7_1 < (l0.length : Int) := of_decide_eq_true (by first | (with_reducible assumption) | assumption)
                    obtain ⟨ad109, e109, hx109_0, hx109_1, hx109_2⟩ := at_T30 HR0.out x7_1 p109 q109
                    cases e109
                    have q109n := q109
                    replace p109 := eq_true p109
                    replace q109 := eq_true q109
                    have p110 : 0 ≤ (x7_1 : Int) := of_decide_eq_true (by first | (with_reducible assumption) | assumption)
                    have q110 : x7_1 < (l1.length : Int) := of_decide_eq_true (by first | (with_reducible assumption) | assumption)
                    obtain ⟨ad110, e110, hx110_0, hx110_1, hx110_2⟩ := at_T30 HR1.out x7_1 p110 q110
                    cases e110
                    have q110n := q110
                    replace p110 := eq_true p110
                    replace q110 := eq_true q110
                    have p111 : 0 ≤ (x7_1 : Int) := of_decide_eq_true (by first | (with_reducible assumption) | assumption)
                    have q111 : x7_1 < (l0.length : Int) := of_decide_eq_true (by first | (with_reducible assumption) | assumption)
                    obtain ⟨ad111, e111, hx111_0, hx111_1, hx111_2⟩ := at_T30 HR0.out x7_1 p111 q111
                    obtain rfl : ad109 = ad111 := (by injection e111)
                    have q111n := q111
                    replace p111 := eq_true p111
                    replace q111 := eq_true q111
                    have p112 : 0 ≤ (x7_1 : Int) := of_decide_eq_true (by first | (with_reducible assumption) | assumption)
                    have q112 : x7_1 < (l1.length : Int) := of_decide_eq_true (by first | (with_reducible assumption) | assumption)
                    obtain ⟨ad112, e112, hx112_0, hx112_1, hx112_2⟩ := at_T30 HR1.out x7_1 p112 q112
                    obtain rfl : ad110 = ad112 := (by injection e112)
                    have q112n := q112
                    replace p112 := eq_true p112
                    replace q112 := eq_true q112
                    go_wp2
                    repeat (go_quiet (fail); try go_wp2)
                    go_roundg k1
                    case measure => have := HK1.out; omega
                    case rel => exact ⟨(wrap64 (x7_1 + 1)), (by first | rfl | (simp; done) | (simp [*]; done)), H', ⟨by have := HK1.out; omega⟩, by repeat (first | exact Drawn0.refl _ | apply Drawn0.step)⟩
                · rw [if_neg c9] at H
                  have c9b0 : (((rd_T30 l0 x7_1).f1).toList == ((rd_T30 l1 x7_1).f1).toList) = false := beq_eq_false_iff_ne.mpr c9
                  have c9b1 : (((rd_T30 l0 x7_1).f1).toList != ((rd_T30 l1 x7_1).f1).toList) = true := bne_iff_ne.mpr c9
                  obtain rfl := Option.some.inj H
                  have p109 : 0 ≤ (x7_1 : Int) := of_decide_eq_true (by first | (with_reducible assumption) | assumption)
                  have q109 : x7_1 < (l0.length : Int) := of_decide_eq_true (by first | (with_reducible assumption) | assumption)
                  obtain ⟨ad109, e109, hx109_0, hx109_1, hx109_2⟩ := at_T30 HR0.out x7_1 p109 q109
                  cases e109
                  have q109n := q109
                  replace p109 := eq_true p109
                  replace q109 := eq_true q109
                  have p110 : 0 ≤ (x7_1 : Int) := of_decide_eq_true (by first | (with_reducible assumption) | assumption)
                  have q110 : x7_1 < (l1.length : Int) := of_decide_eq_true (by first | (with_reducible assumption) | assumption)
                  obtain ⟨ad110, e110, hx110_0, hx110_1, hx110_2⟩ := at_T30 HR1.out x7_1 p110 q110
                  cases e110
                  have q110n := q110
                  replace p110 := eq_true p110
                  replace q110 := eq_true q110
                  have p111 : 0 ≤ (x7_1 : Int) := of_decide_eq_true (by first | (with_reducible assumption) | assumption)
                  have q111 : x7_1 < (l0.length : Int) := of_decide_eq_true (by first | (with_reducible assumption) | assumption)
                  obtain ⟨ad111, e111, hx111_0, hx111_1, hx111_2⟩ := at_T30 HR0.out x7_1 p111 q111
                  obtain rfl : ad109 = ad111 := (by injection e111)
                  have q111n := q111
                  replace p111 := eq_true p111
                  replace q111 := eq_true q111
                  have p112 : 0 ≤ (x7_1 : Int) := of_decide_eq_true (by first | (with_reducible assumption) | assumption)
                  have q112 : x7_1 < (l1.length : Int) := of_decide_eq_true (by first | (with_reducible assumption) | assumption)
                  obtain ⟨ad112, e112, hx112_0, hx112_1, hx112_2⟩ := at_T30 HR1.out x7_1 p112 q112
                  obtain rfl : ad110 = ad112 := (by injection e112)
                  have q112n := q112
                  replace p112 := eq_true p112
                  replace q112 := eq_true q112
                  go_wp2
                  repeat (go_quiet (fail); try go_wp2)
                  go_ret
                  exact ⟨by first | rfl | (simp; done) | (simp [*]; done), by repeat (first | exact Drawn0.refl _ | apply Drawn0.step)⟩
              · rw [if_neg c8] at H
                have c8b0 : (((rd_T30 l0 x7_1).f0) == ((rd_T30 l1 x7_1).f0)) = false := beq_eq_false_iff_ne.mpr c8
                have c8b1 : (((rd_T30 l0 x7_1).f0) != ((rd_T30 l1 x7_1).f0)) = true := bne_iff_ne.mpr c8
                obtain rfl := Option.some.inj H
                have p109 : 0 ≤ (x7_1 : Int) := of_decide_eq_true (by first | (with_reducible assumption) | assumption)
                have q109 : x7_1 < (l0.length : Int) := of_decide_eq_true (by first | (with_reducible assumption) | assumption)
                obtain ⟨ad109, e109, hx109_0, hx109_1, hx109_2⟩ := at_T30 HR0.out x7_1 p109 q109
                cases e109
                have q109n := q109
                replace p109 := eq_true p109
                replace q109 := eq_true q109
                have p110 : 0 ≤ (x7_1 : Int) := of_decide_eq_true (by first | (with_reducible assumption) | assumption)
                have q110 : x7_1 < (l1.length : Int) := of_decide_eq_true (by first | (with_reducible assumption) | assumption)
                obtain ⟨ad110, e110, hx110_0, hx110_1, hx110_2⟩ := at_T30 HR1.out x7_1 p110 q110
                cases e110
                have q110n := q110
                replace p110 := eq_true p110
                replace q110 := eq_true q110
                go_wp2
                repeat (go_quiet (fail); try go_wp2)
                go_ret
                exact ⟨by first | rfl | (simp; done) | (simp [*]; done), by repeat (first | exact Drawn0.refl _ | apply Drawn0.step)⟩
            · rw [if_neg c7] at H
              exact absurd H (by simp)
          · rw [if_neg c6] at H
            exact absurd H (by simp)
        · rw [if_neg c5] at H
          have c5b0 : decide (x7_1 < (l0.length : Int)) = false := decide_eq_false c5
          clear c5
          obtain rfl := Option.some.inj H
          go_wp2
          repeat (go_quiet (fail); try go_wp2)
          go_ret
          exact ⟨by first | rfl | (simp; done) | (simp [*]; done), by repeat (first | exact Drawn0.refl _ | apply Drawn0.step)⟩
  · rw [if_neg c4] at H
    have c4b0 : ((l0.length : Int) == (l1.length : Int)) = false := beq_eq_false_iff_ne.mpr c4
    have c4b1 : ((l0.length : Int) != (l1.length : Int)) = true := bne_iff_ne.mpr c4
    have c4b2 : (l0.length == l1.length) = false := by first | simpa using c4 | (simp at c4 ⊢; omega)
    obtain rfl := Option.some.inj H
    go_enter Try.func11, Try.ntmps11
    go_wp2
    repeat (go_quiet (fail); try go_wp2)
    go_ret
    exact ⟨by first | rfl | (simp; done) | (simp [*]; done), by repeat (first | exact Drawn0.refl _ | apply Drawn0.step)⟩


abbrev nilS : Value := .slice none 0 0
structure SpS (base gO gN : Nat) (w0 w : World) (vo vn : Value) (out : List (List S30)) (now : List S30) : Prop where
  bO : w.heap[gO]? = some (.cells #[vo] 31 (0, 0))
  bN : w.heap[gN]? = some (.cells #[vn] 23 (0, 0))
  S : Kd.S (Kd.slice 30 k30) 23 w base (fun k => (k ≠ gO ∧ k ≠ gN) ∧ some k ≠ vn.ownBlock) vo out
  R : Kd.R k30 30 w base (fun k => k ≠ gO ∧ k ≠ gN) vn now
  bel : Below base w0 w
  hO : base ≤ gO
  hN : base ≤ gN
  ne : gO ≠ gN
def flush (out : List (List S30)) (now : List S30) : List (List S30) := if now.length = 0 then out else out ++ [now]
def FlP (base gO gN : Nat) (w0 : World) (out : List (List S30)) (e : Ending) (w' : World) : Prop := e = .returned (.tuple #[]) ∧ ∃ vo, SpS base gO gN w0 w' vo nilS out []
theorem SpS.emptied {base gO gN : Nat} {w0 w : World} {vo vn : Value} {out : List (List S30)} {now : List S30} (h : SpS base gO gN w0 w vo vn out now) : SpS base gO gN w0 (w.setCell ⟨gN, 0, none⟩ nilS) vo nilS out [] :=
  ⟨blk_far h.bO h.ne _, blk_put h.bN 0 _ rfl, Kd.S_mono (Kd.S_far (p := ⟨gN, 0, none⟩) h.S (fun _ hk => hk.1.2) _) (fun k hk => ⟨hk.1, by simp [Value.ownBlock]⟩), Kd.R_nil _ _ _ _ _, h.bel.setCell h.hN _, h.hO, h.hN, h.ne⟩
theorem info_tt : (Try.prog.info? 23).map (fun i => (i.zero, i.size, i.bytes)) = some (some (.slice none 0 0), 1, 24) := by kernel_rfl
set_option maxHeartbeats 4000000 in
theorem flush_any (base gO gN : Nat) (w0 w : World) (vo vn : Value) (out : List (List S30)) (now : List S30) (h : SpS base gO gN w0 w vo vn out now) (hlen : out.length ≤ 1000) (hnl : now.length ≤ 140737488351232) :
    Calls Try.prog 23 #[.pointer (some ⟨gN, 0, none⟩), .pointer (some ⟨gO, 0, none⟩)] w (FlP base gO gN w0 (flush out now)) := by
  obtain ⟨A, c, rfl⟩ := Kd.R_slice h.R
  have HH := Lib.hid h
  have cO : w.cell? ⟨gO, 0, none⟩ = some vo := (blk_cell h.bO 0).trans rfl
  have cN : w.cell? ⟨gN, 0, none⟩ = some (.slice A now.length c) := (blk_cell h.bN 0).trans rfl
  have fO := blk_frozen h.bO 0
  have fN := blk_frozen h.bN 0
  have hne : gO ≠ gN := h.ne
  have HLen := Lib.hid hlen
  by_cases hz : now.length = 0
  · have hpos : ¬ (0 : Int) < (now.length : Int) := by omega
    have HF : Hid (flush out now = out) := Lib.hid (if_pos hz)
    clear h hz hlen
    go_enter Try.func23, Try.ntmps23
    repeat (first | go_values | go_skip | go_guarded | go_step | go_upon)
    exact bodyPost_end (results_none rfl _ _ _) rfl ⟨rfl, vo, by rw [HF.out]; exact HH.out.emptied⟩
  · have hpos : (0 : Int) < (now.length : Int) := by omega
    have HF : Hid (flush out now = out ++ [now]) := Lib.hid (if_neg hz)
    clear h hz hlen
    go_enter Try.func23, Try.ntmps23
    repeat ((fail_if_success (with_reducible refine gate_builtin (b := .append) (xs := #[.tmp 5, .tmp 7]) rfl ?_)); first | go_values | go_skip | go_guarded | go_step | go_upon)
    (with_reducible refine gate_builtin (b := .append) (xs := #[.tmp 5, .tmp 7]) rfl ?_)
    at_builtin
    refine Kd.S_append (Kd.slice 30 k30) (w0 := w0) base rfl (.tmp 5) (.tmp 7) 31 23 (.slice none 0 0) 24 rfl Try.underlying31 info_tt rfl (by decide) (by omega) vo out now [.slice A now.length c] (fun k => k ≠ gO ∧ k ≠ gN) (fun k => some k = (Value.slice A now.length c).ownBlock) rfl rfl ?aP ?aK ?aF ?aO ?aB ?aS ?aL ?_
    (case aP => exact Kd.M_row (Kd.R_tight rfl HH.out.R))
    (case aK => exact fun k hk => (Kd.R_apart' HH.out.R (Kd.S_typed HH.out.S) (by decide)).1 k hk.symm)
    (case aF => exact fun k hk => ⟨Nat.ne_of_gt (Nat.lt_of_lt_of_le (blk_lt HH.out.bO) hk), Nat.ne_of_gt (Nat.lt_of_lt_of_le (blk_lt HH.out.bN) hk)⟩)
    (case aO => exact Kd.S_mono HH.out.S (fun k hk => ⟨hk.1, hk.2⟩))
    (case aB => exact HH.out.bel)
    (case aS => exact Nat.le_of_lt (Nat.lt_of_le_of_lt HH.out.hO (blk_lt HH.out.bO)))
    (case aL => exact (by have := HLen.out; omega))
    intro v1 w1 ho hb hg hat
    obtain ⟨A1, c1, e1⟩ := Kd.S_slice ho
    generalize (out ++ [now]).length = n1 at e1
    subst e1
    have HS1 := Lib.hid ho
    have HB1 := Lib.hid hb
    have bO1 : Hid (w1.heap[gO]? = some (.cells #[vo] 31 (0, 0))) := Lib.hid (blk_grown HH.out.bO hg (Kd.S_away HH.out.S (fun _ hk => hk.1.1)))
    have bN1 : Hid (w1.heap[gN]? = some (.cells #[.slice A now.length c] 23 (0, 0))) := Lib.hid (blk_grown HH.out.bN hg (Kd.S_away HH.out.S (fun _ hk => hk.1.2)))
    clear ho hb hg hat cO cN fO fN
    have cO1 : w1.cell? ⟨gO, 0, none⟩ = some vo := (blk_cell bO1.out 0).trans rfl
    have cN1 : w1.cell? ⟨gN, 0, none⟩ = some (.slice A now.length c) := (blk_cell bN1.out 0).trans rfl
    have fO1 := blk_frozen bO1.out 0
    have fN1 := blk_frozen bN1.out 0
    repeat (first | go_values | go_skip | go_guarded | go_step | go_upon)
    rw [HF.out]
    exact bodyPost_end (results_none rfl _ _ _) rfl ⟨rfl, .slice A1 n1 c1, ⟨blk_far (blk_put bO1.out 0 (.slice A1 n1 c1) rfl) hne _, blk_put (blk_far bN1.out hne.symm _) 0 _ rfl, Kd.S_mono (Kd.S_far (p := ⟨gN, 0, none⟩) (Kd.S_far (p := ⟨gO, 0, none⟩) HS1.out (fun _ hk => hk.1) _) (fun _ hk => hk.2) _) (fun k hk => ⟨hk, by simp [Value.ownBlock]⟩), Kd.R_nil _ _ _ _ _, (HB1.out.setCell HH.out.hO _).setCell HH.out.hN _, HH.out.hO, HH.out.hN, hne⟩⟩
set_option linter.unusedVariables false

theorem SpS.below {base gO gN : Nat} {w0 w w1 : World} {vo vn : Value} {out : List (List S30)} {now : List S30} (h : SpS base gO gN w0 w vo vn out now) (hb : Below w.heap.size w w1) : SpS base gO gN w0 w1 vo vn out now :=
  ⟨blk_below h.bO hb, blk_below h.bN hb, Kd.S_below h.S hb, Kd.R_below h.R hb, h.bel.trans (hb.mono (Nat.le_of_lt (Nat.lt_of_le_of_lt h.hO (blk_lt h.bO)))), h.hO, h.hN, h.ne⟩
/-- Behind an append to what is collected, and the store of it. -/
theorem SpS.pushed {base gO gN : Nat} {w0 w w1 : World} {vo vn v1 : Value} {out : List (List S30)} {now : List S30} {x : S30} (h : SpS base gO gN w0 w vo vn out now) (ho : Kd.R k30 30 w1 base (fun k => k ≠ gO ∧ k ≠ gN) v1 (now ++ [x])) (hb : Below base w0 w1) (hg : w.grownBy w1 vn.ownBlock) (hat : v1.ownBlock = vn.ownBlock ∨ ∃ b, v1.ownBlock = some b ∧ w.heap.size ≤ b) :
    w1.heap[gN]? = some (.cells #[vn] 23 (0, 0)) ∧ SpS base gO gN w0 (w1.setCell ⟨gN, 0, none⟩ v1) vo v1 out (now ++ [x]) := by
  have b1 : w1.heap[gO]? = some (.cells #[vo] 31 (0, 0)) := blk_grown h.bO hg (Kd.R_away h.R (fun _ hk => hk.1))
  have b2 : w1.heap[gN]? = some (.cells #[vn] 23 (0, 0)) := blk_grown h.bN hg (Kd.R_away h.R (fun _ hk => hk.2))
  exact ⟨b2, blk_far b1 h.ne _, blk_put b2 0 _ rfl, Kd.S_far (p := ⟨gN, 0, none⟩) (Kd.S_after h.S hg hat) (fun _ hk => hk.1.2) _, Kd.R_far (p := ⟨gN, 0, none⟩) ho (fun _ hk => hk.2) _, hb.setCell h.hN _, h.hO, h.hN, h.ne⟩
def sepB (x : S30) : Bool := x.f0 == 5 && x.f1.toList == [59]
def spl : List S30 → List (List S30) → List S30 → List (List S30)
  | [], out, now => flush out now
  | x :: r, out, now => if sepB x then spl r (flush out now) [] else spl r out (now ++ [x])
def SplP (w : World) (r : List (List S30)) (e : Ending) (w' : World) : Prop := ∃ v0 : Value, e = .returned v0 ∧ Kd.S (Kd.slice 30 k30) 23 w' w.heap.size (fun _ => True) v0 r ∧ Below w.heap.size w w'
theorem rdT (l : List S30) (i : Nat) (h : i < l.length) : rd_T30 l (i : Int) = l[i] := by
  unfold rd_T30
  rw [Int.toNat_natCast, List.getD_eq_getElem?_getD, List.getElem?_eq_getElem h]
  rfl
set_option maxRecDepth 100000 in
set_option maxHeartbeats 8000000 in
theorem Split_any (A : Option Addr) (c : Nat) (l : List S30) (w : World) (hr : Kd.C k30 w A l.length l) (hl : l.length ≤ 500) : Calls Try.prog 12 #[.slice A l.length c] w (SplP w (spl l [] [])) := by
  have hu30 := Try.underlying30
  have hmf : ∀ (fn : Fn) (first cap : Array Value) (w : World), (Instr.makeFunc fn first cap).run Try.prog w = .ok (.func fn first cap) w := fun _ _ _ _ => rfl
  have HR := Lib.hid hr
  obtain ⟨w0, hw0⟩ : ∃ w0, w0 = w := ⟨_, rfl⟩
  obtain ⟨base, hbase⟩ : ∃ b, b = w.heap.size := ⟨_, rfl⟩
  obtain ⟨gO, hgO⟩ : ∃ g, g = w.heap.size := ⟨_, rfl⟩
  obtain ⟨gN, hgN⟩ : ∃ g, g = w.heap.size + 1 := ⟨_, rfl⟩
  have SP0 : SpS base gO gN w0 ((w.alloc (.cells #[nilS] 31)).alloc (.cells #[nilS] 23)) nilS nilS [] [] := by
    have hlt : w.heap.size < (w.alloc (.cells #[nilS] 31)).heap.size := blk_lt (blk_new w _)
    have b1 : Below w.heap.size w ((w.alloc (.cells #[nilS] 31)).alloc (.cells #[nilS] 23)) := ((Below.refl _ _).alloc (Nat.le_refl _) _).alloc (Nat.le_of_lt hlt) _
    have hsz : (w.alloc (.cells #[nilS] 31)).heap.size = w.heap.size + 1 := Array.size_push _
    rw [← hsz] at hgN
    subst hw0 hbase hgO hgN
    exact ⟨blk_below (blk_new _ _) (below_alloc (Below.refl _ _) _), blk_new _ _, Kd.S_nil _ _ _ _ _, Kd.R_nil _ _ _ _ _, b1, Nat.le_refl _, Nat.le_of_lt hlt, Nat.ne_of_lt hlt⟩
  have HSP0 := Lib.hid SP0
  have HGO := Lib.hid hgO
  have HGN := Lib.hid hgN
  have HBASE := Lib.hid hbase
  have HW0 := Lib.hid hw0
  clear SP0 hr hgO hgN hbase hw0
  go_enter Try.func12, Try.ntmps12
  repeat (first | go_step3 | go_values | go_skip | go_guarded | go_step | go_upon)
  rw [← HGO.out]
  have HGG : gO + 1 = gN := by rw [HGO.out, HGN.out]
  rw [HGG]
  clear HGG
  generalize ((w.alloc (.cells #[nilS] 31)).alloc (.cells #[nilS] 23)) = w1 at *
  go_loopw [11] (fun i wr => ∃ (k : Nat) (vo vn : Value) (out : List (List S30)) (now : List S30), i = .int .i64 k ∧ k ≤ l.length ∧ Hid (SpS base gO gN w0 wr vo vn out now) ∧ Hid (out.length + now.length ≤ k) ∧ Hid (spl (l.drop k) out now = spl l [] [])) (fun i _ => l.length - (intOf i).toNat)
  case atStart => exact ⟨0, _, _, [], [], rfl, Nat.zero_le _, HSP0, Lib.hid (Nat.le_refl _), Lib.hid rfl⟩
  case round =>
    clear HSP0
    obtain ⟨k, vo, vn, out, now, rfl, hk, HSP, HLN, HSPL⟩ := hrel
    by_cases hlt : k < l.length
    · have HC : Hid (Kd.C k30 wr A l.length l) := Lib.hid (Kd.C_below HR.out (by have hbl := HSP.out.bel; rw [HBASE.out, HW0.out] at hbl; exact hbl))
      obtain ⟨ad, rfl, p0, p1, p2⟩ := at_T30 HC.out (k : Int) (by omega) (by omega)
      rw [rdT l k hlt, Int.toNat_natCast] at p0 p1 p2
      have HLT := Lib.hid hlt
      have HDR : Hid (l.drop k = l[k] :: l.drop (k + 1)) := Lib.hid (List.drop_eq_getElem_cons hlt)
      generalize l[k] = x at *
      obtain ⟨x0, x1, x2⟩ := x
      simp only [] at p0 p1 p2
      have hki : (k : Int) < l.length := by omega
      have hk0 : (0 : Int) ≤ (k : Int) := by omega
      have HL1 : Hid (out.length ≤ 1000) := Lib.hid (by have := HLN.out; omega)
      have HL2 : Hid (now.length ≤ 140737488351232) := Lib.hid (by have := HLN.out; omega)
      have HL3 : Hid (now.length ≤ 500) := Lib.hid (by have := HLN.out; omega)
      cases h5 : (x0 == 5) with
      | true =>
        cases hs : (x1.toList == [59]) with
        | true =>
          have HX : Hid (spl (l.drop (k + 1)) (flush out now) [] = spl l [] []) := Lib.hid (by
            rw [← HSPL.out, HDR.out]
            show _ = if sepB ⟨x0, x1, x2⟩ then _ else _
            rw [if_pos (by unfold sepB; rw [h5, hs]; rfl)])
          repeat (first | ((with_reducible refine gate_dst (N := 7) rfl ?_); refine box_event ?hg (N := 7) ?hd (cs := #[.int .i64 0, .string (⟨#[]⟩ : ByteArray), .int .i64 0]) (t := 30) ?hr ?_; (case hd => rfl); (case hg => rfl); (case hr => first | (go_simp; done) | (go_simp; rfl)); intro gb hgb w4 hbox hb; have BEL4 := Lib.hid hb; have BK4 := Lib.hid hbox; have GE : Hid (wr.heap.size ≤ gb) := Lib.hid (Nat.le_of_eq hgb.symm); clear hb hbox hgb; have hcz0 : w4.cell? ⟨gb, 0, none⟩ = some (.int .i64 0) := (blk_cell BK4.out 0).trans rfl; have hcz1 : w4.cell? ⟨gb, 1, none⟩ = some (.string (⟨#[]⟩ : ByteArray)) := (blk_cell BK4.out 1).trans rfl; have hcz2 : w4.cell? ⟨gb, 2, none⟩ = some (.int .i64 0) := (blk_cell BK4.out 2).trans rfl; have hf0 := blk_frozen BK4.out 0; have hf1 := blk_frozen BK4.out 1; have hf2 := blk_frozen BK4.out 2) | ((with_reducible refine gate_dst (N := 15) rfl ?_); have BK5 : Hid ((((w4.setCell ⟨gb, 0, none⟩ (.int .i64 x0)).setCell ⟨gb, 1, none⟩ (.string x1)).setCell ⟨gb, 2, none⟩ (.int .i64 x2)).heap[gb]? = some (.cells #[.int .i64 x0, .string x1, .int .i64 x2] 30 (0, 0))) := Lib.hid (blk_put (cs := #[.int .i64 x0, .string x1, .int .i64 0]) (cs' := #[.int .i64 x0, .string x1, .int .i64 x2]) (blk_put (cs := #[.int .i64 x0, .string (⟨#[]⟩ : ByteArray), .int .i64 0]) (cs' := #[.int .i64 x0, .string x1, .int .i64 0]) (blk_put (cs := #[.int .i64 0, .string (⟨#[]⟩ : ByteArray), .int .i64 0]) (cs' := #[.int .i64 x0, .string (⟨#[]⟩ : ByteArray), .int .i64 0]) BK4.out 0 (.int .i64 x0) rfl) 1 (.string x1) rfl) 2 (.int .i64 x2) rfl); have BEL5 : Hid (Below wr.heap.size wr (((w4.setCell ⟨gb, 0, none⟩ (.int .i64 x0)).setCell ⟨gb, 1, none⟩ (.string x1)).setCell ⟨gb, 2, none⟩ (.int .i64 x2))) := Lib.hid (((BEL4.out.setCell GE.out _).setCell GE.out _).setCell GE.out _); clear BK4 BEL4 hcz0 hcz1 hcz2 hf0 hf1 hf2; generalize (((w4.setCell ⟨gb, 0, none⟩ (.int .i64 x0)).setCell ⟨gb, 1, none⟩ (.string x1)).setCell ⟨gb, 2, none⟩ (.int .i64 x2)) = w5 at BK5 BEL5 ⊢; have SP5 := Lib.hid (HSP.out.below BEL5.out); have hcz0 : w5.cell? ⟨gb, 0, none⟩ = some (.int .i64 x0) := (blk_cell BK5.out 0).trans rfl; have hcz1 : w5.cell? ⟨gb, 1, none⟩ = some (.string x1) := (blk_cell BK5.out 1).trans rfl; have hcz2 : w5.cell? ⟨gb, 2, none⟩ = some (.int .i64 x2) := (blk_cell BK5.out 2).trans rfl; have cN5 : w5.cell? ⟨gN, 0, none⟩ = some vn := (blk_cell SP5.out.bN 0).trans rfl; have fN5 := blk_frozen SP5.out.bN 0) | go_step3 | go_values | go_skip | go_guarded | go_step | go_upon)
          (go_at_call 23; refine (flush_any _ _ _ _ _ _ _ _ _ SP5.out HL1.out HL2.out).mono ?_; rintro e w6 ⟨rfl, vo6, H6⟩; have SP6 := Lib.hid H6; clear H6; dsimp only)
          repeat (first | go_step3 | go_values | go_skip | go_guarded | go_step | go_upon)
          go_roundw
          case rel =>
            refine ⟨k + 1, vo6, nilS, flush out now, [], by go_num, HLT.out, SP6, Lib.hid ?_, HX⟩
            have := HLN.out
            unfold flush
            split
            · show out.length + 0 ≤ k + 1
              omega
            · rw [List.length_append]
              show out.length + 1 + 0 ≤ k + 1
              omega
          case measure => have := HLT.out; simp [intOf]; omega
        | false =>
          have HX : Hid (spl (l.drop (k + 1)) out (now ++ [⟨x0, x1, x2⟩]) = spl l [] []) := Lib.hid (by
            rw [← HSPL.out, HDR.out]
            show _ = if sepB ⟨x0, x1, x2⟩ then _ else _
            rw [if_neg (by unfold sepB; rw [h5, hs]; simp)])
          repeat ((fail_if_success (with_reducible refine gate_dst (N := 27) rfl ?_)); first | ((with_reducible refine gate_dst (N := 7) rfl ?_); refine box_event ?hg (N := 7) ?hd (cs := #[.int .i64 0, .string (⟨#[]⟩ : ByteArray), .int .i64 0]) (t := 30) ?hr ?_; (case hd => rfl); (case hg => rfl); (case hr => first | (go_simp; done) | (go_simp; rfl)); intro gb hgb w4 hbox hb; have BEL4 := Lib.hid hb; have BK4 := Lib.hid hbox; have GE : Hid (wr.heap.size ≤ gb) := Lib.hid (Nat.le_of_eq hgb.symm); clear hb hbox hgb; have hcz0 : w4.cell? ⟨gb, 0, none⟩ = some (.int .i64 0) := (blk_cell BK4.out 0).trans rfl; have hcz1 : w4.cell? ⟨gb, 1, none⟩ = some (.string (⟨#[]⟩ : ByteArray)) := (blk_cell BK4.out 1).trans rfl; have hcz2 : w4.cell? ⟨gb, 2, none⟩ = some (.int .i64 0) := (blk_cell BK4.out 2).trans rfl; have hf0 := blk_frozen BK4.out 0; have hf1 := blk_frozen BK4.out 1; have hf2 := blk_frozen BK4.out 2) | ((with_reducible refine gate_dst (N := 15) rfl ?_); have BK5 : Hid ((((w4.setCell ⟨gb, 0, none⟩ (.int .i64 x0)).setCell ⟨gb, 1, none⟩ (.string x1)).setCell ⟨gb, 2, none⟩ (.int .i64 x2)).heap[gb]? = some (.cells #[.int .i64 x0, .string x1, .int .i64 x2] 30 (0, 0))) := Lib.hid (blk_put (cs := #[.int .i64 x0, .string x1, .int .i64 0]) (cs' := #[.int .i64 x0, .string x1, .int .i64 x2]) (blk_put (cs := #[.int .i64 x0, .string (⟨#[]⟩ : ByteArray), .int .i64 0]) (cs' := #[.int .i64 x0, .string x1, .int .i64 0]) (blk_put (cs := #[.int .i64 0, .string (⟨#[]⟩ : ByteArray), .int .i64 0]) (cs' := #[.int .i64 x0, .string (⟨#[]⟩ : ByteArray), .int .i64 0]) BK4.out 0 (.int .i64 x0) rfl) 1 (.string x1) rfl) 2 (.int .i64 x2) rfl); have BEL5 : Hid (Below wr.heap.size wr (((w4.setCell ⟨gb, 0, none⟩ (.int .i64 x0)).setCell ⟨gb, 1, none⟩ (.string x1)).setCell ⟨gb, 2, none⟩ (.int .i64 x2))) := Lib.hid (((BEL4.out.setCell GE.out _).setCell GE.out _).setCell GE.out _); clear BK4 BEL4 hcz0 hcz1 hcz2 hf0 hf1 hf2; generalize (((w4.setCell ⟨gb, 0, none⟩ (.int .i64 x0)).setCell ⟨gb, 1, none⟩ (.string x1)).setCell ⟨gb, 2, none⟩ (.int .i64 x2)) = w5 at BK5 BEL5 ⊢; have SP5 := Lib.hid (HSP.out.below BEL5.out); have hcz0 : w5.cell? ⟨gb, 0, none⟩ = some (.int .i64 x0) := (blk_cell BK5.out 0).trans rfl; have hcz1 : w5.cell? ⟨gb, 1, none⟩ = some (.string x1) := (blk_cell BK5.out 1).trans rfl; have hcz2 : w5.cell? ⟨gb, 2, none⟩ = some (.int .i64 x2) := (blk_cell BK5.out 2).trans rfl; have cN5 : w5.cell? ⟨gN, 0, none⟩ = some vn := (blk_cell SP5.out.bN 0).trans rfl; have fN5 := blk_frozen SP5.out.bN 0) | go_step3 | go_values | go_skip | go_guarded | go_step | go_upon)
          have RN5 : Hid (Kd.R k30 30 w5 base (fun k_ => (k_ ≠ gO ∧ k_ ≠ gN) ∧ k_ ≠ gb) vn now) := Lib.hid (Kd.R_mono (Kd.R_below (Kd.R_elderB HSP.out.R gb GE.out) BEL5.out) (fun _ h => h))
          repeat (first | ((with_reducible refine gate_builtin (b := .append) (xs := #[.tmp 25, .tmp 27]) rfl ?_); at_builtin; refine Kd.R_append k30 (w0 := w0) base rfl (.tmp 25) (.tmp 27) 23 30 (.agg #[(.int .i64 0), (.string ⟨#[]⟩), (.int .i64 0)]) 32 rfl Try.underlying23 info30 rfl (by decide) (by omega) vn now (⟨x0, x1, x2⟩ : S30) [.int .i64 x0, .string x1, .int .i64 x2] (fun k_ => (k_ ≠ gO ∧ k_ ≠ gN) ∧ k_ ≠ gb) (fun _ => False) rfl (by first | (go_simp; done) | (go_simp; rfl)) ?aP (fun _ hk => hk.elim) ?aF ?aO ?aB ?aS ?aL ?_; (case aP => exact k30_mkM _ _ _ (⟨x0, x1, x2⟩ : S30)); (case aB => exact SP5.out.bel); (case aF => exact fun k_ hk => ⟨⟨Nat.ne_of_gt (Nat.lt_of_lt_of_le (blk_lt SP5.out.bO) hk), Nat.ne_of_gt (Nat.lt_of_lt_of_le (blk_lt SP5.out.bN) hk)⟩, Kd.freshB BK5.out k_ hk⟩); (case aO => exact RN5.out); (case aS => exact Nat.le_of_lt (Nat.lt_of_le_of_lt SP5.out.hO (blk_lt SP5.out.bO))); (case aL => exact (by have := HL3.out; omega)); intro v6 w6 ho hb6 hg6 hat6; have SP6 := Lib.hid (SP5.out.pushed (x := ⟨x0, x1, x2⟩) (Kd.R_mono ho (fun _ h => h.1)) hb6 hg6 hat6); obtain ⟨A6, c6, e6⟩ := Kd.R_slice ho; generalize (now ++ [(⟨x0, x1, x2⟩ : S30)]).length = n6 at e6; subst e6; clear ho hb6 hg6 hat6 BK5 hcz0 hcz1 hcz2 cN5 fN5; have cN6 : w6.cell? ⟨gN, 0, none⟩ = some vn := (blk_cell SP6.out.1 0).trans rfl; have fN6 := blk_frozen SP6.out.1 0) | go_step3 | go_values | go_skip | go_guarded | go_step | go_upon)
          go_roundw
          case rel =>
            refine ⟨k + 1, vo, .slice A6 n6 c6, out, now ++ [⟨x0, x1, x2⟩], by go_num, HLT.out, Lib.hid SP6.out.2, Lib.hid ?_, HX⟩
            have := HLN.out
            rw [List.length_append]
            show out.length + (now.length + 1) ≤ k + 1
            omega
          case measure => have := HLT.out; simp [intOf]; omega
      | false =>
        have hs : True := trivial
        have HX : Hid (spl (l.drop (k + 1)) out (now ++ [⟨x0, x1, x2⟩]) = spl l [] []) := Lib.hid (by
          rw [← HSPL.out, HDR.out]
          show _ = if sepB ⟨x0, x1, x2⟩ then _ else _
          rw [if_neg (by unfold sepB; rw [h5]; simp)])
        repeat ((fail_if_success (with_reducible refine gate_dst (N := 27) rfl ?_)); first | ((with_reducible refine gate_dst (N := 7) rfl ?_); refine box_event ?hg (N := 7) ?hd (cs := #[.int .i64 0, .string (⟨#[]⟩ : ByteArray), .int .i64 0]) (t := 30) ?hr ?_; (case hd => rfl); (case hg => rfl); (case hr => first | (go_simp; done) | (go_simp; rfl)); intro gb hgb w4 hbox hb; have BEL4 := Lib.hid hb; have BK4 := Lib.hid hbox; have GE : Hid (wr.heap.size ≤ gb) := Lib.hid (Nat.le_of_eq hgb.symm); clear hb hbox hgb; have hcz0 : w4.cell? ⟨gb, 0, none⟩ = some (.int .i64 0) := (blk_cell BK4.out 0).trans rfl; have hcz1 : w4.cell? ⟨gb, 1, none⟩ = some (.string (⟨#[]⟩ : ByteArray)) := (blk_cell BK4.out 1).trans rfl; have hcz2 : w4.cell? ⟨gb, 2, none⟩ = some (.int .i64 0) := (blk_cell BK4.out 2).trans rfl; have hf0 := blk_frozen BK4.out 0; have hf1 := blk_frozen BK4.out 1; have hf2 := blk_frozen BK4.out 2) | ((with_reducible refine gate_dst (N := 15) rfl ?_); have BK5 : Hid ((((w4.setCell ⟨gb, 0, none⟩ (.int .i64 x0)).setCell ⟨gb, 1, none⟩ (.string x1)).setCell ⟨gb, 2, none⟩ (.int .i64 x2)).heap[gb]? = some (.cells #[.int .i64 x0, .string x1, .int .i64 x2] 30 (0, 0))) := Lib.hid (blk_put (cs := #[.int .i64 x0, .string x1, .int .i64 0]) (cs' := #[.int .i64 x0, .string x1, .int .i64 x2]) (blk_put (cs := #[.int .i64 x0, .string (⟨#[]⟩ : ByteArray), .int .i64 0]) (cs' := #[.int .i64 x0, .string x1, .int .i64 0]) (blk_put (cs := #[.int .i64 0, .string (⟨#[]⟩ : ByteArray), .int .i64 0]) (cs' := #[.int .i64 x0, .string (⟨#[]⟩ : ByteArray), .int .i64 0]) BK4.out 0 (.int .i64 x0) rfl) 1 (.string x1) rfl) 2 (.int .i64 x2) rfl); have BEL5 : Hid (Below wr.heap.size wr (((w4.setCell ⟨gb, 0, none⟩ (.int .i64 x0)).setCell ⟨gb, 1, none⟩ (.string x1)).setCell ⟨gb, 2, none⟩ (.int .i64 x2))) := Lib.hid (((BEL4.out.setCell GE.out _).setCell GE.out _).setCell GE.out _); clear BK4 BEL4 hcz0 hcz1 hcz2 hf0 hf1 hf2; generalize (((w4.setCell ⟨gb, 0, none⟩ (.int .i64 x0)).setCell ⟨gb, 1, none⟩ (.string x1)).setCell ⟨gb, 2, none⟩ (.int .i64 x2)) = w5 at BK5 BEL5 ⊢; have SP5 := Lib.hid (HSP.out.below BEL5.out); have hcz0 : w5.cell? ⟨gb, 0, none⟩ = some (.int .i64 x0) := (blk_cell BK5.out 0).trans rfl; have hcz1 : w5.cell? ⟨gb, 1, none⟩ = some (.string x1) := (blk_cell BK5.out 1).trans rfl; have hcz2 : w5.cell? ⟨gb, 2, none⟩ = some (.int .i64 x2) := (blk_cell BK5.out 2).trans rfl; have cN5 : w5.cell? ⟨gN, 0, none⟩ = some vn := (blk_cell SP5.out.bN 0).trans rfl; have fN5 := blk_frozen SP5.out.bN 0) | go_step3 | go_values | go_skip | go_guarded | go_step | go_upon)
        have RN5 : Hid (Kd.R k30 30 w5 base (fun k_ => (k_ ≠ gO ∧ k_ ≠ gN) ∧ k_ ≠ gb) vn now) := Lib.hid (Kd.R_mono (Kd.R_below (Kd.R_elderB HSP.out.R gb GE.out) BEL5.out) (fun _ h => h))
        repeat (first | ((with_reducible refine gate_builtin (b := .append) (xs := #[.tmp 25, .tmp 27]) rfl ?_); at_builtin; refine Kd.R_append k30 (w0 := w0) base rfl (.tmp 25) (.tmp 27) 23 30 (.agg #[(.int .i64 0), (.string ⟨#[]⟩), (.int .i64 0)]) 32 rfl Try.underlying23 info30 rfl (by decide) (by omega) vn now (⟨x0, x1, x2⟩ : S30) [.int .i64 x0, .string x1, .int .i64 x2] (fun k_ => (k_ ≠ gO ∧ k_ ≠ gN) ∧ k_ ≠ gb) (fun _ => False) rfl (by first | (go_simp; done) | (go_simp; rfl)) ?aP (fun _ hk => hk.elim) ?aF ?aO ?aB ?aS ?aL ?_; (case aP => exact k30_mkM _ _ _ (⟨x0, x1, x2⟩ : S30)); (case aB => exact SP5.out.bel); (case aF => exact fun k_ hk => ⟨⟨Nat.ne_of_gt (Nat.lt_of_lt_of_le (blk_lt SP5.out.bO) hk), Nat.ne_of_gt (Nat.lt_of_lt_of_le (blk_lt SP5.out.bN) hk)⟩, Kd.freshB BK5.out k_ hk⟩); (case aO => exact RN5.out); (case aS => exact Nat.le_of_lt (Nat.lt_of_le_of_lt SP5.out.hO (blk_lt SP5.out.bO))); (case aL => exact (by have := HL3.out; omega)); intro v6 w6 ho hb6 hg6 hat6; have SP6 := Lib.hid (SP5.out.pushed (x := ⟨x0, x1, x2⟩) (Kd.R_mono ho (fun _ h => h.1)) hb6 hg6 hat6); obtain ⟨A6, c6, e6⟩ := Kd.R_slice ho; generalize (now ++ [(⟨x0, x1, x2⟩ : S30)]).length = n6 at e6; subst e6; clear ho hb6 hg6 hat6 BK5 hcz0 hcz1 hcz2 cN5 fN5; have cN6 : w6.cell? ⟨gN, 0, none⟩ = some vn := (blk_cell SP6.out.1 0).trans rfl; have fN6 := blk_frozen SP6.out.1 0) | go_step3 | go_values | go_skip | go_guarded | go_step | go_upon)
        go_roundw
        case rel =>
          refine ⟨k + 1, vo, .slice A6 n6 c6, out, now ++ [⟨x0, x1, x2⟩], by go_num, HLT.out, Lib.hid SP6.out.2, Lib.hid ?_, HX⟩
          have := HLN.out
          rw [List.length_append]
          show out.length + (now.length + 1) ≤ k + 1
          omega
        case measure => have := HLT.out; simp [intOf]; omega
    · have HX : Hid (flush out now = spl l [] []) := Lib.hid (by
        rw [← HSPL.out, List.drop_of_length_le (by omega)]
        rfl)
      have hge : ¬ (k : Int) < l.length := by omega
      have HL1 : Hid (out.length ≤ 1000) := Lib.hid (by have := HLN.out; omega)
      have HL2 : Hid (now.length ≤ 140737488351232) := Lib.hid (by have := HLN.out; omega)
      have SP5 := HSP
      repeat (first | go_step3 | go_values | go_skip | go_guarded | go_step | go_upon)
      (go_at_call 23; refine (flush_any _ _ _ _ _ _ _ _ _ SP5.out HL1.out HL2.out).mono ?_; rintro e w6 ⟨rfl, vo6, H6⟩; have SP6 := Lib.hid H6; clear H6; dsimp only)
      have cO6 : w6.cell? ⟨gO, 0, none⟩ = some vo6 := (blk_cell SP6.out.bO 0).trans rfl
      repeat (first | go_step3 | go_values | go_skip | go_guarded | go_step | go_upon)
      go_ret
      rw [← HX.out]
      exact ⟨_, rfl, Kd.S_mono (by rw [← HBASE.out]; exact SP6.out.S) (fun _ _ => trivial), by have hbl := SP6.out.bel; rw [HBASE.out, HW0.out] at hbl; exact hbl⟩
/-! ### lexer_Split: function 12, by hand -/
def lexer_Split.f (l0 : List (S30)) : Option (List (List (S30))) := if l0.length ≤ 500 then some (spl l0 [] []) else none
theorem lexer_Split.calls (A0 : Option Addr) (c0 : Nat) (l0 : List (S30)) (r : List (List (S30))) (w : World) (hr0 : Kd.C k30 w A0 l0.length l0) (_hc0 : l0.length ≤ c0) (h : lexer_Split.f l0 = some r) :
    Calls Try.prog 12 #[.slice A0 l0.length c0] w fun e w' => ∃ v0_ : Value, e = .returned (v0_) ∧ Kd.S (Kd.slice 30 k30) 23 w' w.heap.size (fun _ => True) v0_ r ∧ Below w.heap.size w w' := by
  unfold lexer_Split.f at h
  split at h
  · rename_i hc
    have hs := Split_any A0 c0 l0 w hr0 hc
    rw [Option.some.inj h] at hs
    exact hs
  · cases h

/-! ### lexer_double: function 24 -/
def lexer_double.l0 : Nat → ByteArray → Int → List Int → Int → Int → Option (ByteArray)
  | 0, _, _, _, _, _ => none
  | k + 1, x0, x1, x5, x10, x11 => if x11 < x10 then (if 0 ≤ x11 then (if x11 < (x0.size : Int) then (if (bt x0 x11) = x1 then (if x5.length < 140737488355328 then ((some (x5 ++ [x1] : List Int)).bind fun y118 => (if y118.length < 140737488355328 then (lexer_double.l0 k x0 x1 (y118 ++ [bt x0 x11]) x10 (wrap64 (x11 + 1))) else (none))) else (none)) else (if x5.length < 140737488355328 then (lexer_double.l0 k x0 x1 (x5 ++ [bt x0 x11]) x10 (wrap64 (x11 + 1))) else (none))) else (none)) else (none)) else (if x5.length < 140737488355328 then (some (strOfNums (x5 ++ [x1]))) else (none))
def lexer_double.f (k : Nat) (a0 : ByteArray) (a1 : Int) : Option (ByteArray) := lexer_double.l0 k a0 a1 (([a1] : List Int)) (a0.size : Int) 0
theorem lexer_double.mono_l : ∀ k, (∀ y0 y1 y2 y3 y4, LeO (lexer_double.l0 k y0 y1 y2 y3 y4) (lexer_double.l0 (k + 1) y0 y1 y2 y3 y4))
  | 0 => fun _ _ _ _ _ r h => by simp [lexer_double.l0] at h
  | k + 1 => by
    have ih0 := lexer_double.mono_l k
    · intro y0 y1 y2 y3 y4
      unfold lexer_double.l0
      repeat' first
      | (with_reducible exact ih0 _ _ _ _ _)
      | (with_reducible exact LeO.refl _)
      | (with_reducible exact LeO.none _)
      | (with_reducible refine LeO.ite ?_ ?_)
      | (with_reducible refine LeO.bind ?_ (fun _ => ?_))
      | exact ih0 _ _ _ _ _
      | exact LeO.none _
      | refine LeO.ite ?_ ?_
      | refine LeO.bind ?_ (fun _ => ?_)
theorem lexer_double.mono : ∀ a0 a1 k, LeO (lexer_double.f k a0 a1) (lexer_double.f (k + 1) a0 a1) := by
  intro a0 a1 k
  have ih0 := lexer_double.mono_l k
  unfold lexer_double.f
  repeat' first
      | (with_reducible exact ih0 _ _ _ _ _)
      | (with_reducible exact LeO.refl _)
      | (with_reducible exact LeO.none _)
      | (with_reducible refine LeO.ite ?_ ?_)
      | (with_reducible refine LeO.bind ?_ (fun _ => ?_))
      | exact ih0 _ _ _ _ _
      | exact LeO.none _
      | refine LeO.ite ?_ ?_
      | refine LeO.bind ?_ (fun _ => ?_)
set_option maxHeartbeats 8000000 in
set_option maxRecDepth 100000 in
theorem lexer_double.calls (k : Nat) (a0 : ByteArray) (a1 : Int) (r : ByteArray) (w : World) (h : lexer_double.f k a0 a1 = some r) :
    Calls Try.prog 24 #[.string a0, .int .u8 a1] w fun e w' => e = .returned (.string r) ∧ Below w.heap.size w w' := by
  have HB := Aside0.mk (Below.refl w.heap.size w)
  have H : (lexer_double.l0 k a0 a1 (([a1] : List Int)) (a0.size : Int) 0) = some r := h
  clear h
  obtain ⟨y115, hy115⟩ : ∃ y_ : List Int, y_ = (([a1] : List Int)) := ⟨_, rfl⟩
  replace H : (lexer_double.l0 k a0 a1 y115 (a0.size : Int) 0) = some r := by first | (rw [hy115]; with_reducible exact H) | (have H2_ := (Option.bind_some _ _).symm.trans H; rw [hy115]; with_reducible exact H2_) | (have H2_ := (Option.bind_some _ _).symm.trans H; with_reducible exact H2_) | with_reducible exact H | (rw [hy115]; exact H) | exact H
  have Ny115 := Aside0.mk hy115
  clear hy115
  have H' := Aside0.mk H
  clear H
  go_enter Try.func24, Try.ntmps24
  go_wp2_with (first | ((with_reducible refine gate_dst (N := 8) rfl ?_); refine Kd.R_lit (Kd.int .u8) _ 5 ?hg (N := 8) ?hd (xs := ([a1] : List Int)) (inner := [.int .u8 a1]) (ok := fun _ => True) (okp := fun _ => True) ?hr ?hp (fun _ hk => hk) trivial (Below.refl _ _) (Nat.le_refl _) (by simp) ?_; (case hd => rfl); (case hg => rfl); (case hr => first | (go_simp; done) | (go_simp; rfl)); (case hp => exact (Reps.one (show Kd.M (Kd.int .u8) _ _ _ a1 [.int .u8 a1] from rfl) (Reps.none _ _))); intro v116 w3 ho4 hb hg_ hnew_; clear hg_ hnew_; (first | rw [← Ny115.out] at ho4 | (simp only [Int.reduceToNat] at ho4; rw [← Ny115.out] at ho4)); have n0_ := Aside0.mk (Kd.R_lower ho4 (below_size (by repeat (first | (with_reducible first | exact HB.out | apply below_alloc | apply pw_below_drewN | apply below_drew1) | exact HB.out)))); have n1_ := Aside0.mk (below_step (by repeat (first | (with_reducible first | exact HB.out | apply below_alloc | apply pw_below_drewN | apply below_drew1) | exact HB.out)) hb); clear HB; have HO117 := n0_; have HB := n1_; clear n0_ n1_; clear hb ho4))
  go_loopg [5, 11] k (fun kq v5 v11 w' => ∃ (x5_1 : List Int) (x11_1 : Int), v11 = .int .i64 x11_1 ∧ Aside0 (lexer_double.l0 kq a0 a1 x5_1 (a0.size : Int) x11_1 = some r) ∧ Aside0 (kq ≤ k) ∧ Aside0 (Kd.R (Kd.int .u8) 5 w' w.heap.size (fun _ => True) v5 x5_1) ∧ Aside0 (Below w.heap.size w w'))
  case atStart => exact ⟨(y115), (0), (by first | rfl | (simp; done) | (simp [*]; done)), H', ⟨Nat.le_refl _⟩, ⟨by (with_reducible repeat (first | apply Kd.R_alloc | apply Kd.R_drewN | apply Kd.R_drew)); exact HO117.out⟩, ⟨by repeat (first | (with_reducible first | exact HB.out | apply below_alloc | apply pw_below_drewN | apply below_drew1) | exact HB.out)⟩⟩
  case round =>
    clear H'
    try clear c2
    try clear p2
    obtain ⟨x5_1, x11_1, rfl, HA, HK1, HO_5, HB⟩ := hrel
    cases gk with
    | zero => exact absurd HA.out (by simp [lexer_double.l0])
    | succ k1 =>
      have H := HA.out
      clear HA
      simp only [lexer_double.l0] at H
      by_cases c5 : x11_1 < (a0.size : Int)
      · rw [if_pos c5] at H
        have c5b0 : decide (x11_1 < (a0.size : Int)) = true := decide_eq_true c5
        clear c5
        by_cases c6 : 0 ≤ x11_1
        · rw [if_pos c6] at H
          have c6b0 : decide (0 ≤ x11_1) = true := decide_eq_true c6
          clear c6
          by_cases c7 : x11_1 < (a0.size : Int)
          · rw [if_pos c7] at H
            have c7b0 : decide (x11_1 < (a0.size : Int)) = true := decide_eq_true c7
            clear c7
            by_cases c9 : (bt a0 x11_1) = a1
            · rw [if_pos c9] at H
              have c9b0 : ((bt a0 x11_1) == a1) = true := beq_iff_eq.mpr c9
              have c9b1 : ((bt a0 x11_1) != a1) = false := bne_eq_false_iff_eq.mpr c9
              clear c9
              by_cases c10 : x5_1.length < 140737488355328
              · rw [if_pos c10] at H
                have LMc10 := Aside0.mk c10
                clear c10
                obtain ⟨y118, hy118⟩ : ∃ y_ : List Int, y_ = (x5_1 ++ [a1]) := ⟨_, rfl⟩
                replace H : (if y118.length < 140737488355328 then (lexer_double.l0 k1 a0 a1 (y118 ++ [bt a0 x11_1]) (a0.size : Int) (wrap64 (x11_1 + 1))) else (none)) = some r := by first | (rw [hy118]; with_reducible exact H) | (have H2_ := (Option.bind_some _ _).symm.trans H; rw [hy118]; with_reducible exact H2_) | (have H2_ := (Option.bind_some _ _).symm.trans H; with_reducible exact H2_) | with_reducible exact H | (rw [hy118]; exact H) | exact H
                have Ny118 := Aside0.mk hy118
                clear hy118
                by_cases c12 : y118.length < 140737488355328
                · rw [if_pos c12] at H
                  have LMc12 := Aside0.mk c12
                  clear c12
                  obtain ⟨y121, hy121⟩ : ∃ y_ : List Int, y_ = (y118 ++ [bt a0 x11_1]) := ⟨_, rfl⟩
                  replace H : (lexer_double.l0 k1 a0 a1 y121 (a0.size : Int) (wrap64 (x11_1 + 1))) = some r := by first | (rw [hy121]; with_reducible exact H) | (have H2_ := (Option.bind_some _ _).symm.trans H; rw [hy121]; with_reducible exact H2_) | (have H2_ := (Option.bind_some _ _).symm.trans H; with_reducible exact H2_) | with_reducible exact H | (rw [hy121]; exact H) | exact H
                  have Ny121 := Aside0.mk hy121
                  clear hy121
                  have H' := Aside0.mk H
                  clear H
                  have p8 : 0 ≤ (x11_1 : Int) := of_decide_eq_true (by first | (with_reducible assumption) | assumption)
                  have q8 : x11_1 < (a0.size : Int) := of_decide_eq_true (by first | (with_reducible assumption) | assumption)
                  have hx8 := bt_at a0 x11_1
                  have q8n := q8
                  replace p8 := eq_true p8
                  replace q8 := eq_true q8
                  go_wp2_with (first | ((with_reducible refine gate_builtin (b := .append) (xs := #[.tmp 19, .tmp 21]) rfl ?_); at_builtin; refine Kd.R_append (Kd.int .u8) (w0 := w) w.heap.size rfl (.tmp 19) (.tmp 21) 56 5 (.int .u8 0) 1 rfl Try.underlying56 info5 rfl (by decide) (by omega) u5 x5_1 a1 [.int .u8 a1] (fun _ => True) (fun _ => False) rfl rfl ?aP (fun _ hk => hk.elim) ?aF ?aO ?aB ?aS ?aL ?_; (case aP => exact rfl); (case aB => exact (by repeat (first | (with_reducible first | exact HB.out | apply below_alloc | apply pw_below_drewN | apply below_drew1) | exact HB.out))); (case aF => exact (fun _ _ => trivial)); (case aO => exact (by (with_reducible repeat (first | apply Kd.R_alloc | apply Kd.R_drewN | apply Kd.R_drew)); exact HO_5.out)); (case aS => exact (below_size (by repeat (first | (with_reducible first | exact HB.out | apply below_alloc | apply pw_below_drewN | apply below_drew1) | exact HB.out)))); (case aL => have := LMc10.out; omega); intro v119 w13 ho hb hg hat; rw [← Ny118.out] at ho; have n0_ := Aside0.mk (hb); have n1_ := Aside0.mk (ho); clear HB; clear HO_5; have HB := n0_; have HO120 := n1_; clear n0_ n1_; clear ho hb hg hat; have p11 : 0 ≤ (x11_1 : Int) := of_decide_eq_true (by first | (with_reducible assumption) | assumption); have q11 : x11_1 < (a0.size : Int) := of_decide_eq_true (by first | (with_reducible assumption) | assumption); have hx11 := bt_at a0 x11_1; have q11n := q11; replace p11 := eq_true p11; replace q11 := eq_true q11) | ((with_reducible refine gate_builtin (b := .append) (xs := #[.tmp 23, .tmp 27]) rfl ?_); at_builtin; refine Kd.R_append (Kd.int .u8) (w0 := w) w.heap.size rfl (.tmp 23) (.tmp 27) 56 5 (.int .u8 0) 1 rfl Try.underlying56 info5 rfl (by decide) (by omega) v119 y118 (bt a0 x11_1) [.int .u8 (bt a0 x11_1)] (fun _ => True) (fun _ => False) rfl rfl ?aP (fun _ hk => hk.elim) ?aF ?aO ?aB ?aS ?aL ?_; (case aP => exact rfl); (case aB => exact (by repeat (first | (with_reducible first | exact HB.out | apply below_alloc | apply pw_below_drewN | apply below_drew1) | exact HB.out))); (case aF => exact (fun _ _ => trivial)); (case aO => exact (by (with_reducible repeat (first | apply Kd.R_alloc | apply Kd.R_drewN | apply Kd.R_drew)); exact HO120.out)); (case aS => exact (below_size (by repeat (first | (with_reducible first | exact HB.out | apply below_alloc | apply pw_below_drewN | apply below_drew1) | exact HB.out)))); (case aL => have := LMc12.out; omega); intro v122 w14 ho hb hg hat; rw [← Ny121.out] at ho; have n0_ := Aside0.mk (hb); have n1_ := Aside0.mk (ho); clear HB; clear HO120; have HB := n0_; have HO123 := n1_; clear n0_ n1_; clear ho hb hg hat))
                  go_roundg k1
                  case measure => have := HK1.out; omega
                  case rel => exact ⟨(y121), (wrap64 (x11_1 + 1)), (by first | rfl | (simp; done) | (simp [*]; done)), H', ⟨by have := HK1.out; omega⟩, ⟨by (with_reducible repeat (first | apply Kd.R_alloc | apply Kd.R_drewN | apply Kd.R_drew)); exact HO123.out⟩, ⟨by repeat (first | (with_reducible first | exact HB.out | apply below_alloc | apply pw_below_drewN | apply below_drew1) | exact HB.out)⟩⟩
                · rw [if_neg c12] at H
                  exact absurd H (by simp)
              · rw [if_neg c10] at H
                exact absurd H (by simp)
            · rw [if_neg c9] at H
              have c9b0 : ((bt a0 x11_1) == a1) = false := beq_eq_false_iff_ne.mpr c9
              have c9b1 : ((bt a0 x11_1) != a1) = true := bne_iff_ne.mpr c9
              by_cases c16 : x5_1.length < 140737488355328
              · rw [if_pos c16] at H
                have LMc16 := Aside0.mk c16
                clear c16
                obtain ⟨y124, hy124⟩ : ∃ y_ : List Int, y_ = (x5_1 ++ [bt a0 x11_1]) := ⟨_, rfl⟩
                replace H : (lexer_double.l0 k1 a0 a1 y124 (a0.size : Int) (wrap64 (x11_1 + 1))) = some r := by first | (rw [hy124]; with_reducible exact H) | (have H2_ := (Option.bind_some _ _).symm.trans H; rw [hy124]; with_reducible exact H2_) | (have H2_ := (Option.bind_some _ _).symm.trans H; with_reducible exact H2_) | with_reducible exact H | (rw [hy124]; exact H) | exact H
                have Ny124 := Aside0.mk hy124
                clear hy124
                have H' := Aside0.mk H
                clear H
                have p8 : 0 ≤ (x11_1 : Int) := of_decide_eq_true (by first | (with_reducible assumption) | assumption)
                have q8 : x11_1 < (a0.size : Int) := of_decide_eq_true (by first | (with_reducible assumption) | assumption)
                have hx8 := bt_at a0 x11_1
                have q8n := q8
                replace p8 := eq_true p8
                replace q8 := eq_true q8
                have p15 : 0 ≤ (x11_1 : Int) := of_decide_eq_true (by first | (with_reducible assumption) | assumption)
                have q15 : x11_1 < (a0.size : Int) := of_decide_eq_true (by first | (with_reducible assumption) | assumption)
                have hx15 := bt_at a0 x11_1
                have q15n := q15
                replace p15 := eq_true p15
                replace q15 := eq_true q15
                go_wp2_with (first | ((with_reducible refine gate_builtin (b := .append) (xs := #[.tmp 23, .tmp 27]) rfl ?_); at_builtin; refine Kd.R_append (Kd.int .u8) (w0 := w) w.heap.size rfl (.tmp 23) (.tmp 27) 56 5 (.int .u8 0) 1 rfl Try.underlying56 info5 rfl (by decide) (by omega) u5 x5_1 (bt a0 x11_1) [.int .u8 (bt a0 x11_1)] (fun _ => True) (fun _ => False) rfl rfl ?aP (fun _ hk => hk.elim) ?aF ?aO ?aB ?aS ?aL ?_; (case aP => exact rfl); (case aB => exact (by repeat (first | (with_reducible first | exact HB.out | apply below_alloc | apply pw_below_drewN | apply below_drew1) | exact HB.out))); (case aF => exact (fun _ _ => trivial)); (case aO => exact (by (with_reducible repeat (first | apply Kd.R_alloc | apply Kd.R_drewN | apply Kd.R_drew)); exact HO_5.out)); (case aS => exact (below_size (by repeat (first | (with_reducible first | exact HB.out | apply below_alloc | apply pw_below_drewN | apply below_drew1) | exact HB.out)))); (case aL => have := LMc16.out; omega); intro v125 w17 ho hb hg hat; rw [← Ny124.out] at ho; have n0_ := Aside0.mk (hb); have n1_ := Aside0.mk (ho); clear HB; clear HO_5; have HB := n0_; have HO126 := n1_; clear n0_ n1_; clear ho hb hg hat))
                go_roundg k1
                case measure => have := HK1.out; omega
                case rel => exact ⟨(y124), (wrap64 (x11_1 + 1)), (by first | rfl | (simp; done) | (simp [*]; done)), H', ⟨by have := HK1.out; omega⟩, ⟨by (with_reducible repeat (first | apply Kd.R_alloc | apply Kd.R_drewN | apply Kd.R_drew)); exact HO126.out⟩, ⟨by repeat (first | (with_reducible first | exact HB.out | apply below_alloc | apply pw_below_drewN | apply below_drew1) | exact HB.out)⟩⟩
              · rw [if_neg c16] at H
                exact absurd H (by simp)
          · rw [if_neg c7] at H
            exact absurd H (by simp)
        · rw [if_neg c6] at H
          exact absurd H (by simp)
      · rw [if_neg c5] at H
        have c5b0 : decide (x11_1 < (a0.size : Int)) = false := decide_eq_false c5
        clear c5
        by_cases c18 : x5_1.length < 140737488355328
        · rw [if_pos c18] at H
          have LMc18 := Aside0.mk c18
          clear c18
          obtain ⟨y127, hy127⟩ : ∃ y_ : List Int, y_ = (x5_1 ++ [a1]) := ⟨_, rfl⟩
          replace H : (some (strOfNums y127)) = some r := by first | (rw [hy127]; with_reducible exact H) | (have H2_ := (Option.bind_some _ _).symm.trans H; rw [hy127]; with_reducible exact H2_) | (have H2_ := (Option.bind_some _ _).symm.trans H; with_reducible exact H2_) | with_reducible exact H | (rw [hy127]; exact H) | exact H
          have Ny127 := Aside0.mk hy127
          clear hy127
          obtain rfl := Option.some.inj H
          go_wp2_with (first | ((with_reducible refine gate_builtin (b := .append) (xs := #[.tmp 30, .tmp 32]) rfl ?_); at_builtin; refine Kd.R_append (Kd.int .u8) (w0 := w) w.heap.size rfl (.tmp 30) (.tmp 32) 56 5 (.int .u8 0) 1 rfl Try.underlying56 info5 rfl (by decide) (by omega) u5 x5_1 a1 [.int .u8 a1] (fun _ => True) (fun _ => False) rfl rfl ?aP (fun _ hk => hk.elim) ?aF ?aO ?aB ?aS ?aL ?_; (case aP => exact rfl); (case aB => exact (by repeat (first | (with_reducible first | exact HB.out | apply below_alloc | apply pw_below_drewN | apply below_drew1) | exact HB.out))); (case aF => exact (fun _ _ => trivial)); (case aO => exact (by (with_reducible repeat (first | apply Kd.R_alloc | apply Kd.R_drewN | apply Kd.R_drew)); exact HO_5.out)); (case aS => exact (below_size (by repeat (first | (with_reducible first | exact HB.out | apply below_alloc | apply pw_below_drewN | apply below_drew1) | exact HB.out)))); (case aL => have := LMc18.out; omega); intro v128 w19 ho hb hg hat; rw [← Ny127.out] at ho; have n0_ := Aside0.mk (hb); have n1_ := Aside0.mk (ho); clear HB; clear HO_5; have HB := n0_; have HO129 := n1_; clear n0_ n1_; clear ho hb hg hat; have hcv20 := own_string (P := Try.prog) Try.underlying56 Try.underlying5 Try.underlying9 (Kd.own_of_R HO129.out)))
          go_ret
          exact ⟨by first | rfl | (simp [errW_none, errW_some] <;> rfl) | (simp [*, errW_none, errW_some] <;> rfl), by repeat (first | (with_reducible first | exact HB.out | apply below_alloc | apply pw_below_drewN | apply below_drew1) | exact HB.out)⟩
        · rw [if_neg c18] at H
          exact absurd H (by simp)

end Go.Proofs.Ytcmjfcfjppioeaa.Pb
