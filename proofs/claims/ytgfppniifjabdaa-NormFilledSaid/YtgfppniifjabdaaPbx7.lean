-- Written by a program of this session's (wip/ext/run.py) over the kit's print, with contracts of its own.
import Derived.Test.YtgfppniifjabdaaPbx0
import Derived.Test.YtgfppniifjabdaaPbx5
import Derived.Test.YtgfppniifjabdaaPbx6
namespace Go.Proofs.Ytgfppniifjabdaa.Pb
open Go Go.Proofs.Ytgfppniifjabdaa Go.RowKit Go.Proofs.YtgfppniifjabdaaW.PrintWords Go.Proofs.YtgfppniifjabdaaW.PrintLast Go.Proofs.YtgfppniifjabdaaW.PrintMore
attribute [local go_sem] max2_int min2_int max_two min_two max_three min_three max_four min_four   -- for this text's walks alone
set_option linter.unusedVariables false
set_option linter.unusedSimpArgs false

/-! ### pontoonref04_quoted: function 47 -/
def pontoonref04_quoted.l0 : Nat → ByteArray → Int → ByteArray → Int → Option (ByteArray × Int)
  | 0, _, _, _, _ => none
  | k + 1, x0, x6, x7, x8 => if x8 < (x0.size : Int) then (if 0 ≤ x8 then (if (bt x0 x8) = x6 then (if (wrap64 (x8 + 1)) < (x0.size : Int) then (if 0 ≤ (wrap64 (x8 + 1)) then (if (bt x0 (wrap64 (x8 + 1))) = x6 then (if x8 ≤ (wrap64 (x8 + 1)) then (if (wrap64 (x8 + 1)) ≤ (x0.size : Int) then (if x7.size + (x0.extract (x8 : Int).toNat ((wrap64 (x8 + 1)) : Int).toNat).size ≤ 9223372036854775807 then (pontoonref04_quoted.l0 k x0 x6 (x7 ++ (x0.extract (x8 : Int).toNat ((wrap64 (x8 + 1)) : Int).toNat)) (wrap64 ((wrap64 (x8 + 1)) + 1))) else (none)) else (none)) else (none)) else (some (x7, wrap64 (x8 + 1)))) else (none)) else (some (x7, wrap64 (x8 + 1)))) else (if x8 ≤ (wrap64 (x8 + 1)) then (if (wrap64 (x8 + 1)) ≤ (x0.size : Int) then (if x7.size + (x0.extract (x8 : Int).toNat ((wrap64 (x8 + 1)) : Int).toNat).size ≤ 9223372036854775807 then (pontoonref04_quoted.l0 k x0 x6 (x7 ++ (x0.extract (x8 : Int).toNat ((wrap64 (x8 + 1)) : Int).toNat)) (wrap64 (x8 + 1))) else (none)) else (none)) else (none))) else (none)) else (some ((⟨#[]⟩ : ByteArray), (-1)))
def pontoonref04_quoted.f (k : Nat) (a0 : ByteArray) (a1 : Int) : Option (ByteArray × Int) := if 0 ≤ a1 then (if a1 < (a0.size : Int) then (pontoonref04_quoted.l0 k a0 (bt a0 a1) (⟨#[]⟩ : ByteArray) (wrap64 (a1 + 1))) else (none)) else (none)
theorem pontoonref04_quoted.mono_l : ∀ k, (∀ y0 y1 y2 y3, LeO (pontoonref04_quoted.l0 k y0 y1 y2 y3) (pontoonref04_quoted.l0 (k + 1) y0 y1 y2 y3))
  | 0 => fun _ _ _ _ r h => by simp [pontoonref04_quoted.l0] at h
  | k + 1 => by
    have ih0 := pontoonref04_quoted.mono_l k
    · intro y0 y1 y2 y3
      unfold pontoonref04_quoted.l0
      repeat' first
      | (with_reducible exact ih0 _ _ _ _)
      | (with_reducible exact LeO.refl _)
      | (with_reducible exact LeO.none _)
      | (with_reducible refine LeO.ite ?_ ?_)
      | (with_reducible refine LeO.bind ?_ (fun _ => ?_))
      | exact ih0 _ _ _ _
      | exact LeO.none _
      | refine LeO.ite ?_ ?_
      | refine LeO.bind ?_ (fun _ => ?_)
theorem pontoonref04_quoted.mono : ∀ a0 a1 k, LeO (pontoonref04_quoted.f k a0 a1) (pontoonref04_quoted.f (k + 1) a0 a1) := by
  intro a0 a1 k
  have ih0 := pontoonref04_quoted.mono_l k
  unfold pontoonref04_quoted.f
  repeat' first
      | (with_reducible exact ih0 _ _ _ _)
      | (with_reducible exact LeO.refl _)
      | (with_reducible exact LeO.none _)
      | (with_reducible refine LeO.ite ?_ ?_)
      | (with_reducible refine LeO.bind ?_ (fun _ => ?_))
      | exact ih0 _ _ _ _
      | exact LeO.none _
      | refine LeO.ite ?_ ?_
      | refine LeO.bind ?_ (fun _ => ?_)
set_option maxHeartbeats 8000000 in
set_option maxRecDepth 100000 in
theorem pontoonref04_quoted.calls (k : Nat) (a0 : ByteArray) (a1 : Int) (r1 : ByteArray) (r2 : Int) (w : World) (h : pontoonref04_quoted.f k a0 a1 = some (r1, r2)) :
    Calls Try.prog 47 #[.string a0, .int .i64 a1] w fun e w' => e = .returned (.tuple #[.string r1, .int .i64 r2]) ∧ Drawn0 w w' := by
  have H : (if 0 ≤ a1 then (if a1 < (a0.size : Int) then (pontoonref04_quoted.l0 k a0 (bt a0 a1) (⟨#[]⟩ : ByteArray) (wrap64 (a1 + 1))) else (none)) else (none)) = some (r1, r2) := h
  clear h
  by_cases c3 : 0 ≤ a1
  · rw [if_pos c3] at H
    have c3b0 : decide (0 ≤ a1) = true := decide_eq_true c3
    clear c3
    by_cases c4 : a1 < (a0.size : Int)
    · rw [if_pos c4] at H
      have c4b0 : decide (a1 < (a0.size : Int)) = true := decide_eq_true c4
      clear c4
      have H' := Aside0.mk H
      clear H
      have p5 : 0 ≤ (a1 : Int) := of_decide_eq_true (by first | (with_reducible assumption) | assumption)
      have q5 : a1 < (a0.size : Int) := of_decide_eq_true (by first | (with_reducible assumption) | assumption)
      have hx5 := bt_at a0 a1
      have q5n := q5
      replace p5 := eq_true p5
      replace q5 := eq_true q5
      go_enter Try.func47, Try.ntmps47
      go_wp2
      go_loopg [7, 8] k (fun kq v7 v8 w' => ∃ (x7_1 : ByteArray) (x8_1 : Int), v7 = .string x7_1 ∧ v8 = .int .i64 x8_1 ∧ Aside0 (pontoonref04_quoted.l0 kq a0 (bt a0 a1) x7_1 x8_1 = some (r1, r2)) ∧ Aside0 (kq ≤ k) ∧ Drawn0 w w')
      case atStart => exact ⟨((⟨#[]⟩ : ByteArray)), (wrap64 (a1 + 1)), (by first | rfl | (simp; done) | (simp [*]; done)), (by first | rfl | (simp; done) | (simp [*]; done)), H', ⟨Nat.le_refl _⟩, by repeat (first | exact Drawn0.refl _ | apply Drawn0.step)⟩
      case round =>
        clear H'
        try clear p2
        try clear c3
        try clear c3b0
        try clear c4
        try clear c4b0
        try clear p5
        try clear q5
        try clear hx5
        try clear p5
        try clear q5
        obtain ⟨x7_1, x8_1, rfl, rfl, HA, HK1, ⟨m1, rfl⟩⟩ := hrel
        cases gk with
        | zero => exact absurd HA.out (by simp [pontoonref04_quoted.l0])
        | succ k1 =>
          have H := HA.out
          clear HA
          simp only [pontoonref04_quoted.l0] at H
          by_cases c6 : x8_1 < (a0.size : Int)
          · rw [if_pos c6] at H
            have c6b0 : decide (x8_1 < (a0.size : Int)) = true := decide_eq_true c6
            clear c6
            by_cases c7 : 0 ≤ x8_1
            · rw [if_pos c7] at H
              have c7b0 : decide (0 ≤ x8_1) = true := decide_eq_true c7
              clear c7
              by_cases c9 : (bt a0 x8_1) = (bt a0 a1)
              · rw [if_pos c9] at H
                have c9b0 : ((bt a0 x8_1) == (bt a0 a1)) = true := beq_iff_eq.mpr c9
                have c9b1 : ((bt a0 x8_1) != (bt a0 a1)) = false := bne_eq_false_iff_eq.mpr c9
                clear c9
                by_cases c10 : (wrap64 (x8_1 + 1)) < (a0.size : Int)
                · rw [if_pos c10] at H
                  have c10b0 : decide ((wrap64 (x8_1 + 1)) < (a0.size : Int)) = true := decide_eq_true c10
                  clear c10
                  obtain ⟨ji11, hji11⟩ : ∃ j_ : Int, (wrap64 (x8_1 + 1)) = j_ := ⟨_, rfl⟩
                  replace H : (if 0 ≤ (ji11) then (if (bt a0 (ji11)) = (bt a0 a1) then (if x8_1 ≤ (ji11) then (if (ji11) ≤ (a0.size : Int) then (if x7_1.size + (a0.extract (x8_1 : Int).toNat ((ji11) : Int).toNat).size ≤ 9223372036854775807 then (pontoonref04_quoted.l0 k1 a0 (bt a0 a1) (x7_1 ++ (a0.extract (x8_1 : Int).toNat ((ji11) : Int).toNat)) (wrap64 ((ji11) + 1))) else (none)) else (none)) else (none)) else (some (x7_1, ji11))) else (none)) = some (r1, r2) := by first | (rw [hji11] at H; exact H) | (simp only [hji11] at H ⊢; exact H)
                  (try rw [hji11] at c10b0)
                  have hji11w : (IntKind.i64.wrap (x8_1 + 1)) = ji11 := (i64_w _).trans hji11
                  by_cases c12 : 0 ≤ (ji11)
                  · rw [if_pos c12] at H
                    have c12b0 : decide (0 ≤ (ji11)) = true := decide_eq_true c12
                    clear c12
                    by_cases c14 : (bt a0 (ji11)) = (bt a0 a1)
                    · rw [if_pos c14] at H
                      have c14b0 : ((bt a0 (ji11)) == (bt a0 a1)) = true := beq_iff_eq.mpr c14
                      have c14b1 : ((bt a0 (ji11)) != (bt a0 a1)) = false := bne_eq_false_iff_eq.mpr c14
                      clear c14
                      have c15b0 := eq_true (of_decide_eq_true (by first | (with_reducible assumption) | assumption) : 0 ≤ x8_1)
                      by_cases c16 : x8_1 ≤ (ji11)
                      · rw [if_pos c16] at H
                        have c16b0 := eq_true c16
                        have c16b1 : decide (x8_1 ≤ (ji11)) = true := decide_eq_true c16
                        by_cases c17 : (ji11) ≤ (a0.size : Int)
                        · rw [if_pos c17] at H
                          have c17b0 := eq_true c17
                          have c17b1 : decide ((ji11) ≤ (a0.size : Int)) = true := decide_eq_true c17
                          by_cases c18 : x7_1.size + (a0.extract (x8_1 : Int).toNat ((ji11) : Int).toNat).size ≤ 9223372036854775807
                          · rw [if_pos c18] at H
                            have c18b0 := eq_true c18
                            have c18b1 : decide (x7_1.size + (a0.extract (x8_1 : Int).toNat ((ji11) : Int).toNat).size ≤ 9223372036854775807) = true := decide_eq_true c18
                            try have c18b2 : (9223372036854775807 < x7_1.size + (a0.extract (x8_1 : Int).toNat ((ji11) : Int).toNat).size) = False := eq_false (Nat.not_lt.2 c18)
                            try (have c18b3 := c18; simp [ByteArray.size_extract] at c18b3)
                            have H' := Aside0.mk H
                            clear H
                            have p8 : 0 ≤ (x8_1 : Int) := of_decide_eq_true (by first | (with_reducible assumption) | assumption)
                            have q8 : x8_1 < (a0.size : Int) := of_decide_eq_true (by first | (with_reducible assumption) | assumption)
                            have hx8 := bt_at a0 x8_1
                            have q8n := q8
                            replace p8 := eq_true p8
                            replace q8 := eq_true q8
                            have p13 : 0 ≤ ((ji11) : Int) := of_decide_eq_true (by first | (with_reducible assumption) | assumption)
                            have q13 : (ji11) < (a0.size : Int) := of_decide_eq_true (by first | (with_reducible assumption) | assumption)
                            have hx13 := bt_at a0 (ji11)
                            have q13n := q13
                            replace p13 := eq_true p13
                            replace q13 := eq_true q13
                            go_wp2
                            go_roundg k1
                            case measure => have := HK1.out; omega
                            case rel => exact ⟨(x7_1 ++ (a0.extract (x8_1 : Int).toNat ((ji11) : Int).toNat)), (wrap64 ((ji11) + 1)), (by first | rfl | (simp; done) | (simp only [← hji11] <;> (first | rfl | simp)) | (simp [*]; done)), (by first | rfl | (simp; done) | (simp only [← hji11] <;> (first | rfl | simp)) | (simp [*]; done)), H', ⟨by have := HK1.out; omega⟩, by repeat (first | exact Drawn0.refl _ | apply Drawn0.step)⟩
                          · rw [if_neg c18] at H
                            exact absurd H (by simp)
                        · rw [if_neg c17] at H
                          exact absurd H (by simp)
                      · rw [if_neg c16] at H
                        exact absurd H (by simp)
                    · rw [if_neg c14] at H
                      have c14b0 : ((bt a0 (ji11)) == (bt a0 a1)) = false := beq_eq_false_iff_ne.mpr c14
                      have c14b1 : ((bt a0 (ji11)) != (bt a0 a1)) = true := bne_iff_ne.mpr c14
                      simp only [Option.some.injEq, Prod.mk.injEq] at H
                      obtain ⟨rfl, rfl⟩ := H
                      have p8 : 0 ≤ (x8_1 : Int) := of_decide_eq_true (by first | (with_reducible assumption) | assumption)
                      have q8 : x8_1 < (a0.size : Int) := of_decide_eq_true (by first | (with_reducible assumption) | assumption)
                      have hx8 := bt_at a0 x8_1
                      have q8n := q8
                      replace p8 := eq_true p8
                      replace q8 := eq_true q8
                      have p13 : 0 ≤ ((ji11) : Int) := of_decide_eq_true (by first | (with_reducible assumption) | assumption)
                      have q13 : (ji11) < (a0.size : Int) := of_decide_eq_true (by first | (with_reducible assumption) | assumption)
                      have hx13 := bt_at a0 (ji11)
                      have q13n := q13
                      replace p13 := eq_true p13
                      replace q13 := eq_true q13
                      go_wp2
                      go_ret2
                      exact ⟨by first | rfl | (simp; done) | (simp only [← hji11] <;> (first | rfl | simp)) | (simp [*]; done), by repeat (first | exact Drawn0.refl _ | apply Drawn0.step)⟩
                  · rw [if_neg c12] at H
                    exact absurd H (by simp)
                · rw [if_neg c10] at H
                  have c10b0 : decide ((wrap64 (x8_1 + 1)) < (a0.size : Int)) = false := decide_eq_false c10
                  clear c10
                  simp only [Option.some.injEq, Prod.mk.injEq] at H
                  obtain ⟨rfl, rfl⟩ := H
                  have p8 : 0 ≤ (x8_1 : Int) := of_decide_eq_true (by first | (with_reducible assumption) | assumption)
                  have q8 : x8_1 < (a0.size : Int) := of_decide_eq_true (by first | (with_reducible assumption) | assumption)
                  have hx8 := bt_at a0 x8_1
                  have q8n := q8
                  replace p8 := eq_true p8
                  replace q8 := eq_true q8
                  go_wp2
                  go_ret2
                  exact ⟨by first | rfl | (simp; done) | (simp [*]; done), by repeat (first | exact Drawn0.refl _ | apply Drawn0.step)⟩
              · rw [if_neg c9] at H
                have c9b0 : ((bt a0 x8_1) == (bt a0 a1)) = false := beq_eq_false_iff_ne.mpr c9
                have c9b1 : ((bt a0 x8_1) != (bt a0 a1)) = true := bne_iff_ne.mpr c9
                have c19b0 := eq_true (of_decide_eq_true (by first | (with_reducible assumption) | assumption) : 0 ≤ x8_1)
                by_cases c20 : x8_1 ≤ (wrap64 (x8_1 + 1))
                · rw [if_pos c20] at H
                  have c20b0 := eq_true c20
                  have c20b1 : decide (x8_1 ≤ (wrap64 (x8_1 + 1))) = true := decide_eq_true c20
                  by_cases c21 : (wrap64 (x8_1 + 1)) ≤ (a0.size : Int)
                  · rw [if_pos c21] at H
                    have c21b0 := eq_true c21
                    have c21b1 : decide ((wrap64 (x8_1 + 1)) ≤ (a0.size : Int)) = true := decide_eq_true c21
                    by_cases c22 : x7_1.size + (a0.extract (x8_1 : Int).toNat ((wrap64 (x8_1 + 1)) : Int).toNat).size ≤ 9223372036854775807
                    · rw [if_pos c22] at H
                      have c22b0 := eq_true c22
                      have c22b1 : decide (x7_1.size + (a0.extract (x8_1 : Int).toNat ((wrap64 (x8_1 + 1)) : Int).toNat).size ≤ 9223372036854775807) = true := decide_eq_true c22
                      try have c22b2 : (9223372036854775807 < x7_1.size + (a0.extract (x8_1 : Int).toNat ((wrap64 (x8_1 + 1)) : Int).toNat).size) = False := eq_false (Nat.not_lt.2 c22)
                      try (have c22b3 := c22; simp [ByteArray.size_extract] at c22b3)
                      have H' := Aside0.mk H
                      clear H
                      have p8 : 0 ≤ (x8_1 : Int) := of_decide_eq_true (by first | (with_reducible assumption) | assumption)
                      have q8 : x8_1 < (a0.size : Int) := of_decide_eq_true (by first | (with_reducible assumption) | assumption)
                      have hx8 := bt_at a0 x8_1
                      have q8n := q8
                      replace p8 := eq_true p8
                      replace q8 := eq_true q8
                      go_wp2
                      go_roundg k1
                      case measure => have := HK1.out; omega
                      case rel => exact ⟨(x7_1 ++ (a0.extract (x8_1 : Int).toNat ((wrap64 (x8_1 + 1)) : Int).toNat)), (wrap64 (x8_1 + 1)), (by first | rfl | (simp; done) | (simp [*]; done)), (by first | rfl | (simp; done) | (simp [*]; done)), H', ⟨by have := HK1.out; omega⟩, by repeat (first | exact Drawn0.refl _ | apply Drawn0.step)⟩
                    · rw [if_neg c22] at H
                      exact absurd H (by simp)
                  · rw [if_neg c21] at H
                    exact absurd H (by simp)
                · rw [if_neg c20] at H
                  exact absurd H (by simp)
            · rw [if_neg c7] at H
              exact absurd H (by simp)
          · rw [if_neg c6] at H
            have c6b0 : decide (x8_1 < (a0.size : Int)) = false := decide_eq_false c6
            clear c6
            simp only [Option.some.injEq, Prod.mk.injEq] at H
            obtain ⟨rfl, rfl⟩ := H
            go_wp2
            go_ret2
            exact ⟨by first | rfl | (simp; done) | (simp [*]; done), by repeat (first | exact Drawn0.refl _ | apply Drawn0.step)⟩
    · rw [if_neg c4] at H
      exact absurd H (by simp)
  · rw [if_neg c3] at H
    exact absurd H (by simp)

/-! ### pontoonref04_tag: function 48 -/
def pontoonref04_tag.l0 : Nat → ByteArray → Int → Int → Option (Int)
  | 0, _, _, _ => none
  | k + 1, x0, x1, x5 => if x5 < (x0.size : Int) then (if 0 ≤ x5 then ((pontoonref04_letter.f (bt x0 x5)).bind fun t181 => (if t181 = true then (pontoonref04_tag.l0 k x0 x1 (wrap64 (x5 + 1))) else (if x5 > (wrap64 (x1 + 1)) then ((pontoonref04_digit.f (bt x0 x5)).bind fun t182 => (if t182 = true then (pontoonref04_tag.l0 k x0 x1 (wrap64 (x5 + 1))) else (if (bt x0 x5) = 36 then (some (wrap64 (x5 + 1))) else (some (-1))))) else (if (bt x0 x5) = 36 then (some (wrap64 (x5 + 1))) else (some (-1)))))) else (none)) else (some (-1))
def pontoonref04_tag.f (k : Nat) (a0 : ByteArray) (a1 : Int) : Option (Int) := pontoonref04_tag.l0 k a0 a1 (wrap64 (a1 + 1))
theorem pontoonref04_tag.mono_l : ∀ k, (∀ y0 y1 y2, LeO (pontoonref04_tag.l0 k y0 y1 y2) (pontoonref04_tag.l0 (k + 1) y0 y1 y2))
  | 0 => fun _ _ _ r h => by simp [pontoonref04_tag.l0] at h
  | k + 1 => by
    have ih0 := pontoonref04_tag.mono_l k
    · intro y0 y1 y2
      unfold pontoonref04_tag.l0
      repeat' first
      | (with_reducible exact ih0 _ _ _)
      | (with_reducible exact LeO.refl _)
      | (with_reducible exact LeO.none _)
      | (with_reducible refine LeO.ite ?_ ?_)
      | (with_reducible refine LeO.bind ?_ (fun _ => ?_))
      | exact ih0 _ _ _
      | exact LeO.none _
      | refine LeO.ite ?_ ?_
      | refine LeO.bind ?_ (fun _ => ?_)
theorem pontoonref04_tag.mono : ∀ a0 a1 k, LeO (pontoonref04_tag.f k a0 a1) (pontoonref04_tag.f (k + 1) a0 a1) := by
  intro a0 a1 k
  have ih0 := pontoonref04_tag.mono_l k
  unfold pontoonref04_tag.f
  repeat' first
      | (with_reducible exact ih0 _ _ _)
      | (with_reducible exact LeO.refl _)
      | (with_reducible exact LeO.none _)
      | (with_reducible refine LeO.ite ?_ ?_)
      | (with_reducible refine LeO.bind ?_ (fun _ => ?_))
      | exact ih0 _ _ _
      | exact LeO.none _
      | refine LeO.ite ?_ ?_
      | refine LeO.bind ?_ (fun _ => ?_)
set_option maxHeartbeats 8000000 in
set_option maxRecDepth 100000 in
theorem pontoonref04_tag.calls (k : Nat) (a0 : ByteArray) (a1 : Int) (r : Int) (w : World) (h : pontoonref04_tag.f k a0 a1 = some r) :
    Calls Try.prog 48 #[.string a0, .int .i64 a1] w fun e w' => e = .returned (.int .i64 r) ∧ Drawn0 w w' := by
  have H : (pontoonref04_tag.l0 k a0 a1 (wrap64 (a1 + 1))) = some r := h
  clear h
  have H' := Aside0.mk H
  clear H
  go_enter Try.func48, Try.ntmps48
  go_wp2
  go_loopg [5] k (fun kq v5 w' => ∃ (x5_1 : Int), v5 = .int .i64 x5_1 ∧ Aside0 (pontoonref04_tag.l0 kq a0 a1 x5_1 = some r) ∧ Aside0 (kq ≤ k) ∧ Drawn0 w w')
  case atStart => exact ⟨(wrap64 (a1 + 1)), (by first | rfl | (simp; done) | (simp [*]; done)), H', ⟨Nat.le_refl _⟩, by repeat (first | exact Drawn0.refl _ | apply Drawn0.step)⟩
  case round =>
    clear H'
    try clear p2
    obtain ⟨x5_1, rfl, HA, HK1, ⟨m1, rfl⟩⟩ := hrel
    cases gk with
    | zero => exact absurd HA.out (by simp [pontoonref04_tag.l0])
    | succ k1 =>
      have H := HA.out
      clear HA
      simp only [pontoonref04_tag.l0] at H
      by_cases c3 : x5_1 < (a0.size : Int)
      · rw [if_pos c3] at H
        have c3b0 : decide (x5_1 < (a0.size : Int)) = true := decide_eq_true c3
        clear c3
        by_cases c4 : 0 ≤ x5_1
        · rw [if_pos c4] at H
          have c4b0 : decide (0 ≤ x5_1) = true := decide_eq_true c4
          clear c4
          replace H := Option.bind_eq_some_iff.mp H
          obtain ⟨t181, A60, H⟩ := H
          replace H : (if t181 = true then (pontoonref04_tag.l0 k1 a0 a1 (wrap64 (x5_1 + 1))) else (if x5_1 > (wrap64 (a1 + 1)) then ((pontoonref04_digit.f (bt a0 x5_1)).bind fun t182 => (if t182 = true then (pontoonref04_tag.l0 k1 a0 a1 (wrap64 (x5_1 + 1))) else (if (bt a0 x5_1) = 36 then (some (wrap64 (x5_1 + 1))) else (some (-1))))) else (if (bt a0 x5_1) = 36 then (some (wrap64 (x5_1 + 1))) else (some (-1))))) = some r := H
          have A6 := Aside0.mk A60
          clear A60
          by_cases c7 : t181 = true
          · subst c7
            have H1 : (pontoonref04_tag.l0 k1 a0 a1 (wrap64 (x5_1 + 1))) = some r := by rw [if_pos rfl] at H; exact H
            clear H
            have H := H1
            clear H1
            have H' := Aside0.mk H
            clear H
            have p5 : 0 ≤ (x5_1 : Int) := of_decide_eq_true (by first | (with_reducible assumption) | assumption)
            have q5 : x5_1 < (a0.size : Int) := of_decide_eq_true (by first | (with_reducible assumption) | assumption)
            have hx5 := bt_at a0 x5_1
            have q5n := q5
            replace p5 := eq_true p5
            replace q5 := eq_true q5
            go_wp2_with (first | (go_at_call 43; (with_reducible refine (pontoonref04_letter.calls (bt a0 x5_1) true _ A6.out).mono ?_); rintro e w' ⟨rfl, ⟨nd, rfl⟩⟩))
            go_roundg k1
            case measure => have := HK1.out; omega
            case rel => exact ⟨(wrap64 (x5_1 + 1)), (by first | rfl | (simp; done) | (simp [*]; done)), H', ⟨by have := HK1.out; omega⟩, by repeat (first | exact Drawn0.refl _ | apply Drawn0.step)⟩
          · replace c7 := Bool.eq_false_iff.mpr c7
            subst c7
            have H1 : (if x5_1 > (wrap64 (a1 + 1)) then ((pontoonref04_digit.f (bt a0 x5_1)).bind fun t182 => (if t182 = true then (pontoonref04_tag.l0 k1 a0 a1 (wrap64 (x5_1 + 1))) else (if (bt a0 x5_1) = 36 then (some (wrap64 (x5_1 + 1))) else (some (-1))))) else (if (bt a0 x5_1) = 36 then (some (wrap64 (x5_1 + 1))) else (some (-1)))) = some r := by rw [if_neg (show ¬ (false = true) by decide)] at H; exact H
            clear H
            have H := H1
            clear H1
            by_cases c8 : x5_1 > (wrap64 (a1 + 1))
            · rw [if_pos c8] at H
              have c8b0 : decide ((wrap64 (a1 + 1)) < x5_1) = true := decide_eq_true c8
              clear c8
              replace H := Option.bind_eq_some_iff.mp H
              obtain ⟨t182, A100, H⟩ := H
              replace H : (if t182 = true then (pontoonref04_tag.l0 k1 a0 a1 (wrap64 (x5_1 + 1))) else (if (bt a0 x5_1) = 36 then (some (wrap64 (x5_1 + 1))) else (some (-1)))) = some r := H
              have A10 := Aside0.mk A100
              clear A100
              by_cases c11 : t182 = true
              · subst c11
                have H1 : (pontoonref04_tag.l0 k1 a0 a1 (wrap64 (x5_1 + 1))) = some r := by rw [if_pos rfl] at H; exact H
                clear H
                have H := H1
                clear H1
                have H' := Aside0.mk H
                clear H
                have p5 : 0 ≤ (x5_1 : Int) := of_decide_eq_true (by first | (with_reducible assumption) | assumption)
                have q5 : x5_1 < (a0.size : Int) := of_decide_eq_true (by first | (with_reducible assumption) | assumption)
                have hx5 := bt_at a0 x5_1
                have q5n := q5
                replace p5 := eq_true p5
                replace q5 := eq_true q5
                go_wp2_with (first | (go_at_call 43; (with_reducible refine (pontoonref04_letter.calls (bt a0 x5_1) false _ A6.out).mono ?_); rintro e w' ⟨rfl, ⟨nd, rfl⟩⟩; have p9 : 0 ≤ (x5_1 : Int) := of_decide_eq_true (by first | (with_reducible assumption) | assumption); have q9 : x5_1 < (a0.size : Int) := of_decide_eq_true (by first | (with_reducible assumption) | assumption); have hx9 := bt_at a0 x5_1; have q9n := q9; replace p9 := eq_true p9; replace q9 := eq_true q9) | (go_at_call 46; (with_reducible refine (pontoonref04_digit.calls (bt a0 x5_1) true _ A10.out).mono ?_); rintro e w' ⟨rfl, ⟨nd, rfl⟩⟩))
                go_roundg k1
                case measure => have := HK1.out; omega
                case rel => exact ⟨(wrap64 (x5_1 + 1)), (by first | rfl | (simp; done) | (simp [*]; done)), H', ⟨by have := HK1.out; omega⟩, by repeat (first | exact Drawn0.refl _ | apply Drawn0.step)⟩
              · replace c11 := Bool.eq_false_iff.mpr c11
                subst c11
                have H1 : (if (bt a0 x5_1) = 36 then (some (wrap64 (x5_1 + 1))) else (some (-1))) = some r := by rw [if_neg (show ¬ (false = true) by decide)] at H; exact H
                clear H
                have H := H1
                clear H1
                by_cases c13 : (bt a0 x5_1) = 36
                · rw [if_pos c13] at H
                  have c13b0 : ((bt a0 x5_1) == 36) = true := beq_iff_eq.mpr c13
                  have c13b1 : ((bt a0 x5_1) != 36) = false := bne_eq_false_iff_eq.mpr c13
                  clear c13
                  obtain rfl := Option.some.inj H
                  have p5 : 0 ≤ (x5_1 : Int) := of_decide_eq_true (by first | (with_reducible assumption) | assumption)
                  have q5 : x5_1 < (a0.size : Int) := of_decide_eq_true (by first | (with_reducible assumption) | assumption)
                  have hx5 := bt_at a0 x5_1
                  have q5n := q5
                  replace p5 := eq_true p5
                  replace q5 := eq_true q5
                  go_wp2_with (first | (go_at_call 43; (with_reducible refine (pontoonref04_letter.calls (bt a0 x5_1) false _ A6.out).mono ?_); rintro e w' ⟨rfl, ⟨nd, rfl⟩⟩; have p9 : 0 ≤ (x5_1 : Int) := of_decide_eq_true (by first | (with_reducible assumption) | assumption); have q9 : x5_1 < (a0.size : Int) := of_decide_eq_true (by first | (with_reducible assumption) | assumption); have hx9 := bt_at a0 x5_1; have q9n := q9; replace p9 := eq_true p9; replace q9 := eq_true q9) | (go_at_call 46; (with_reducible refine (pontoonref04_digit.calls (bt a0 x5_1) false _ A10.out).mono ?_); rintro e w' ⟨rfl, ⟨nd, rfl⟩⟩; have p12 : 0 ≤ (x5_1 : Int) := of_decide_eq_true (by first | (with_reducible assumption) | assumption); have q12 : x5_1 < (a0.size : Int) := of_decide_eq_true (by first | (with_reducible assumption) | assumption); have hx12 := bt_at a0 x5_1; have q12n := q12; replace p12 := eq_true p12; replace q12 := eq_true q12))
                  go_ret
                  exact ⟨by first | rfl | (simp; done) | (simp [*]; done), by repeat (first | exact Drawn0.refl _ | apply Drawn0.step)⟩
                · rw [if_neg c13] at H
                  have c13b0 : ((bt a0 x5_1) == 36) = false := beq_eq_false_iff_ne.mpr c13
                  have c13b1 : ((bt a0 x5_1) != 36) = true := bne_iff_ne.mpr c13
                  obtain rfl := Option.some.inj H
                  have p5 : 0 ≤ (x5_1 : Int) := of_decide_eq_true (by first | (with_reducible assumption) | assumption)
                  have q5 : x5_1 < (a0.size : Int) := of_decide_eq_true (by first | (with_reducible assumption) | assumption)
                  have hx5 := bt_at a0 x5_1
                  have q5n := q5
                  replace p5 := eq_true p5
                  replace q5 := eq_true q5
                  go_wp2_with (first | (go_at_call 43; (with_reducible refine (pontoonref04_letter.calls (bt a0 x5_1) false _ A6.out).mono ?_); rintro e w' ⟨rfl, ⟨nd, rfl⟩⟩; have p9 : 0 ≤ (x5_1 : Int) := of_decide_eq_true (by first | (with_reducible assumption) | assumption); have q9 : x5_1 < (a0.size : Int) := of_decide_eq_true (by first | (with_reducible assumption) | assumption); have hx9 := bt_at a0 x5_1; have q9n := q9; replace p9 := eq_true p9; replace q9 := eq_true q9) | (go_at_call 46; (with_reducible refine (pontoonref04_digit.calls (bt a0 x5_1) false _ A10.out).mono ?_); rintro e w' ⟨rfl, ⟨nd, rfl⟩⟩; have p12 : 0 ≤ (x5_1 : Int) := of_decide_eq_true (by first | (with_reducible assumption) | assumption); have q12 : x5_1 < (a0.size : Int) := of_decide_eq_true (by first | (with_reducible assumption) | assumption); have hx12 := bt_at a0 x5_1; have q12n := q12; replace p12 := eq_true p12; replace q12 := eq_true q12))
                  go_ret
                  exact ⟨by first | rfl | (simp; done) | (simp [*]; done), by repeat (first | exact Drawn0.refl _ | apply Drawn0.step)⟩
            · rw [if_neg c8] at H
              have c8b0 : decide ((wrap64 (a1 + 1)) < x5_1) = false := decide_eq_false c8
              clear c8
              by_cases c15 : (bt a0 x5_1) = 36
              · rw [if_pos c15] at H
                have c15b0 : ((bt a0 x5_1) == 36) = true := beq_iff_eq.mpr c15
                have c15b1 : ((bt a0 x5_1) != 36) = false := bne_eq_false_iff_eq.mpr c15
                clear c15
                obtain rfl := Option.some.inj H
                have p5 : 0 ≤ (x5_1 : Int) := of_decide_eq_true (by first | (with_reducible assumption) | assumption)
                have q5 : x5_1 < (a0.size : Int) := of_decide_eq_true (by first | (with_reducible assumption) | assumption)
                have hx5 := bt_at a0 x5_1
                have q5n := q5
                replace p5 := eq_true p5
                replace q5 := eq_true q5
                go_wp2_with (first | (go_at_call 43; (with_reducible refine (pontoonref04_letter.calls (bt a0 x5_1) false _ A6.out).mono ?_); rintro e w' ⟨rfl, ⟨nd, rfl⟩⟩; have p14 : 0 ≤ (x5_1 : Int) := of_decide_eq_true (by first | (with_reducible assumption) | assumption); have q14 : x5_1 < (a0.size : Int) := of_decide_eq_true (by first | (with_reducible assumption) | assumption); have hx14 := bt_at a0 x5_1; have q14n := q14; replace p14 := eq_true p14; replace q14 := eq_true q14))
                go_ret
                exact ⟨by first | rfl | (simp; done) | (simp [*]; done), by repeat (first | exact Drawn0.refl _ | apply Drawn0.step)⟩
              · rw [if_neg c15] at H
                have c15b0 : ((bt a0 x5_1) == 36) = false := beq_eq_false_iff_ne.mpr c15
                have c15b1 : ((bt a0 x5_1) != 36) = true := bne_iff_ne.mpr c15
                obtain rfl := Option.some.inj H
                have p5 : 0 ≤ (x5_1 : Int) := of_decide_eq_true (by first | (with_reducible assumption) | assumption)
                have q5 : x5_1 < (a0.size : Int) := of_decide_eq_true (by first | (with_reducible assumption) | assumption)
                have hx5 := bt_at a0 x5_1
                have q5n := q5
                replace p5 := eq_true p5
                replace q5 := eq_true q5
                go_wp2_with (first | (go_at_call 43; (with_reducible refine (pontoonref04_letter.calls (bt a0 x5_1) false _ A6.out).mono ?_); rintro e w' ⟨rfl, ⟨nd, rfl⟩⟩; have p14 : 0 ≤ (x5_1 : Int) := of_decide_eq_true (by first | (with_reducible assumption) | assumption); have q14 : x5_1 < (a0.size : Int) := of_decide_eq_true (by first | (with_reducible assumption) | assumption); have hx14 := bt_at a0 x5_1; have q14n := q14; replace p14 := eq_true p14; replace q14 := eq_true q14))
                go_ret
                exact ⟨by first | rfl | (simp; done) | (simp [*]; done), by repeat (first | exact Drawn0.refl _ | apply Drawn0.step)⟩
        · rw [if_neg c4] at H
          exact absurd H (by simp)
      · rw [if_neg c3] at H
        have c3b0 : decide (x5_1 < (a0.size : Int)) = false := decide_eq_false c3
        clear c3
        obtain rfl := Option.some.inj H
        go_wp2
        go_ret
        exact ⟨by first | rfl | (simp; done) | (simp [*]; done), by repeat (first | exact Drawn0.refl _ | apply Drawn0.step)⟩

/-! ### pontoonref04_dollar: function 49 -/
def pontoonref04_dollar.l0 : Nat → ByteArray → Int → Int → Int → Option (ByteArray × Int)
  | 0, _, _, _, _ => none
  | k + 1, x0, x1, x2, x8 => if x8 ≤ (x0.size : Int) then (if 0 ≤ x1 then (if x1 ≤ x2 then (if x2 ≤ (x0.size : Int) then ((pontoonref04_starts.f x0 x8 (x0.extract (x1 : Int).toNat (x2 : Int).toNat)).bind fun t183 => (if t183 = true then (if 0 ≤ x2 then (if x2 ≤ x8 then (some (x0.extract (x2 : Int).toNat (x8 : Int).toNat, wrap64 ((wrap64 (x8 + x2)) - x1))) else (none)) else (none)) else (pontoonref04_dollar.l0 k x0 x1 x2 (wrap64 (x8 + 1))))) else (none)) else (none)) else (none)) else (some ((⟨#[]⟩ : ByteArray), (-1)))
def pontoonref04_dollar.f (k : Nat) (a0 : ByteArray) (a1 : Int) (a2 : Int) : Option (ByteArray × Int) := pontoonref04_dollar.l0 k a0 a1 a2 a2
theorem pontoonref04_dollar.mono_l : ∀ k, (∀ y0 y1 y2 y3, LeO (pontoonref04_dollar.l0 k y0 y1 y2 y3) (pontoonref04_dollar.l0 (k + 1) y0 y1 y2 y3))
  | 0 => fun _ _ _ _ r h => by simp [pontoonref04_dollar.l0] at h
  | k + 1 => by
    have ih0 := pontoonref04_dollar.mono_l k
    · intro y0 y1 y2 y3
      unfold pontoonref04_dollar.l0
      repeat' first
      | (with_reducible exact ih0 _ _ _ _)
      | (with_reducible exact LeO.refl _)
      | (with_reducible exact LeO.none _)
      | (with_reducible refine LeO.ite ?_ ?_)
      | (with_reducible refine LeO.bind ?_ (fun _ => ?_))
      | exact ih0 _ _ _ _
      | exact LeO.none _
      | refine LeO.ite ?_ ?_
      | refine LeO.bind ?_ (fun _ => ?_)
theorem pontoonref04_dollar.mono : ∀ a0 a1 a2 k, LeO (pontoonref04_dollar.f k a0 a1 a2) (pontoonref04_dollar.f (k + 1) a0 a1 a2) := by
  intro a0 a1 a2 k
  have ih0 := pontoonref04_dollar.mono_l k
  unfold pontoonref04_dollar.f
  repeat' first
      | (with_reducible exact ih0 _ _ _ _)
      | (with_reducible exact LeO.refl _)
      | (with_reducible exact LeO.none _)
      | (with_reducible refine LeO.ite ?_ ?_)
      | (with_reducible refine LeO.bind ?_ (fun _ => ?_))
      | exact ih0 _ _ _ _
      | exact LeO.none _
      | refine LeO.ite ?_ ?_
      | refine LeO.bind ?_ (fun _ => ?_)
set_option maxHeartbeats 8000000 in
set_option maxRecDepth 100000 in
theorem pontoonref04_dollar.calls (k : Nat) (a0 : ByteArray) (a1 : Int) (a2 : Int) (r1 : ByteArray) (r2 : Int) (w : World) (h : pontoonref04_dollar.f k a0 a1 a2 = some (r1, r2)) :
    Calls Try.prog 49 #[.string a0, .int .i64 a1, .int .i64 a2] w fun e w' => e = .returned (.tuple #[.string r1, .int .i64 r2]) ∧ Drawn0 w w' := by
  have H : (pontoonref04_dollar.l0 k a0 a1 a2 a2) = some (r1, r2) := h
  clear h
  have H' := Aside0.mk H
  clear H
  go_enter Try.func49, Try.ntmps49
  go_wp2
  go_loopg [8] k (fun kq v8 w' => ∃ (x8_1 : Int), v8 = .int .i64 x8_1 ∧ Aside0 (pontoonref04_dollar.l0 kq a0 a1 a2 x8_1 = some (r1, r2)) ∧ Aside0 (kq ≤ k) ∧ Drawn0 w w')
  case atStart => exact ⟨(a2), (by first | rfl | (simp; done) | (simp [*]; done)), H', ⟨Nat.le_refl _⟩, by repeat (first | exact Drawn0.refl _ | apply Drawn0.step)⟩
  case round =>
    clear H'
    try clear p2
    obtain ⟨x8_1, rfl, HA, HK1, ⟨m1, rfl⟩⟩ := hrel
    cases gk with
    | zero => exact absurd HA.out (by simp [pontoonref04_dollar.l0])
    | succ k1 =>
      have H := HA.out
      clear HA
      simp only [pontoonref04_dollar.l0] at H
      by_cases c4 : x8_1 ≤ (a0.size : Int)
      · rw [if_pos c4] at H
        have c4b0 : decide (x8_1 ≤ (a0.size : Int)) = true := decide_eq_true c4
        clear c4
        by_cases c5 : 0 ≤ a1
        · rw [if_pos c5] at H
          have c5b0 := eq_true c5
          have c5b1 : decide (0 ≤ a1) = true := decide_eq_true c5
          by_cases c6 : a1 ≤ a2
          · rw [if_pos c6] at H
            have c6b0 := eq_true c6
            have c6b1 : decide (a1 ≤ a2) = true := decide_eq_true c6
            by_cases c7 : a2 ≤ (a0.size : Int)
            · rw [if_pos c7] at H
              have c7b0 := eq_true c7
              have c7b1 : decide (a2 ≤ (a0.size : Int)) = true := decide_eq_true c7
              replace H := Option.bind_eq_some_iff.mp H
              obtain ⟨t183, A80, H⟩ := H
              replace H : (if t183 = true then (if 0 ≤ a2 then (if a2 ≤ x8_1 then (some (a0.extract (a2 : Int).toNat (x8_1 : Int).toNat, wrap64 ((wrap64 (x8_1 + a2)) - a1))) else (none)) else (none)) else (pontoonref04_dollar.l0 k1 a0 a1 a2 (wrap64 (x8_1 + 1)))) = some (r1, r2) := H
              have A8 := Aside0.mk A80
              clear A80
              by_cases c9 : t183 = true
              · subst c9
                have H1 : (if 0 ≤ a2 then (if a2 ≤ x8_1 then (some (a0.extract (a2 : Int).toNat (x8_1 : Int).toNat, wrap64 ((wrap64 (x8_1 + a2)) - a1))) else (none)) else (none)) = some (r1, r2) := by rw [if_pos rfl] at H; exact H
                clear H
                have H := H1
                clear H1
                by_cases c10 : 0 ≤ a2
                · rw [if_pos c10] at H
                  have c10b0 := eq_true c10
                  have c10b1 : decide (0 ≤ a2) = true := decide_eq_true c10
                  by_cases c11 : a2 ≤ x8_1
                  · rw [if_pos c11] at H
                    have c11b0 := eq_true c11
                    have c11b1 : decide (a2 ≤ x8_1) = true := decide_eq_true c11
                    have c12b0 := eq_true (of_decide_eq_true (by first | (with_reducible assumption) | assumption) : x8_1 ≤ (a0.size : Int))
                    simp only [Option.some.injEq, Prod.mk.injEq] at H
                    obtain ⟨rfl, rfl⟩ := H
                    go_wp2_with (first | ((with_reducible refine gate_callee (f := 41) rfl ?_); refine goesL_ (some 22) rfl rfl Try.func41 (by kernel_rfl) rfl #[.string a0, .int .i64 x8_1, .string (a0.extract (a1 : Int).toNat (a2 : Int).toNat)] rfl (by (try simp only [List.map_toArray, List.map_cons, List.map_nil]); first | done | rfl | (simp only [List.length_drop, List.length_take]; rfl)) ?_; (with_reducible refine (pontoonref04_starts.calls a0 x8_1 (a0.extract (a1 : Int).toNat (a2 : Int).toNat) true _ A8.out).mono ?_); rintro e w' ⟨rfl, ⟨nd, rfl⟩⟩; refine ⟨_, rfl, ?_⟩))
                    go_ret2
                    exact ⟨by first | rfl | (simp; done) | (simp [*]; done), by repeat (first | exact Drawn0.refl _ | apply Drawn0.step)⟩
                  · rw [if_neg c11] at H
                    exact absurd H (by simp)
                · rw [if_neg c10] at H
                  exact absurd H (by simp)
              · replace c9 := Bool.eq_false_iff.mpr c9
                subst c9
                have H1 : (pontoonref04_dollar.l0 k1 a0 a1 a2 (wrap64 (x8_1 + 1))) = some (r1, r2) := by rw [if_neg (show ¬ (false = true) by decide)] at H; exact H
                clear H
                have H := H1
                clear H1
                have H' := Aside0.mk H
                clear H
                go_wp2_with (first | ((with_reducible refine gate_callee (f := 41) rfl ?_); refine goesL_ (some 22) rfl rfl Try.func41 (by kernel_rfl) rfl #[.string a0, .int .i64 x8_1, .string (a0.extract (a1 : Int).toNat (a2 : Int).toNat)] rfl (by (try simp only [List.map_toArray, List.map_cons, List.map_nil]); first | done | rfl | (simp only [List.length_drop, List.length_take]; rfl)) ?_; (with_reducible refine (pontoonref04_starts.calls a0 x8_1 (a0.extract (a1 : Int).toNat (a2 : Int).toNat) false _ A8.out).mono ?_); rintro e w' ⟨rfl, ⟨nd, rfl⟩⟩; refine ⟨_, rfl, ?_⟩))
                go_roundg k1
                case measure => have := HK1.out; omega
                case rel => exact ⟨(wrap64 (x8_1 + 1)), (by first | rfl | (simp; done) | (simp [*]; done)), H', ⟨by have := HK1.out; omega⟩, by repeat (first | exact Drawn0.refl _ | apply Drawn0.step)⟩
            · rw [if_neg c7] at H
              exact absurd H (by simp)
          · rw [if_neg c6] at H
            exact absurd H (by simp)
        · rw [if_neg c5] at H
          exact absurd H (by simp)
      · rw [if_neg c4] at H
        have c4b0 : decide (x8_1 ≤ (a0.size : Int)) = false := decide_eq_false c4
        clear c4
        simp only [Option.some.injEq, Prod.mk.injEq] at H
        obtain ⟨rfl, rfl⟩ := H
        go_wp2
        go_ret2
        exact ⟨by first | rfl | (simp; done) | (simp [*]; done), by repeat (first | exact Drawn0.refl _ | apply Drawn0.step)⟩

/-! ### pontoonref04_sign: function 50, by hand -/
def pontoonref04_sign.f (a0 : Int) : Option (Bool) := some (signF a0)
theorem pontoonref04_sign.calls (a0 : Int) (r : Bool) (w : World) (h : pontoonref04_sign.f a0 = some r) :
    Calls Try.prog 50 #[.int .u8 a0] w fun e w' => e = .returned (.bool r) ∧ Below w.heap.size w w' := by
  unfold pontoonref04_sign.f at h
  simp only [Option.some.injEq] at h
  subst h
  exact sign_any a0 w

end Go.Proofs.Ytgfppniifjabdaa.Pb
