-- Written by a program of this session's (wip/ext/run.py) over the kit's print, with contracts of its own.
import Derived.Test.YtgfppniifjabdaaPbx0
import Derived.Test.YtgfppniifjabdaaPbx5
import Derived.Test.YtgfppniifjabdaaPbx9
namespace Go.Proofs.Ytgfppniifjabdaa.Pb
open Go Go.Proofs.Ytgfppniifjabdaa Go.RowKit Go.Proofs.YtgfppniifjabdaaW.PrintWords Go.Proofs.YtgfppniifjabdaaW.PrintLast Go.Proofs.YtgfppniifjabdaaW.PrintMore
attribute [local go_sem] max2_int min2_int max_two min_two max_three min_three max_four min_four   -- for this text's walks alone
set_option linter.unusedVariables false
set_option linter.unusedSimpArgs false

/-! ### pontoonlaw05_NormTwice: function 5 -/
def pontoonlaw05_NormTwice.f (k : Nat) (a0 : ByteArray) : Option (Bool) := if (a0.size : Int) > 800 then ((pontoonlaw05_known.f k).bind fun t328 => (some t328)) else ((norm_Form.f k a0).bind fun bt329 => (if bt329.2 = 0 then ((norm_Form.f k bt329.1).bind fun bt331 => (if 9 + a0.size ≤ 9223372036854775807 then (if ((⟨#[32, 47, 42, 32, 114, 32, 42, 47, 32]⟩ : ByteArray) ++ a0).size + 10 ≤ 9223372036854775807 then ((norm_Form.f k (((⟨#[32, 47, 42, 32, 114, 32, 42, 47, 32]⟩ : ByteArray) ++ a0) ++ (⟨#[10, 59, 59, 32, 45, 45, 32, 101, 110, 100]⟩ : ByteArray))).bind fun bt333 => (if (bt329.1.size : Int) > 2000 then (if bt333.2 = 0 then (if bt329.1.toList = bt333.1.toList then ((pontoonlaw05_known.f k).bind fun t335 => (some t335)) else (some false)) else (some false)) else (if bt331.2 = 0 then (if bt329.1.toList = bt331.1.toList then (if bt333.2 = 0 then (if bt329.1.toList = bt333.1.toList then ((pontoonlaw05_known.f k).bind fun t336 => (some t336)) else (some false)) else (some false)) else (some false)) else (some false)))) else (none)) else (none))) else (if bt329.1.toList = ([] : List UInt8) then ((pontoonlaw05_known.f k).bind fun t337 => (some t337)) else (some false))))
theorem pontoonlaw05_NormTwice.mono : ∀ a0 k, LeO (pontoonlaw05_NormTwice.f k a0) (pontoonlaw05_NormTwice.f (k + 1) a0) := by
  intro a0 k
  unfold pontoonlaw05_NormTwice.f
  repeat' first
      | (with_reducible exact norm_Form.mono _ _)
      | (with_reducible exact pontoonlaw05_known.mono _)
      | (with_reducible exact LeO.refl _)
      | (with_reducible exact LeO.none _)
      | (with_reducible refine LeO.ite ?_ ?_)
      | (with_reducible refine LeO.bind ?_ (fun _ => ?_))
      | exact norm_Form.mono _ _
      | exact pontoonlaw05_known.mono _
      | exact LeO.none _
      | refine LeO.ite ?_ ?_
      | refine LeO.bind ?_ (fun _ => ?_)
set_option maxHeartbeats 8000000 in
set_option maxRecDepth 100000 in
theorem pontoonlaw05_NormTwice.calls (k : Nat) (a0 : ByteArray) (r : Bool) (hT_ : r = true) (w : World) (h : pontoonlaw05_NormTwice.f k a0 = some r) :
    Calls Try.prog 5 #[.string a0] w fun e w' => e = .returned (.bool r) ∧ Below w.heap.size w w' := by
  have HB := Aside0.mk (Below.refl w.heap.size w)
  have H : (if (a0.size : Int) > 800 then ((pontoonlaw05_known.f k).bind fun t328 => (some t328)) else ((norm_Form.f k a0).bind fun bt329 => (if bt329.2 = 0 then ((norm_Form.f k bt329.1).bind fun bt331 => (if 9 + a0.size ≤ 9223372036854775807 then (if ((⟨#[32, 47, 42, 32, 114, 32, 42, 47, 32]⟩ : ByteArray) ++ a0).size + 10 ≤ 9223372036854775807 then ((norm_Form.f k (((⟨#[32, 47, 42, 32, 114, 32, 42, 47, 32]⟩ : ByteArray) ++ a0) ++ (⟨#[10, 59, 59, 32, 45, 45, 32, 101, 110, 100]⟩ : ByteArray))).bind fun bt333 => (if (bt329.1.size : Int) > 2000 then (if bt333.2 = 0 then (if bt329.1.toList = bt333.1.toList then ((pontoonlaw05_known.f k).bind fun t335 => (some t335)) else (some false)) else (some false)) else (if bt331.2 = 0 then (if bt329.1.toList = bt331.1.toList then (if bt333.2 = 0 then (if bt329.1.toList = bt333.1.toList then ((pontoonlaw05_known.f k).bind fun t336 => (some t336)) else (some false)) else (some false)) else (some false)) else (some false)))) else (none)) else (none))) else (if bt329.1.toList = ([] : List UInt8) then ((pontoonlaw05_known.f k).bind fun t337 => (some t337)) else (some false))))) = some r := h
  clear h
  by_cases c2 : (a0.size : Int) > 800
  · rw [if_pos c2] at H
    have c2b0 : decide (800 < (a0.size : Int)) = true := decide_eq_true c2
    have c2b1 : decide (800 < a0.size) = true := decide_eq_true (by omega)
    clear c2
    replace H := Option.bind_eq_some_iff.mp H
    obtain ⟨t328, A30, H⟩ := H
    replace H : (some t328) = some r := H
    have A3 := Aside0.mk A30
    clear A30
    obtain rfl := Option.some.inj H
    try clear hT_
    go_enter Try.func5, Try.ntmps5
    go_wp2_with (first | ((with_reducible refine gate_callee (f := 8) rfl ?_); refine goesL_ (some 12) rfl rfl Try.func8 (by kernel_rfl) rfl #[] rfl (by (try simp only [List.map_toArray, List.map_cons, List.map_nil]); first | done | rfl | (simp only [List.length_drop, List.length_take]; rfl)) ?_; (with_reducible refine (pontoonlaw05_known.calls k  t328 _ A3.out).mono ?_); rintro e w4 ⟨rfl, hb⟩; refine ⟨_, rfl, ?_⟩; have n0_ := Aside0.mk (below_step (by repeat (first | (with_reducible first | exact HB.out | apply below_alloc | apply pw_below_drewN | apply below_drew1) | exact HB.out)) hb); clear HB; have HB := n0_; clear n0_; (try clear hb); (try clear hb2); (try clear hk); (try clear hi)))
    go_ret
    exact ⟨by first | rfl | (simp [errW_none, errW_some] <;> rfl) | (simp [*, errW_none, errW_some] <;> rfl), by repeat (first | (with_reducible first | exact HB.out | apply below_alloc | apply pw_below_drewN | apply below_drew1) | exact HB.out)⟩
  · rw [if_neg c2] at H
    have c2b0 : decide (800 < (a0.size : Int)) = false := decide_eq_false c2
    have c2b1 : decide (800 < a0.size) = false := decide_eq_false (by omega)
    clear c2
    replace H := Option.bind_eq_some_iff.mp H
    obtain ⟨⟨t329, t330⟩, A50, H⟩ := H
    replace H : (if t330 = 0 then ((norm_Form.f k t329).bind fun bt331 => (if 9 + a0.size ≤ 9223372036854775807 then (if ((⟨#[32, 47, 42, 32, 114, 32, 42, 47, 32]⟩ : ByteArray) ++ a0).size + 10 ≤ 9223372036854775807 then ((norm_Form.f k (((⟨#[32, 47, 42, 32, 114, 32, 42, 47, 32]⟩ : ByteArray) ++ a0) ++ (⟨#[10, 59, 59, 32, 45, 45, 32, 101, 110, 100]⟩ : ByteArray))).bind fun bt333 => (if (t329.size : Int) > 2000 then (if bt333.2 = 0 then (if t329.toList = bt333.1.toList then ((pontoonlaw05_known.f k).bind fun t335 => (some t335)) else (some false)) else (some false)) else (if bt331.2 = 0 then (if t329.toList = bt331.1.toList then (if bt333.2 = 0 then (if t329.toList = bt333.1.toList then ((pontoonlaw05_known.f k).bind fun t336 => (some t336)) else (some false)) else (some false)) else (some false)) else (some false)))) else (none)) else (none))) else (if t329.toList = ([] : List UInt8) then ((pontoonlaw05_known.f k).bind fun t337 => (some t337)) else (some false))) = some r := H
    have A5 := Aside0.mk A50
    clear A50
    by_cases c6 : t330 = 0
    · rw [if_pos c6] at H
      have c6b0 : (t330 == 0) = true := beq_iff_eq.mpr c6
      have c6b1 : (t330 != 0) = false := bne_eq_false_iff_eq.mpr c6
      clear c6
      replace H := Option.bind_eq_some_iff.mp H
      obtain ⟨⟨t331, t332⟩, A70, H⟩ := H
      replace H : (if 9 + a0.size ≤ 9223372036854775807 then (if ((⟨#[32, 47, 42, 32, 114, 32, 42, 47, 32]⟩ : ByteArray) ++ a0).size + 10 ≤ 9223372036854775807 then ((norm_Form.f k (((⟨#[32, 47, 42, 32, 114, 32, 42, 47, 32]⟩ : ByteArray) ++ a0) ++ (⟨#[10, 59, 59, 32, 45, 45, 32, 101, 110, 100]⟩ : ByteArray))).bind fun bt333 => (if (t329.size : Int) > 2000 then (if bt333.2 = 0 then (if t329.toList = bt333.1.toList then ((pontoonlaw05_known.f k).bind fun t335 => (some t335)) else (some false)) else (some false)) else (if t332 = 0 then (if t329.toList = t331.toList then (if bt333.2 = 0 then (if t329.toList = bt333.1.toList then ((pontoonlaw05_known.f k).bind fun t336 => (some t336)) else (some false)) else (some false)) else (some false)) else (some false)))) else (none)) else (none)) = some r := H
      have A7 := Aside0.mk A70
      clear A70
      by_cases c8 : 9 + a0.size ≤ 9223372036854775807
      · rw [if_pos c8] at H
        have c8b0 := eq_true c8
        have c8b1 : decide (9 + a0.size ≤ 9223372036854775807) = true := decide_eq_true c8
        try have c8b2 : (9223372036854775807 < 9 + a0.size) = False := eq_false (Nat.not_lt.2 c8)
        try (have c8b3 := c8; simp [ByteArray.size_extract] at c8b3)
        by_cases c9 : ((⟨#[32, 47, 42, 32, 114, 32, 42, 47, 32]⟩ : ByteArray) ++ a0).size + 10 ≤ 9223372036854775807
        · rw [if_pos c9] at H
          have c9b0 := eq_true c9
          have c9b1 : decide (((⟨#[32, 47, 42, 32, 114, 32, 42, 47, 32]⟩ : ByteArray) ++ a0).size + 10 ≤ 9223372036854775807) = true := decide_eq_true c9
          try have c9b2 : (9223372036854775807 < ((⟨#[32, 47, 42, 32, 114, 32, 42, 47, 32]⟩ : ByteArray) ++ a0).size + 10) = False := eq_false (Nat.not_lt.2 c9)
          try (have c9b3 := c9; simp [ByteArray.size_extract] at c9b3)
          have c9b4 : (9223372036854775807 < 9 + a0.size + 10) = False := eq_false (by have z_ : ((⟨#[32, 47, 42, 32, 114, 32, 42, 47, 32]⟩ : ByteArray) ++ a0).size = 9 + a0.size := ByteArray.size_append; omega)
          replace H := Option.bind_eq_some_iff.mp H
          obtain ⟨⟨t333, t334⟩, A100, H⟩ := H
          replace H : (if (t329.size : Int) > 2000 then (if t334 = 0 then (if t329.toList = t333.toList then ((pontoonlaw05_known.f k).bind fun t335 => (some t335)) else (some false)) else (some false)) else (if t332 = 0 then (if t329.toList = t331.toList then (if t334 = 0 then (if t329.toList = t333.toList then ((pontoonlaw05_known.f k).bind fun t336 => (some t336)) else (some false)) else (some false)) else (some false)) else (some false))) = some r := H
          have A10 := Aside0.mk A100
          clear A100
          by_cases c11 : (t329.size : Int) > 2000
          · rw [if_pos c11] at H
            have c11b0 : decide (2000 < (t329.size : Int)) = true := decide_eq_true c11
            have c11b1 : decide (2000 < t329.size) = true := decide_eq_true (by omega)
            clear c11
            by_cases c12 : t334 = 0
            · rw [if_pos c12] at H
              have c12b0 : (t334 == 0) = true := beq_iff_eq.mpr c12
              have c12b1 : (t334 != 0) = false := bne_eq_false_iff_eq.mpr c12
              clear c12
              by_cases c13 : t329.toList = t333.toList
              · rw [if_pos c13] at H
                have c13b0 : (t329.toList == t333.toList) = true := beq_iff_eq.mpr c13
                have c13b1 : (t329.toList != t333.toList) = false := bne_eq_false_iff_eq.mpr c13
                clear c13
                replace H := Option.bind_eq_some_iff.mp H
                obtain ⟨t335, A140, H⟩ := H
                replace H : (some t335) = some r := H
                have A14 := Aside0.mk A140
                clear A140
                obtain rfl := Option.some.inj H
                try clear hT_
                go_enter Try.func5, Try.ntmps5
                go_wp2_with (first | ((with_reducible refine gate_callee (f := 9) rfl ?_); refine goesL_ (some 15) rfl rfl Try.func9 (by kernel_rfl) rfl #[.string a0] rfl (by (try simp only [List.map_toArray, List.map_cons, List.map_nil]); first | done | rfl | (simp only [List.length_drop, List.length_take]; rfl)) ?_; (with_reducible refine (norm_Form.calls k a0 t329 t330 _ A5.out).mono ?_); rintro e w15 ⟨rfl, hb⟩; refine ⟨_, rfl, ?_⟩; have n0_ := Aside0.mk (below_step (by repeat (first | (with_reducible first | exact HB.out | apply below_alloc | apply pw_below_drewN | apply below_drew1) | exact HB.out)) hb); clear HB; have HB := n0_; clear n0_; (try clear hb); (try clear hb2); (try clear hk); (try clear hi)) | ((with_reducible refine gate_callee (f := 9) rfl ?_); refine goesL_ (some 27) rfl rfl Try.func9 (by kernel_rfl) rfl #[.string t329] rfl (by (try simp only [List.map_toArray, List.map_cons, List.map_nil]); first | done | rfl | (simp only [List.length_drop, List.length_take]; rfl)) ?_; (with_reducible refine (norm_Form.calls k t329 t331 t332 _ A7.out).mono ?_); rintro e w16 ⟨rfl, hb⟩; refine ⟨_, rfl, ?_⟩; have n0_ := Aside0.mk (below_step (by repeat (first | (with_reducible first | exact HB.out | apply below_alloc | apply pw_below_drewN | apply below_drew1) | exact HB.out)) hb); clear HB; have HB := n0_; clear n0_; (try clear hb); (try clear hb2); (try clear hk); (try clear hi)) | ((with_reducible refine gate_callee (f := 9) rfl ?_); refine goesL_ (some 34) rfl rfl Try.func9 (by kernel_rfl) rfl #[.string (((⟨#[32, 47, 42, 32, 114, 32, 42, 47, 32]⟩ : ByteArray) ++ a0) ++ (⟨#[10, 59, 59, 32, 45, 45, 32, 101, 110, 100]⟩ : ByteArray))] rfl (by (try simp only [List.map_toArray, List.map_cons, List.map_nil]); first | done | rfl | (simp only [List.length_drop, List.length_take]; rfl)) ?_; (with_reducible refine (norm_Form.calls k (((⟨#[32, 47, 42, 32, 114, 32, 42, 47, 32]⟩ : ByteArray) ++ a0) ++ (⟨#[10, 59, 59, 32, 45, 45, 32, 101, 110, 100]⟩ : ByteArray)) t333 t334 _ A10.out).mono ?_); rintro e w17 ⟨rfl, hb⟩; refine ⟨_, rfl, ?_⟩; have n0_ := Aside0.mk (below_step (by repeat (first | (with_reducible first | exact HB.out | apply below_alloc | apply pw_below_drewN | apply below_drew1) | exact HB.out)) hb); clear HB; have HB := n0_; clear n0_; (try clear hb); (try clear hb2); (try clear hk); (try clear hi)) | (go_at_call 8; (with_reducible refine (pontoonlaw05_known.calls k  t335 _ A14.out).mono ?_); rintro e w18 ⟨rfl, hb⟩; have n0_ := Aside0.mk (below_step (by repeat (first | (with_reducible first | exact HB.out | apply below_alloc | apply pw_below_drewN | apply below_drew1) | exact HB.out)) hb); clear HB; have HB := n0_; clear n0_; (try clear hb); (try clear hb2); (try clear hk); (try clear hi)))
                go_ret
                exact ⟨by first | rfl | (simp [errW_none, errW_some] <;> rfl) | (simp [*, errW_none, errW_some] <;> rfl), by repeat (first | (with_reducible first | exact HB.out | apply below_alloc | apply pw_below_drewN | apply below_drew1) | exact HB.out)⟩
              · rw [if_neg c13] at H
                rw [hT_] at H
                cases H
            · rw [if_neg c12] at H
              rw [hT_] at H
              cases H
          · rw [if_neg c11] at H
            have c11b0 : decide (2000 < (t329.size : Int)) = false := decide_eq_false c11
            have c11b1 : decide (2000 < t329.size) = false := decide_eq_false (by omega)
            clear c11
            by_cases c25 : t332 = 0
            · rw [if_pos c25] at H
              have c25b0 : (t332 == 0) = true := beq_iff_eq.mpr c25
              have c25b1 : (t332 != 0) = false := bne_eq_false_iff_eq.mpr c25
              clear c25
              by_cases c26 : t329.toList = t331.toList
              · rw [if_pos c26] at H
                have c26b0 : (t329.toList == t331.toList) = true := beq_iff_eq.mpr c26
                have c26b1 : (t329.toList != t331.toList) = false := bne_eq_false_iff_eq.mpr c26
                clear c26
                by_cases c27 : t334 = 0
                · rw [if_pos c27] at H
                  have c27b0 : (t334 == 0) = true := beq_iff_eq.mpr c27
                  have c27b1 : (t334 != 0) = false := bne_eq_false_iff_eq.mpr c27
                  clear c27
                  by_cases c28 : t329.toList = t333.toList
                  · rw [if_pos c28] at H
                    have c28b0 : (t329.toList == t333.toList) = true := beq_iff_eq.mpr c28
                    have c28b1 : (t329.toList != t333.toList) = false := bne_eq_false_iff_eq.mpr c28
                    clear c28
                    replace H := Option.bind_eq_some_iff.mp H
                    obtain ⟨t336, A290, H⟩ := H
                    replace H : (some t336) = some r := H
                    have A29 := Aside0.mk A290
                    clear A290
                    obtain rfl := Option.some.inj H
                    try clear hT_
                    go_enter Try.func5, Try.ntmps5
                    go_wp2_with (first | ((with_reducible refine gate_callee (f := 9) rfl ?_); refine goesL_ (some 15) rfl rfl Try.func9 (by kernel_rfl) rfl #[.string a0] rfl (by (try simp only [List.map_toArray, List.map_cons, List.map_nil]); first | done | rfl | (simp only [List.length_drop, List.length_take]; rfl)) ?_; (with_reducible refine (norm_Form.calls k a0 t329 t330 _ A5.out).mono ?_); rintro e w30 ⟨rfl, hb⟩; refine ⟨_, rfl, ?_⟩; have n0_ := Aside0.mk (below_step (by repeat (first | (with_reducible first | exact HB.out | apply below_alloc | apply pw_below_drewN | apply below_drew1) | exact HB.out)) hb); clear HB; have HB := n0_; clear n0_; (try clear hb); (try clear hb2); (try clear hk); (try clear hi)) | ((with_reducible refine gate_callee (f := 9) rfl ?_); refine goesL_ (some 27) rfl rfl Try.func9 (by kernel_rfl) rfl #[.string t329] rfl (by (try simp only [List.map_toArray, List.map_cons, List.map_nil]); first | done | rfl | (simp only [List.length_drop, List.length_take]; rfl)) ?_; (with_reducible refine (norm_Form.calls k t329 t331 t332 _ A7.out).mono ?_); rintro e w31 ⟨rfl, hb⟩; refine ⟨_, rfl, ?_⟩; have n0_ := Aside0.mk (below_step (by repeat (first | (with_reducible first | exact HB.out | apply below_alloc | apply pw_below_drewN | apply below_drew1) | exact HB.out)) hb); clear HB; have HB := n0_; clear n0_; (try clear hb); (try clear hb2); (try clear hk); (try clear hi)) | ((with_reducible refine gate_callee (f := 9) rfl ?_); refine goesL_ (some 34) rfl rfl Try.func9 (by kernel_rfl) rfl #[.string (((⟨#[32, 47, 42, 32, 114, 32, 42, 47, 32]⟩ : ByteArray) ++ a0) ++ (⟨#[10, 59, 59, 32, 45, 45, 32, 101, 110, 100]⟩ : ByteArray))] rfl (by (try simp only [List.map_toArray, List.map_cons, List.map_nil]); first | done | rfl | (simp only [List.length_drop, List.length_take]; rfl)) ?_; (with_reducible refine (norm_Form.calls k (((⟨#[32, 47, 42, 32, 114, 32, 42, 47, 32]⟩ : ByteArray) ++ a0) ++ (⟨#[10, 59, 59, 32, 45, 45, 32, 101, 110, 100]⟩ : ByteArray)) t333 t334 _ A10.out).mono ?_); rintro e w32 ⟨rfl, hb⟩; refine ⟨_, rfl, ?_⟩; have n0_ := Aside0.mk (below_step (by repeat (first | (with_reducible first | exact HB.out | apply below_alloc | apply pw_below_drewN | apply below_drew1) | exact HB.out)) hb); clear HB; have HB := n0_; clear n0_; (try clear hb); (try clear hb2); (try clear hk); (try clear hi)) | (go_at_call 8; (with_reducible refine (pontoonlaw05_known.calls k  t336 _ A29.out).mono ?_); rintro e w33 ⟨rfl, hb⟩; have n0_ := Aside0.mk (below_step (by repeat (first | (with_reducible first | exact HB.out | apply below_alloc | apply pw_below_drewN | apply below_drew1) | exact HB.out)) hb); clear HB; have HB := n0_; clear n0_; (try clear hb); (try clear hb2); (try clear hk); (try clear hi)))
                    go_ret
                    exact ⟨by first | rfl | (simp [errW_none, errW_some] <;> rfl) | (simp [*, errW_none, errW_some] <;> rfl), by repeat (first | (with_reducible first | exact HB.out | apply below_alloc | apply pw_below_drewN | apply below_drew1) | exact HB.out)⟩
                  · rw [if_neg c28] at H
                    rw [hT_] at H
                    cases H
                · rw [if_neg c27] at H
                  rw [hT_] at H
                  cases H
              · rw [if_neg c26] at H
                rw [hT_] at H
                cases H
            · rw [if_neg c25] at H
              rw [hT_] at H
              cases H
        · rw [if_neg c9] at H
          exact absurd H (by simp)
      · rw [if_neg c8] at H
        exact absurd H (by simp)
    · rw [if_neg c6] at H
      have c6b0 : (t330 == 0) = false := beq_eq_false_iff_ne.mpr c6
      have c6b1 : (t330 != 0) = true := bne_iff_ne.mpr c6
      by_cases c46 : t329.toList = ([] : List UInt8)
      · rw [if_pos c46] at H
        have c46b0 : (t329.toList == ([] : List UInt8)) = true := beq_iff_eq.mpr c46
        have c46b1 : (t329.toList != ([] : List UInt8)) = false := bne_eq_false_iff_eq.mpr c46
        clear c46
        replace H := Option.bind_eq_some_iff.mp H
        obtain ⟨t337, A470, H⟩ := H
        replace H : (some t337) = some r := H
        have A47 := Aside0.mk A470
        clear A470
        obtain rfl := Option.some.inj H
        try clear hT_
        go_enter Try.func5, Try.ntmps5
        go_wp2_with (first | ((with_reducible refine gate_callee (f := 9) rfl ?_); refine goesL_ (some 15) rfl rfl Try.func9 (by kernel_rfl) rfl #[.string a0] rfl (by (try simp only [List.map_toArray, List.map_cons, List.map_nil]); first | done | rfl | (simp only [List.length_drop, List.length_take]; rfl)) ?_; (with_reducible refine (norm_Form.calls k a0 t329 t330 _ A5.out).mono ?_); rintro e w48 ⟨rfl, hb⟩; refine ⟨_, rfl, ?_⟩; have n0_ := Aside0.mk (below_step (by repeat (first | (with_reducible first | exact HB.out | apply below_alloc | apply pw_below_drewN | apply below_drew1) | exact HB.out)) hb); clear HB; have HB := n0_; clear n0_; (try clear hb); (try clear hb2); (try clear hk); (try clear hi)) | (go_at_call 8; (with_reducible refine (pontoonlaw05_known.calls k  t337 _ A47.out).mono ?_); rintro e w49 ⟨rfl, hb⟩; have n0_ := Aside0.mk (below_step (by repeat (first | (with_reducible first | exact HB.out | apply below_alloc | apply pw_below_drewN | apply below_drew1) | exact HB.out)) hb); clear HB; have HB := n0_; clear n0_; (try clear hb); (try clear hb2); (try clear hk); (try clear hi)))
        go_ret
        exact ⟨by first | rfl | (simp [errW_none, errW_some] <;> rfl) | (simp [*, errW_none, errW_some] <;> rfl), by repeat (first | (with_reducible first | exact HB.out | apply below_alloc | apply pw_below_drewN | apply below_drew1) | exact HB.out)⟩
      · rw [if_neg c46] at H
        rw [hT_] at H
        cases H

/-- THE ONE PURE STATEMENT of pontoonlaw05_NormTwice: yours. -/
def pontoonlaw05_NormTwice.Pure : Prop := ∀ (a0 : ByteArray), a0.size ≤ 140737488351232 → ∃ k, pontoonlaw05_NormTwice.f k a0 = some true

end Go.Proofs.Ytgfppniifjabdaa.Pb
