-- Written by a program of this session's (wip/ext/run.py) over the kit's print, with contracts of its own.
import Derived.Test.YtgfppniifjabdaaPbx0
import Derived.Test.YtgfppniifjabdaaPbx5
import Derived.Test.YtgfppniifjabdaaPbx9
import Derived.Test.YtgfppniifjabdaaPbS
namespace Go.Proofs.Ytgfppniifjabdaa.Pb
open Go Go.Proofs.Ytgfppniifjabdaa Go.RowKit Go.Proofs.YtgfppniifjabdaaW.PrintWords Go.Proofs.YtgfppniifjabdaaW.PrintLast Go.Proofs.YtgfppniifjabdaaW.PrintMore
attribute [local go_sem] max2_int min2_int max_two min_two max_three min_three max_four min_four   -- for this text's walks alone
set_option linter.unusedVariables false
set_option linter.unusedSimpArgs false

/-! ### pontoonlaw05_NormFilled: function 6 -/
def pontoonlaw05_NormFilled.j0 : Nat → ByteArray → List ByteArray → Bool → Option (Bool)
  | 0, _, _, _ => none
  | k + 1, x0, x1, x18 => if x18 = true then ((pontoonlaw05_known.f k).bind fun t338 => (some t338)) else ((pontoonref04_Scan.f k x0).bind fun bt339 => (if 0 ≤ (x1.length : Int) then (if ((x1.length : Int) : Int).toNat ≤ 281474976710656 then ((norm_Fill.f k bt339.1 x1 (List.replicate ((x1.length : Int) : Int).toNat false)).bind fun bt347 => (if bt347.2 = 0 then (if (bt347.1.length : Int) = (bt339.1.length : Int) then ((norm_Binds.f k bt347.1).bind fun t352 => (if t352 = 0 then ((norm_Binds.f k bt339.1).bind fun t353 => (if t353 ≤ (x1.length : Int) then ((norm_Binds.f k bt339.1).bind fun t354 => (if t354 > 0 then ((pontoonlaw05_known.f k).bind fun t355 => (some t355)) else ((pontoonref04_Same.f k bt339.1 bt347.1 true).bind fun t356 => (if t356 = true then ((pontoonlaw05_known.f k).bind fun t357 => (some t357)) else (some false))))) else (some false))) else (some false))) else (some false)) else (if (bt347.1.length : Int) = 0 then ((pontoonlaw05_known.f k).bind fun t351 => (some t351)) else (some false)))) else (none)) else (none)))
def pontoonlaw05_NormFilled.f (k : Nat) (a0 : ByteArray) (l1 : List ByteArray) : Option (Bool) := if (a0.size : Int) > 800 then (pontoonlaw05_NormFilled.j0 k a0 l1 true) else (pontoonlaw05_NormFilled.j0 k a0 l1 (decide ((l1.length : Int) > 20)))
theorem pontoonlaw05_NormFilled.mono_l : ∀ k, (∀ y0 y1 y2, LeO (pontoonlaw05_NormFilled.j0 k y0 y1 y2) (pontoonlaw05_NormFilled.j0 (k + 1) y0 y1 y2))
  | 0 => fun _ _ _ r h => by simp [pontoonlaw05_NormFilled.j0] at h
  | k + 1 => by
    have ih0 := pontoonlaw05_NormFilled.mono_l k
    · intro y0 y1 y2
      unfold pontoonlaw05_NormFilled.j0
      repeat' first
      | (with_reducible exact ih0 _ _ _)
      | (with_reducible exact norm_Binds.mono _ _)
      | (with_reducible exact norm_Fill.mono _ _ _ _)
      | (with_reducible exact pontoonlaw05_known.mono _)
      | (with_reducible exact pontoonref04_Same.mono _ _ _ _)
      | (with_reducible exact pontoonref04_Scan.mono _ _)
      | (with_reducible exact LeO.refl _)
      | (with_reducible exact LeO.none _)
      | (with_reducible refine LeO.ite ?_ ?_)
      | (with_reducible refine LeO.bind ?_ (fun _ => ?_))
      | exact ih0 _ _ _
      | exact norm_Binds.mono _ _
      | exact norm_Fill.mono _ _ _ _
      | exact pontoonlaw05_known.mono _
      | exact pontoonref04_Same.mono _ _ _ _
      | exact pontoonref04_Scan.mono _ _
      | exact LeO.none _
      | refine LeO.ite ?_ ?_
      | refine LeO.bind ?_ (fun _ => ?_)
theorem pontoonlaw05_NormFilled.mono : ∀ a0 a1 k, LeO (pontoonlaw05_NormFilled.f k a0 a1) (pontoonlaw05_NormFilled.f (k + 1) a0 a1) := by
  intro a0 a1 k
  have ih0 := pontoonlaw05_NormFilled.mono_l k
  unfold pontoonlaw05_NormFilled.f
  repeat' first
      | (with_reducible exact ih0 _ _ _)
      | (with_reducible exact norm_Binds.mono _ _)
      | (with_reducible exact norm_Fill.mono _ _ _ _)
      | (with_reducible exact pontoonlaw05_known.mono _)
      | (with_reducible exact pontoonref04_Same.mono _ _ _ _)
      | (with_reducible exact pontoonref04_Scan.mono _ _)
      | (with_reducible exact LeO.refl _)
      | (with_reducible exact LeO.none _)
      | (with_reducible refine LeO.ite ?_ ?_)
      | (with_reducible refine LeO.bind ?_ (fun _ => ?_))
      | exact ih0 _ _ _
      | exact norm_Binds.mono _ _
      | exact norm_Fill.mono _ _ _ _
      | exact pontoonlaw05_known.mono _
      | exact pontoonref04_Same.mono _ _ _ _
      | exact pontoonref04_Scan.mono _ _
      | exact LeO.none _
      | refine LeO.ite ?_ ?_
      | refine LeO.bind ?_ (fun _ => ?_)
set_option maxHeartbeats 8000000 in
set_option maxRecDepth 100000 in
theorem pontoonlaw05_NormFilled.calls (k : Nat) (a0 : ByteArray) (A1 : Option Addr) (c1 : Nat) (l1 : List ByteArray) (r : Bool) (hT_ : r = true) (w : World) (hr1 : Kd.C Kd.string w A1 l1.length l1) (hc1 : l1.length ≤ c1) (h : pontoonlaw05_NormFilled.f k a0 l1 = some r) :
    Calls Try.prog 6 #[.string a0, .slice A1 l1.length c1] w fun e w' => e = .returned (.bool r) ∧ Below w.heap.size w w' := by
  have HR1 := Aside0.mk hr1
  have HC1 := Aside0.mk hc1
  clear hr1 hc1
  have HB := Aside0.mk (Below.refl w.heap.size w)
  have H : (if (a0.size : Int) > 800 then (pontoonlaw05_NormFilled.j0 k a0 l1 true) else (pontoonlaw05_NormFilled.j0 k a0 l1 (decide ((l1.length : Int) > 20)))) = some r := h
  clear h
  have HC3 := Aside0.mk H
  clear H
  go_enter Try.func6, Try.ntmps6
  go_upto_region 1 with (fail)
  go_cut [18] (fun v18 wc => ∃ (kq : Nat) (x18_2 : Bool), v18 = .bool x18_2 ∧ Aside0 (pontoonlaw05_NormFilled.j0 kq a0 l1 x18_2 = some r) ∧ Aside0 (kq ≤ k) ∧ Aside0 (Below w.heap.size w wc))
  case first =>
    have H := HC3.out
    clear HC3
    by_cases c4 : (a0.size : Int) > 800
    · rw [if_pos c4] at H
      have c4b0 : decide (800 < (a0.size : Int)) = true := decide_eq_true c4
      have c4b1 : decide (800 < a0.size) = true := decide_eq_true (by omega)
      clear c4
      (first | rw [c4b0] | (simp only [i64_w, i32_w]; rw [c4b0]) | skip)
      have H' := Aside0.mk H
      clear H
      go_wp2
      go_meet
      case rel => exact ⟨_, (true), (by first | rfl | (simp; done) | (simp [*]; done)), H', ⟨by first | omega | exact Nat.le_refl _⟩, ⟨by repeat (first | (with_reducible first | exact HB.out | apply below_alloc | apply pw_below_drewN | apply below_drew1) | exact HB.out)⟩⟩
    · rw [if_neg c4] at H
      have c4b0 : decide (800 < (a0.size : Int)) = false := decide_eq_false c4
      have c4b1 : decide (800 < a0.size) = false := decide_eq_false (by omega)
      clear c4
      (first | rw [c4b0] | (simp only [i64_w, i32_w]; rw [c4b0]) | skip)
      have H' := Aside0.mk H
      clear H
      go_wp2
      go_meet
      case rel => exact ⟨_, (decide ((l1.length : Int) > 20)), (by first | rfl | (simp; done) | (simp [*]; done)), H', ⟨by first | omega | exact Nat.le_refl _⟩, ⟨by repeat (first | (with_reducible first | exact HB.out | apply below_alloc | apply pw_below_drewN | apply below_drew1) | exact HB.out)⟩⟩
  case rest =>
    clear HC3
    try clear c1
    try clear p2
    try clear c4
    try clear c4b0
    try clear c4b1
    obtain ⟨kq, x18_2, rfl, HA, HJ2, HB⟩ := hcut
    cases kq with
    | zero => exact absurd HA.out (by simp [pontoonlaw05_NormFilled.j0])
    | succ kj2 =>
      have H := HA.out
      clear HA
      simp only [pontoonlaw05_NormFilled.j0] at H
      by_cases c5 : x18_2 = true
      · subst c5
        have H1 : ((pontoonlaw05_known.f kj2).bind fun t338 => (some t338)) = some r := by rw [if_pos rfl] at H; exact H
        clear H
        have H := H1
        clear H1
        replace H := Option.bind_eq_some_iff.mp H
        obtain ⟨t338, A60, H⟩ := H
        replace H : (some t338) = some r := H
        have A6 := Aside0.mk A60
        clear A60
        obtain rfl := Option.some.inj H
        try clear hT_
        go_wp2_with (first | ((with_reducible refine gate_callee (f := 8) rfl ?_); refine goesL_ (some 19) rfl rfl Try.func8 (by kernel_rfl) rfl #[] rfl (by (try simp only [List.map_toArray, List.map_cons, List.map_nil]); first | done | rfl | (simp only [List.length_drop, List.length_take]; rfl)) ?_; (with_reducible refine (pontoonlaw05_known.calls kj2  t338 _ A6.out).mono ?_); rintro e w7 ⟨rfl, hb⟩; refine ⟨_, rfl, ?_⟩; have n0_ := Aside0.mk (below_step (by repeat (first | (with_reducible first | exact HB.out | apply below_alloc | apply pw_below_drewN | apply below_drew1) | exact HB.out)) hb); clear HB; have HB := n0_; clear n0_; (try clear hb); (try clear hb2); (try clear hk); (try clear hi)))
        go_ret
        exact ⟨by first | rfl | (simp [errW_none, errW_some] <;> rfl) | (simp [*, errW_none, errW_some] <;> rfl), by repeat (first | (with_reducible first | exact HB.out | apply below_alloc | apply pw_below_drewN | apply below_drew1) | exact HB.out)⟩
      · replace c5 := Bool.eq_false_iff.mpr c5
        subst c5
        have H1 : ((pontoonref04_Scan.f kj2 a0).bind fun bt339 => (if 0 ≤ (l1.length : Int) then (if ((l1.length : Int) : Int).toNat ≤ 281474976710656 then ((norm_Fill.f kj2 bt339.1 l1 (List.replicate ((l1.length : Int) : Int).toNat false)).bind fun bt347 => (if bt347.2 = 0 then (if (bt347.1.length : Int) = (bt339.1.length : Int) then ((norm_Binds.f kj2 bt347.1).bind fun t352 => (if t352 = 0 then ((norm_Binds.f kj2 bt339.1).bind fun t353 => (if t353 ≤ (l1.length : Int) then ((norm_Binds.f kj2 bt339.1).bind fun t354 => (if t354 > 0 then ((pontoonlaw05_known.f kj2).bind fun t355 => (some t355)) else ((pontoonref04_Same.f kj2 bt339.1 bt347.1 true).bind fun t356 => (if t356 = true then ((pontoonlaw05_known.f kj2).bind fun t357 => (some t357)) else (some false))))) else (some false))) else (some false))) else (some false)) else (if (bt347.1.length : Int) = 0 then ((pontoonlaw05_known.f kj2).bind fun t351 => (some t351)) else (some false)))) else (none)) else (none))) = some r := by rw [if_neg (show ¬ (false = true) by decide)] at H; exact H
        clear H
        have H := H1
        clear H1
        replace H := Option.bind_eq_some_iff.mp H
        obtain ⟨⟨t339, t340, t341⟩, A80, H⟩ := H
        replace H : (if 0 ≤ (l1.length : Int) then (if ((l1.length : Int) : Int).toNat ≤ 281474976710656 then ((norm_Fill.f kj2 t339 l1 (List.replicate ((l1.length : Int) : Int).toNat false)).bind fun bt347 => (if bt347.2 = 0 then (if (bt347.1.length : Int) = (t339.length : Int) then ((norm_Binds.f kj2 bt347.1).bind fun t352 => (if t352 = 0 then ((norm_Binds.f kj2 t339).bind fun t353 => (if t353 ≤ (l1.length : Int) then ((norm_Binds.f kj2 t339).bind fun t354 => (if t354 > 0 then ((pontoonlaw05_known.f kj2).bind fun t355 => (some t355)) else ((pontoonref04_Same.f kj2 t339 bt347.1 true).bind fun t356 => (if t356 = true then ((pontoonlaw05_known.f kj2).bind fun t357 => (some t357)) else (some false))))) else (some false))) else (some false))) else (some false)) else (if (bt347.1.length : Int) = 0 then ((pontoonlaw05_known.f kj2).bind fun t351 => (some t351)) else (some false)))) else (none)) else (none)) = some r := H
        have A8 := Aside0.mk A80
        clear A80
        by_cases c9 : 0 ≤ (l1.length : Int)
        · rw [if_pos c9] at H
          have c9b0 := eq_true c9
          have c9b1 : decide (0 ≤ (l1.length : Int)) = true := decide_eq_true c9
          by_cases c10 : ((l1.length : Int) : Int).toNat ≤ 281474976710656
          · rw [if_pos c10] at H
            have c10b0 := eq_true c10
            have c10b1 : decide (((l1.length : Int) : Int).toNat ≤ 281474976710656) = true := decide_eq_true c10
            obtain ⟨y344, hy344⟩ : ∃ y_ : List Bool, y_ = (List.replicate ((l1.length : Int) : Int).toNat false) := ⟨_, rfl⟩
            replace H : ((norm_Fill.f kj2 t339 l1 y344).bind fun bt347 => (if bt347.2 = 0 then (if (bt347.1.length : Int) = (t339.length : Int) then ((norm_Binds.f kj2 bt347.1).bind fun t352 => (if t352 = 0 then ((norm_Binds.f kj2 t339).bind fun t353 => (if t353 ≤ (l1.length : Int) then ((norm_Binds.f kj2 t339).bind fun t354 => (if t354 > 0 then ((pontoonlaw05_known.f kj2).bind fun t355 => (some t355)) else ((pontoonref04_Same.f kj2 t339 bt347.1 true).bind fun t356 => (if t356 = true then ((pontoonlaw05_known.f kj2).bind fun t357 => (some t357)) else (some false))))) else (some false))) else (some false))) else (some false)) else (if (bt347.1.length : Int) = 0 then ((pontoonlaw05_known.f kj2).bind fun t351 => (some t351)) else (some false)))) = some r := by first | (rw [hy344]; with_reducible exact H) | (have H2_ := (Option.bind_some _ _).symm.trans H; rw [hy344]; with_reducible exact H2_) | (have H2_ := (Option.bind_some _ _).symm.trans H; with_reducible exact H2_) | with_reducible exact H | (rw [hy344]; exact H) | exact H
            have Ny344 := Aside0.mk hy344
            clear hy344
            replace H := Option.bind_eq_some_iff.mp H
            obtain ⟨⟨t347, t348⟩, A110, H⟩ := H
            replace H : (if t348 = 0 then (if (t347.length : Int) = (t339.length : Int) then ((norm_Binds.f kj2 t347).bind fun t352 => (if t352 = 0 then ((norm_Binds.f kj2 t339).bind fun t353 => (if t353 ≤ (l1.length : Int) then ((norm_Binds.f kj2 t339).bind fun t354 => (if t354 > 0 then ((pontoonlaw05_known.f kj2).bind fun t355 => (some t355)) else ((pontoonref04_Same.f kj2 t339 t347 true).bind fun t356 => (if t356 = true then ((pontoonlaw05_known.f kj2).bind fun t357 => (some t357)) else (some false))))) else (some false))) else (some false))) else (some false)) else (if (t347.length : Int) = 0 then ((pontoonlaw05_known.f kj2).bind fun t351 => (some t351)) else (some false))) = some r := H
            have A11 := Aside0.mk A110
            clear A110
            by_cases c12 : t348 = 0
            · rw [if_pos c12] at H
              have c12b0 : (t348 == 0) = true := beq_iff_eq.mpr c12
              have c12b1 : (t348 != 0) = false := bne_eq_false_iff_eq.mpr c12
              clear c12
              by_cases c13 : (t347.length : Int) = (t339.length : Int)
              · rw [if_pos c13] at H
                have c13b0 : ((t347.length : Int) == (t339.length : Int)) = true := beq_iff_eq.mpr c13
                have c13b1 : ((t347.length : Int) != (t339.length : Int)) = false := bne_eq_false_iff_eq.mpr c13
                have c13b2 : (t347.length == t339.length) = true := by first | simpa using c13 | (simp at c13 ⊢; omega)
                clear c13
                replace H := Option.bind_eq_some_iff.mp H
                obtain ⟨t352, A140, H⟩ := H
                replace H : (if t352 = 0 then ((norm_Binds.f kj2 t339).bind fun t353 => (if t353 ≤ (l1.length : Int) then ((norm_Binds.f kj2 t339).bind fun t354 => (if t354 > 0 then ((pontoonlaw05_known.f kj2).bind fun t355 => (some t355)) else ((pontoonref04_Same.f kj2 t339 t347 true).bind fun t356 => (if t356 = true then ((pontoonlaw05_known.f kj2).bind fun t357 => (some t357)) else (some false))))) else (some false))) else (some false)) = some r := H
                have A14 := Aside0.mk A140
                clear A140
                by_cases c15 : t352 = 0
                · rw [if_pos c15] at H
                  have c15b0 : (t352 == 0) = true := beq_iff_eq.mpr c15
                  have c15b1 : (t352 != 0) = false := bne_eq_false_iff_eq.mpr c15
                  clear c15
                  replace H := Option.bind_eq_some_iff.mp H
                  obtain ⟨t353, A160, H⟩ := H
                  replace H : (if t353 ≤ (l1.length : Int) then ((norm_Binds.f kj2 t339).bind fun t354 => (if t354 > 0 then ((pontoonlaw05_known.f kj2).bind fun t355 => (some t355)) else ((pontoonref04_Same.f kj2 t339 t347 true).bind fun t356 => (if t356 = true then ((pontoonlaw05_known.f kj2).bind fun t357 => (some t357)) else (some false))))) else (some false)) = some r := H
                  have A16 := Aside0.mk A160
                  clear A160
                  by_cases c17 : t353 ≤ (l1.length : Int)
                  · rw [if_pos c17] at H
                    have c17b0 : decide (t353 ≤ (l1.length : Int)) = true := decide_eq_true c17
                    clear c17
                    replace H := Option.bind_eq_some_iff.mp H
                    obtain ⟨t354, A180, H⟩ := H
                    have e_ : t353 = t354 := Option.some.inj (A16.out.symm.trans A180)
                    subst e_
                    replace H : (if t353 > 0 then ((pontoonlaw05_known.f kj2).bind fun t355 => (some t355)) else ((pontoonref04_Same.f kj2 t339 t347 true).bind fun t356 => (if t356 = true then ((pontoonlaw05_known.f kj2).bind fun t357 => (some t357)) else (some false)))) = some r := H
                    have A18 := Aside0.mk A180
                    clear A180
                    by_cases c19 : t353 > 0
                    · rw [if_pos c19] at H
                      have c19b0 : decide (0 < t353) = true := decide_eq_true c19
                      clear c19
                      replace H := Option.bind_eq_some_iff.mp H
                      obtain ⟨t355, A200, H⟩ := H
                      replace H : (some t355) = some r := H
                      have A20 := Aside0.mk A200
                      clear A200
                      obtain rfl := Option.some.inj H
                      try clear hT_
                      go_wp2_with (first | ((with_reducible refine gate_callee (f := 18) rfl ?_); refine goesL_ (some 22) rfl rfl Try.func18 (by kernel_rfl) rfl #[.string a0] rfl (by (try simp only [List.map_toArray, List.map_cons, List.map_nil]); first | done | rfl | (simp only [List.length_drop, List.length_take]; rfl)) ?_; (with_reducible refine (pontoonref04_Scan.calls kj2 a0 t339 t340 t341 _ A8.out).mono ?_); rintro e w21 ⟨v342, rfl, ho0, hb⟩; refine ⟨_, rfl, ?_⟩; have n0_ := Aside0.mk (Kd.R_lower ho0 (below_size (by repeat (first | (with_reducible first | exact HB.out | apply below_alloc | apply pw_below_drewN | apply below_drew1) | exact HB.out)))); have n1_ := Aside0.mk (below_step (by repeat (first | (with_reducible first | exact HB.out | apply below_alloc | apply pw_below_drewN | apply below_drew1) | exact HB.out)) hb); clear HB; have HO343 := n0_; have HB := n1_; clear n0_ n1_; (try clear hb); (try clear hb2); (try clear hk); (try clear hi); (try clear ho0)) | ((with_reducible refine gate_dst (N := 28) rfl ?_); (try (refine gate_guard (by rfl) ?_; dsimp only)); refine Kd.R_make Kd.bool _ 4 rfl (N := 28) rfl 31 _ _ rfl (l1.length : Int) rfl rfl Try.underlying31 (.bool false) 1 info4 rfl (by decide) (by omega) false (ok := fun _ => True) (okp := fun _ => True) rfl (fun _ hk => hk) trivial (of_decide_eq_true (by first | (with_reducible assumption) | assumption)) (Nat.le_trans (Nat.mul_le_mul_right _ (of_decide_eq_true (by first | (with_reducible assumption) | assumption) : (l1.length : Int).toNat ≤ 281474976710656)) (by omega)) (Below.refl _ _) (Nat.le_refl _) ?_; intro v345 w22 ho23 hb hg_ hnew_; clear hg_ hnew_; (first | rw [← Ny344.out] at ho23 | (simp only [Int.reduceToNat] at ho23; rw [← Ny344.out] at ho23)); have n0_ := Aside0.mk (Kd.R_below (by (with_reducible repeat (first | apply Kd.R_alloc | apply Kd.R_drewN | apply Kd.R_drew)); exact HO343.out) hb); have n1_ := Aside0.mk (Kd.R_lower ho23 (below_size (by repeat (first | (with_reducible first | exact HB.out | apply below_alloc | apply pw_below_drewN | apply below_drew1) | exact HB.out)))); have n2_ := Aside0.mk (below_step (by repeat (first | (with_reducible first | exact HB.out | apply below_alloc | apply pw_below_drewN | apply below_drew1) | exact HB.out)) hb); clear HO343; clear HB; have HO343 := n0_; have HO346 := n1_; have HB := n2_; clear n0_ n1_ n2_; clear hb ho23; obtain ⟨Ao24, co24, eo24⟩ := Kd.R_slice HO343.out; subst eo24; obtain ⟨Ao25, co25, eo25⟩ := Kd.R_slice HO346.out; subst eo25) | ((with_reducible refine gate_callee (f := 13) rfl ?_); refine goesL_ (some 33) rfl rfl Try.func13 (by kernel_rfl) rfl #[.slice Ao24 t339.length co24, .slice A1 l1.length c1, .slice Ao25 y344.length co25] rfl (by (try simp only [List.map_toArray, List.map_cons, List.map_nil]); first | done | rfl | (simp only [List.length_drop, List.length_take]; rfl)) ?_; (with_reducible refine (norm_Fill.calls kj2 _ _ t339 _ _ l1 _ _ y344 t347 t348 _ ?side1 ?side2 ?side3 ?side4 ?side5 ?side6 A11.out).mono ?_); (case side1 => repeat (first | exact (Kd.R_reads' HO343.out).2.2 | (with_reducible refine Kd.C_alloc ?_ _) | (with_reducible refine Kd.C_drewN ?_ _) | (with_reducible refine Kd.C_drew ?_))); (case side2 => exact (Kd.R_reads' HO343.out).2.1); (case side3 => repeat (first | exact (Kd.C_below HR1.out HB.out) | (with_reducible refine Kd.C_alloc ?_ _) | (with_reducible refine Kd.C_drewN ?_ _) | (with_reducible refine Kd.C_drew ?_))); (case side4 => exact HC1.out); (case side5 => repeat (first | exact (Kd.R_reads' HO346.out).2.2 | (with_reducible refine Kd.C_alloc ?_ _) | (with_reducible refine Kd.C_drewN ?_ _) | (with_reducible refine Kd.C_drew ?_))); (case side6 => exact (Kd.R_reads' HO346.out).2.1); rintro e w26 ⟨v349, rfl, ho0, hb⟩; refine ⟨_, rfl, ?_⟩; have n0_ := Aside0.mk (Kd.R_elder' (by (with_reducible repeat (first | apply Kd.R_alloc | apply Kd.R_drewN | apply Kd.R_drew)); exact HO343.out) (Kd.R_base ho0) hb); have n1_ := Aside0.mk (Kd.R_below (by (with_reducible repeat (first | apply Kd.R_alloc | apply Kd.R_drewN | apply Kd.R_drew)); exact HO346.out) hb); have n2_ := Aside0.mk (Kd.R_lower (Kd.R_new' ho0 (Kd.R_lt (by (with_reducible repeat (first | apply Kd.R_alloc | apply Kd.R_drewN | apply Kd.R_drew)); exact HO343.out))) (below_size (by repeat (first | (with_reducible first | exact HB.out | apply below_alloc | apply pw_below_drewN | apply below_drew1) | exact HB.out)))); have n3_ := Aside0.mk (below_step (by repeat (first | (with_reducible first | exact HB.out | apply below_alloc | apply pw_below_drewN | apply below_drew1) | exact HB.out)) hb); clear HO343; clear HO346; clear HB; have HO343 := n0_; have HO346 := n1_; have HO350 := n2_; have HB := n3_; clear n0_ n1_ n2_ n3_; (try clear hb); (try clear hb2); (try clear hk); (try clear hi); (try clear ho0); obtain ⟨Ao27, co27, eo27⟩ := Kd.R_slice HO350.out; subst eo27) | (go_at_call 16; (with_reducible refine (norm_Binds.calls kj2 _ _ t347 t352 _ ?side1 ?side2 A14.out).mono ?_); (case side1 => repeat (first | exact (Kd.R_reads' HO350.out).2.2 | (with_reducible refine Kd.C_alloc ?_ _) | (with_reducible refine Kd.C_drewN ?_ _) | (with_reducible refine Kd.C_drew ?_))); (case side2 => exact (Kd.R_reads' HO350.out).2.1); rintro e w28 ⟨rfl, hb⟩; have n0_ := Aside0.mk (Kd.R_below (by (with_reducible repeat (first | apply Kd.R_alloc | apply Kd.R_drewN | apply Kd.R_drew)); exact HO343.out) hb); have n1_ := Aside0.mk (Kd.R_below (by (with_reducible repeat (first | apply Kd.R_alloc | apply Kd.R_drewN | apply Kd.R_drew)); exact HO346.out) hb); have n2_ := Aside0.mk (Kd.R_below (by (with_reducible repeat (first | apply Kd.R_alloc | apply Kd.R_drewN | apply Kd.R_drew)); exact HO350.out) hb); have n3_ := Aside0.mk (below_step (by repeat (first | (with_reducible first | exact HB.out | apply below_alloc | apply pw_below_drewN | apply below_drew1) | exact HB.out)) hb); clear HO343; clear HO346; clear HO350; clear HB; have HO343 := n0_; have HO346 := n1_; have HO350 := n2_; have HB := n3_; clear n0_ n1_ n2_ n3_; (try clear hb); (try clear hb2); (try clear hk); (try clear hi)) | (go_at_call 16; (with_reducible refine (norm_Binds.calls kj2 _ _ t339 t353 _ ?side1 ?side2 A16.out).mono ?_); (case side1 => repeat (first | exact (Kd.R_reads' HO343.out).2.2 | (with_reducible refine Kd.C_alloc ?_ _) | (with_reducible refine Kd.C_drewN ?_ _) | (with_reducible refine Kd.C_drew ?_))); (case side2 => exact (Kd.R_reads' HO343.out).2.1); rintro e w29 ⟨rfl, hb⟩; have n0_ := Aside0.mk (Kd.R_below (by (with_reducible repeat (first | apply Kd.R_alloc | apply Kd.R_drewN | apply Kd.R_drew)); exact HO343.out) hb); have n1_ := Aside0.mk (Kd.R_below (by (with_reducible repeat (first | apply Kd.R_alloc | apply Kd.R_drewN | apply Kd.R_drew)); exact HO346.out) hb); have n2_ := Aside0.mk (Kd.R_below (by (with_reducible repeat (first | apply Kd.R_alloc | apply Kd.R_drewN | apply Kd.R_drew)); exact HO350.out) hb); have n3_ := Aside0.mk (below_step (by repeat (first | (with_reducible first | exact HB.out | apply below_alloc | apply pw_below_drewN | apply below_drew1) | exact HB.out)) hb); clear HO343; clear HO346; clear HO350; clear HB; have HO343 := n0_; have HO346 := n1_; have HO350 := n2_; have HB := n3_; clear n0_ n1_ n2_ n3_; (try clear hb); (try clear hb2); (try clear hk); (try clear hi)) | (go_at_call 16; (with_reducible refine (norm_Binds.calls kj2 _ _ t339 t353 _ ?side1 ?side2 A18.out).mono ?_); (case side1 => repeat (first | exact (Kd.R_reads' HO343.out).2.2 | (with_reducible refine Kd.C_alloc ?_ _) | (with_reducible refine Kd.C_drewN ?_ _) | (with_reducible refine Kd.C_drew ?_))); (case side2 => exact (Kd.R_reads' HO343.out).2.1); rintro e w30 ⟨rfl, hb⟩; have n0_ := Aside0.mk (Kd.R_below (by (with_reducible repeat (first | apply Kd.R_alloc | apply Kd.R_drewN | apply Kd.R_drew)); exact HO343.out) hb); have n1_ := Aside0.mk (Kd.R_below (by (with_reducible repeat (first | apply Kd.R_alloc | apply Kd.R_drewN | apply Kd.R_drew)); exact HO346.out) hb); have n2_ := Aside0.mk (Kd.R_below (by (with_reducible repeat (first | apply Kd.R_alloc | apply Kd.R_drewN | apply Kd.R_drew)); exact HO350.out) hb); have n3_ := Aside0.mk (below_step (by repeat (first | (with_reducible first | exact HB.out | apply below_alloc | apply pw_below_drewN | apply below_drew1) | exact HB.out)) hb); clear HO343; clear HO346; clear HO350; clear HB; have HO343 := n0_; have HO346 := n1_; have HO350 := n2_; have HB := n3_; clear n0_ n1_ n2_ n3_; (try clear hb); (try clear hb2); (try clear hk); (try clear hi)) | (go_at_call 8; (with_reducible refine (pontoonlaw05_known.calls kj2  t355 _ A20.out).mono ?_); rintro e w31 ⟨rfl, hb⟩; have n0_ := Aside0.mk (Kd.R_below (by (with_reducible repeat (first | apply Kd.R_alloc | apply Kd.R_drewN | apply Kd.R_drew)); exact HO343.out) hb); have n1_ := Aside0.mk (Kd.R_below (by (with_reducible repeat (first | apply Kd.R_alloc | apply Kd.R_drewN | apply Kd.R_drew)); exact HO346.out) hb); have n2_ := Aside0.mk (Kd.R_below (by (with_reducible repeat (first | apply Kd.R_alloc | apply Kd.R_drewN | apply Kd.R_drew)); exact HO350.out) hb); have n3_ := Aside0.mk (below_step (by repeat (first | (with_reducible first | exact HB.out | apply below_alloc | apply pw_below_drewN | apply below_drew1) | exact HB.out)) hb); clear HO343; clear HO346; clear HO350; clear HB; have HO343 := n0_; have HO346 := n1_; have HO350 := n2_; have HB := n3_; clear n0_ n1_ n2_ n3_; (try clear hb); (try clear hb2); (try clear hk); (try clear hi)))
                      go_ret
                      exact ⟨by first | rfl | (simp [errW_none, errW_some] <;> rfl) | (simp [*, errW_none, errW_some] <;> rfl), by repeat (first | (with_reducible first | exact HB.out | apply below_alloc | apply pw_below_drewN | apply below_drew1) | exact HB.out)⟩
                    · rw [if_neg c19] at H
                      have c19b0 : decide (0 < t353) = false := decide_eq_false c19
                      clear c19
                      replace H := Option.bind_eq_some_iff.mp H
                      obtain ⟨t356, A320, H⟩ := H
                      replace H : (if t356 = true then ((pontoonlaw05_known.f kj2).bind fun t357 => (some t357)) else (some false)) = some r := H
                      have A32 := Aside0.mk A320
                      clear A320
                      by_cases c33 : t356 = true
                      · subst c33
                        have H1 : ((pontoonlaw05_known.f kj2).bind fun t357 => (some t357)) = some r := by rw [if_pos rfl] at H; exact H
                        clear H
                        have H := H1
                        clear H1
                        replace H := Option.bind_eq_some_iff.mp H
                        obtain ⟨t357, A340, H⟩ := H
                        replace H : (some t357) = some r := H
                        have A34 := Aside0.mk A340
                        clear A340
                        obtain rfl := Option.some.inj H
                        try clear hT_
                        go_wp2_with (first | ((with_reducible refine gate_callee (f := 18) rfl ?_); refine goesL_ (some 22) rfl rfl Try.func18 (by kernel_rfl) rfl #[.string a0] rfl (by (try simp only [List.map_toArray, List.map_cons, List.map_nil]); first | done | rfl | (simp only [List.length_drop, List.length_take]; rfl)) ?_; (with_reducible refine (pontoonref04_Scan.calls kj2 a0 t339 t340 t341 _ A8.out).mono ?_); rintro e w35 ⟨v342, rfl, ho0, hb⟩; refine ⟨_, rfl, ?_⟩; have n0_ := Aside0.mk (Kd.R_lower ho0 (below_size (by repeat (first | (with_reducible first | exact HB.out | apply below_alloc | apply pw_below_drewN | apply below_drew1) | exact HB.out)))); have n1_ := Aside0.mk (below_step (by repeat (first | (with_reducible first | exact HB.out | apply below_alloc | apply pw_below_drewN | apply below_drew1) | exact HB.out)) hb); clear HB; have HO343 := n0_; have HB := n1_; clear n0_ n1_; (try clear hb); (try clear hb2); (try clear hk); (try clear hi); (try clear ho0)) | ((with_reducible refine gate_dst (N := 28) rfl ?_); (try (refine gate_guard (by rfl) ?_; dsimp only)); refine Kd.R_make Kd.bool _ 4 rfl (N := 28) rfl 31 _ _ rfl (l1.length : Int) rfl rfl Try.underlying31 (.bool false) 1 info4 rfl (by decide) (by omega) false (ok := fun _ => True) (okp := fun _ => True) rfl (fun _ hk => hk) trivial (of_decide_eq_true (by first | (with_reducible assumption) | assumption)) (Nat.le_trans (Nat.mul_le_mul_right _ (of_decide_eq_true (by first | (with_reducible assumption) | assumption) : (l1.length : Int).toNat ≤ 281474976710656)) (by omega)) (Below.refl _ _) (Nat.le_refl _) ?_; intro v345 w36 ho37 hb hg_ hnew_; clear hg_ hnew_; (first | rw [← Ny344.out] at ho37 | (simp only [Int.reduceToNat] at ho37; rw [← Ny344.out] at ho37)); have n0_ := Aside0.mk (Kd.R_below (by (with_reducible repeat (first | apply Kd.R_alloc | apply Kd.R_drewN | apply Kd.R_drew)); exact HO343.out) hb); have n1_ := Aside0.mk (Kd.R_lower ho37 (below_size (by repeat (first | (with_reducible first | exact HB.out | apply below_alloc | apply pw_below_drewN | apply below_drew1) | exact HB.out)))); have n2_ := Aside0.mk (below_step (by repeat (first | (with_reducible first | exact HB.out | apply below_alloc | apply pw_below_drewN | apply below_drew1) | exact HB.out)) hb); clear HO343; clear HB; have HO343 := n0_; have HO346 := n1_; have HB := n2_; clear n0_ n1_ n2_; clear hb ho37; obtain ⟨Ao38, co38, eo38⟩ := Kd.R_slice HO343.out; subst eo38; obtain ⟨Ao39, co39, eo39⟩ := Kd.R_slice HO346.out; subst eo39) | ((with_reducible refine gate_callee (f := 13) rfl ?_); refine goesL_ (some 33) rfl rfl Try.func13 (by kernel_rfl) rfl #[.slice Ao38 t339.length co38, .slice A1 l1.length c1, .slice Ao39 y344.length co39] rfl (by (try simp only [List.map_toArray, List.map_cons, List.map_nil]); first | done | rfl | (simp only [List.length_drop, List.length_take]; rfl)) ?_; (with_reducible refine (norm_Fill.calls kj2 _ _ t339 _ _ l1 _ _ y344 t347 t348 _ ?side1 ?side2 ?side3 ?side4 ?side5 ?side6 A11.out).mono ?_); (case side1 => repeat (first | exact (Kd.R_reads' HO343.out).2.2 | (with_reducible refine Kd.C_alloc ?_ _) | (with_reducible refine Kd.C_drewN ?_ _) | (with_reducible refine Kd.C_drew ?_))); (case side2 => exact (Kd.R_reads' HO343.out).2.1); (case side3 => repeat (first | exact (Kd.C_below HR1.out HB.out) | (with_reducible refine Kd.C_alloc ?_ _) | (with_reducible refine Kd.C_drewN ?_ _) | (with_reducible refine Kd.C_drew ?_))); (case side4 => exact HC1.out); (case side5 => repeat (first | exact (Kd.R_reads' HO346.out).2.2 | (with_reducible refine Kd.C_alloc ?_ _) | (with_reducible refine Kd.C_drewN ?_ _) | (with_reducible refine Kd.C_drew ?_))); (case side6 => exact (Kd.R_reads' HO346.out).2.1); rintro e w40 ⟨v349, rfl, ho0, hb⟩; refine ⟨_, rfl, ?_⟩; have n0_ := Aside0.mk (Kd.R_elder' (by (with_reducible repeat (first | apply Kd.R_alloc | apply Kd.R_drewN | apply Kd.R_drew)); exact HO343.out) (Kd.R_base ho0) hb); have n1_ := Aside0.mk (Kd.R_below (by (with_reducible repeat (first | apply Kd.R_alloc | apply Kd.R_drewN | apply Kd.R_drew)); exact HO346.out) hb); have n2_ := Aside0.mk (Kd.R_lower (Kd.R_new' ho0 (Kd.R_lt (by (with_reducible repeat (first | apply Kd.R_alloc | apply Kd.R_drewN | apply Kd.R_drew)); exact HO343.out))) (below_size (by repeat (first | (with_reducible first | exact HB.out | apply below_alloc | apply pw_below_drewN | apply below_drew1) | exact HB.out)))); have n3_ := Aside0.mk (below_step (by repeat (first | (with_reducible first | exact HB.out | apply below_alloc | apply pw_below_drewN | apply below_drew1) | exact HB.out)) hb); clear HO343; clear HO346; clear HB; have HO343 := n0_; have HO346 := n1_; have HO350 := n2_; have HB := n3_; clear n0_ n1_ n2_ n3_; (try clear hb); (try clear hb2); (try clear hk); (try clear hi); (try clear ho0); obtain ⟨Ao41, co41, eo41⟩ := Kd.R_slice HO350.out; subst eo41) | (go_at_call 16; (with_reducible refine (norm_Binds.calls kj2 _ _ t347 t352 _ ?side1 ?side2 A14.out).mono ?_); (case side1 => repeat (first | exact (Kd.R_reads' HO350.out).2.2 | (with_reducible refine Kd.C_alloc ?_ _) | (with_reducible refine Kd.C_drewN ?_ _) | (with_reducible refine Kd.C_drew ?_))); (case side2 => exact (Kd.R_reads' HO350.out).2.1); rintro e w42 ⟨rfl, hb⟩; have n0_ := Aside0.mk (Kd.R_below (by (with_reducible repeat (first | apply Kd.R_alloc | apply Kd.R_drewN | apply Kd.R_drew)); exact HO343.out) hb); have n1_ := Aside0.mk (Kd.R_below (by (with_reducible repeat (first | apply Kd.R_alloc | apply Kd.R_drewN | apply Kd.R_drew)); exact HO346.out) hb); have n2_ := Aside0.mk (Kd.R_below (by (with_reducible repeat (first | apply Kd.R_alloc | apply Kd.R_drewN | apply Kd.R_drew)); exact HO350.out) hb); have n3_ := Aside0.mk (below_step (by repeat (first | (with_reducible first | exact HB.out | apply below_alloc | apply pw_below_drewN | apply below_drew1) | exact HB.out)) hb); clear HO343; clear HO346; clear HO350; clear HB; have HO343 := n0_; have HO346 := n1_; have HO350 := n2_; have HB := n3_; clear n0_ n1_ n2_ n3_; (try clear hb); (try clear hb2); (try clear hk); (try clear hi)) | (go_at_call 16; (with_reducible refine (norm_Binds.calls kj2 _ _ t339 t353 _ ?side1 ?side2 A16.out).mono ?_); (case side1 => repeat (first | exact (Kd.R_reads' HO343.out).2.2 | (with_reducible refine Kd.C_alloc ?_ _) | (with_reducible refine Kd.C_drewN ?_ _) | (with_reducible refine Kd.C_drew ?_))); (case side2 => exact (Kd.R_reads' HO343.out).2.1); rintro e w43 ⟨rfl, hb⟩; have n0_ := Aside0.mk (Kd.R_below (by (with_reducible repeat (first | apply Kd.R_alloc | apply Kd.R_drewN | apply Kd.R_drew)); exact HO343.out) hb); have n1_ := Aside0.mk (Kd.R_below (by (with_reducible repeat (first | apply Kd.R_alloc | apply Kd.R_drewN | apply Kd.R_drew)); exact HO346.out) hb); have n2_ := Aside0.mk (Kd.R_below (by (with_reducible repeat (first | apply Kd.R_alloc | apply Kd.R_drewN | apply Kd.R_drew)); exact HO350.out) hb); have n3_ := Aside0.mk (below_step (by repeat (first | (with_reducible first | exact HB.out | apply below_alloc | apply pw_below_drewN | apply below_drew1) | exact HB.out)) hb); clear HO343; clear HO346; clear HO350; clear HB; have HO343 := n0_; have HO346 := n1_; have HO350 := n2_; have HB := n3_; clear n0_ n1_ n2_ n3_; (try clear hb); (try clear hb2); (try clear hk); (try clear hi)) | (go_at_call 16; (with_reducible refine (norm_Binds.calls kj2 _ _ t339 t353 _ ?side1 ?side2 A18.out).mono ?_); (case side1 => repeat (first | exact (Kd.R_reads' HO343.out).2.2 | (with_reducible refine Kd.C_alloc ?_ _) | (with_reducible refine Kd.C_drewN ?_ _) | (with_reducible refine Kd.C_drew ?_))); (case side2 => exact (Kd.R_reads' HO343.out).2.1); rintro e w44 ⟨rfl, hb⟩; have n0_ := Aside0.mk (Kd.R_below (by (with_reducible repeat (first | apply Kd.R_alloc | apply Kd.R_drewN | apply Kd.R_drew)); exact HO343.out) hb); have n1_ := Aside0.mk (Kd.R_below (by (with_reducible repeat (first | apply Kd.R_alloc | apply Kd.R_drewN | apply Kd.R_drew)); exact HO346.out) hb); have n2_ := Aside0.mk (Kd.R_below (by (with_reducible repeat (first | apply Kd.R_alloc | apply Kd.R_drewN | apply Kd.R_drew)); exact HO350.out) hb); have n3_ := Aside0.mk (below_step (by repeat (first | (with_reducible first | exact HB.out | apply below_alloc | apply pw_below_drewN | apply below_drew1) | exact HB.out)) hb); clear HO343; clear HO346; clear HO350; clear HB; have HO343 := n0_; have HO346 := n1_; have HO350 := n2_; have HB := n3_; clear n0_ n1_ n2_ n3_; (try clear hb); (try clear hb2); (try clear hk); (try clear hi)) | (go_at_call 15; (with_reducible refine (pontoonref04_Same.calls kj2 _ _ t339 _ _ t347 true true _ ?side1 ?side2 ?side3 ?side4 A32.out).mono ?_); (case side1 => repeat (first | exact (Kd.R_reads' HO343.out).2.2 | (with_reducible refine Kd.C_alloc ?_ _) | (with_reducible refine Kd.C_drewN ?_ _) | (with_reducible refine Kd.C_drew ?_))); (case side2 => exact (Kd.R_reads' HO343.out).2.1); (case side3 => repeat (first | exact (Kd.R_reads' HO350.out).2.2 | (with_reducible refine Kd.C_alloc ?_ _) | (with_reducible refine Kd.C_drewN ?_ _) | (with_reducible refine Kd.C_drew ?_))); (case side4 => exact (Kd.R_reads' HO350.out).2.1); rintro e w' ⟨rfl, ⟨nd, rfl⟩⟩) | (go_at_call 8; (with_reducible refine (pontoonlaw05_known.calls kj2  t357 _ A34.out).mono ?_); rintro e w45 ⟨rfl, hb⟩; have n0_ := Aside0.mk (Kd.R_below (by (with_reducible repeat (first | apply Kd.R_alloc | apply Kd.R_drewN | apply Kd.R_drew)); exact HO343.out) hb); have n1_ := Aside0.mk (Kd.R_below (by (with_reducible repeat (first | apply Kd.R_alloc | apply Kd.R_drewN | apply Kd.R_drew)); exact HO346.out) hb); have n2_ := Aside0.mk (Kd.R_below (by (with_reducible repeat (first | apply Kd.R_alloc | apply Kd.R_drewN | apply Kd.R_drew)); exact HO350.out) hb); have n3_ := Aside0.mk (below_step (by repeat (first | (with_reducible first | exact HB.out | apply below_alloc | apply pw_below_drewN | apply below_drew1) | exact HB.out)) hb); clear HO343; clear HO346; clear HO350; clear HB; have HO343 := n0_; have HO346 := n1_; have HO350 := n2_; have HB := n3_; clear n0_ n1_ n2_ n3_; (try clear hb); (try clear hb2); (try clear hk); (try clear hi)))
                        go_ret
                        exact ⟨by first | rfl | (simp [errW_none, errW_some] <;> rfl) | (simp [*, errW_none, errW_some] <;> rfl), by repeat (first | (with_reducible first | exact HB.out | apply below_alloc | apply pw_below_drewN | apply below_drew1) | exact HB.out)⟩
                      · replace c33 := Bool.eq_false_iff.mpr c33
                        subst c33
                        have H1 : (some false) = some r := by rw [if_neg (show ¬ (false = true) by decide)] at H; exact H
                        rw [hT_] at H1
                        cases H1
                  · rw [if_neg c17] at H
                    rw [hT_] at H
                    cases H
                · rw [if_neg c15] at H
                  rw [hT_] at H
                  cases H
              · rw [if_neg c13] at H
                rw [hT_] at H
                cases H
            · rw [if_neg c12] at H
              have c12b0 : (t348 == 0) = false := beq_eq_false_iff_ne.mpr c12
              have c12b1 : (t348 != 0) = true := bne_iff_ne.mpr c12
              by_cases c80 : (t347.length : Int) = 0
              · rw [if_pos c80] at H
                have c80b0 : ((t347.length : Int) == 0) = true := beq_iff_eq.mpr c80
                have c80b1 : ((t347.length : Int) != 0) = false := bne_eq_false_iff_eq.mpr c80
                clear c80
                replace H := Option.bind_eq_some_iff.mp H
                obtain ⟨t351, A810, H⟩ := H
                replace H : (some t351) = some r := H
                have A81 := Aside0.mk A810
                clear A810
                obtain rfl := Option.some.inj H
                try clear hT_
                go_wp2_with (first | ((with_reducible refine gate_callee (f := 18) rfl ?_); refine goesL_ (some 22) rfl rfl Try.func18 (by kernel_rfl) rfl #[.string a0] rfl (by (try simp only [List.map_toArray, List.map_cons, List.map_nil]); first | done | rfl | (simp only [List.length_drop, List.length_take]; rfl)) ?_; (with_reducible refine (pontoonref04_Scan.calls kj2 a0 t339 t340 t341 _ A8.out).mono ?_); rintro e w82 ⟨v342, rfl, ho0, hb⟩; refine ⟨_, rfl, ?_⟩; have n0_ := Aside0.mk (Kd.R_lower ho0 (below_size (by repeat (first | (with_reducible first | exact HB.out | apply below_alloc | apply pw_below_drewN | apply below_drew1) | exact HB.out)))); have n1_ := Aside0.mk (below_step (by repeat (first | (with_reducible first | exact HB.out | apply below_alloc | apply pw_below_drewN | apply below_drew1) | exact HB.out)) hb); clear HB; have HO343 := n0_; have HB := n1_; clear n0_ n1_; (try clear hb); (try clear hb2); (try clear hk); (try clear hi); (try clear ho0)) | ((with_reducible refine gate_dst (N := 28) rfl ?_); (try (refine gate_guard (by rfl) ?_; dsimp only)); refine Kd.R_make Kd.bool _ 4 rfl (N := 28) rfl 31 _ _ rfl (l1.length : Int) rfl rfl Try.underlying31 (.bool false) 1 info4 rfl (by decide) (by omega) false (ok := fun _ => True) (okp := fun _ => True) rfl (fun _ hk => hk) trivial (of_decide_eq_true (by first | (with_reducible assumption) | assumption)) (Nat.le_trans (Nat.mul_le_mul_right _ (of_decide_eq_true (by first | (with_reducible assumption) | assumption) : (l1.length : Int).toNat ≤ 281474976710656)) (by omega)) (Below.refl _ _) (Nat.le_refl _) ?_; intro v345 w83 ho84 hb hg_ hnew_; clear hg_ hnew_; (first | rw [← Ny344.out] at ho84 | (simp only [Int.reduceToNat] at ho84; rw [← Ny344.out] at ho84)); have n0_ := Aside0.mk (Kd.R_below (by (with_reducible repeat (first | apply Kd.R_alloc | apply Kd.R_drewN | apply Kd.R_drew)); exact HO343.out) hb); have n1_ := Aside0.mk (Kd.R_lower ho84 (below_size (by repeat (first | (with_reducible first | exact HB.out | apply below_alloc | apply pw_below_drewN | apply below_drew1) | exact HB.out)))); have n2_ := Aside0.mk (below_step (by repeat (first | (with_reducible first | exact HB.out | apply below_alloc | apply pw_below_drewN | apply below_drew1) | exact HB.out)) hb); clear HO343; clear HB; have HO343 := n0_; have HO346 := n1_; have HB := n2_; clear n0_ n1_ n2_; clear hb ho84; obtain ⟨Ao85, co85, eo85⟩ := Kd.R_slice HO343.out; subst eo85; obtain ⟨Ao86, co86, eo86⟩ := Kd.R_slice HO346.out; subst eo86) | ((with_reducible refine gate_callee (f := 13) rfl ?_); refine goesL_ (some 33) rfl rfl Try.func13 (by kernel_rfl) rfl #[.slice Ao85 t339.length co85, .slice A1 l1.length c1, .slice Ao86 y344.length co86] rfl (by (try simp only [List.map_toArray, List.map_cons, List.map_nil]); first | done | rfl | (simp only [List.length_drop, List.length_take]; rfl)) ?_; (with_reducible refine (norm_Fill.calls kj2 _ _ t339 _ _ l1 _ _ y344 t347 t348 _ ?side1 ?side2 ?side3 ?side4 ?side5 ?side6 A11.out).mono ?_); (case side1 => repeat (first | exact (Kd.R_reads' HO343.out).2.2 | (with_reducible refine Kd.C_alloc ?_ _) | (with_reducible refine Kd.C_drewN ?_ _) | (with_reducible refine Kd.C_drew ?_))); (case side2 => exact (Kd.R_reads' HO343.out).2.1); (case side3 => repeat (first | exact (Kd.C_below HR1.out HB.out) | (with_reducible refine Kd.C_alloc ?_ _) | (with_reducible refine Kd.C_drewN ?_ _) | (with_reducible refine Kd.C_drew ?_))); (case side4 => exact HC1.out); (case side5 => repeat (first | exact (Kd.R_reads' HO346.out).2.2 | (with_reducible refine Kd.C_alloc ?_ _) | (with_reducible refine Kd.C_drewN ?_ _) | (with_reducible refine Kd.C_drew ?_))); (case side6 => exact (Kd.R_reads' HO346.out).2.1); rintro e w87 ⟨v349, rfl, ho0, hb⟩; refine ⟨_, rfl, ?_⟩; have n0_ := Aside0.mk (Kd.R_elder' (by (with_reducible repeat (first | apply Kd.R_alloc | apply Kd.R_drewN | apply Kd.R_drew)); exact HO343.out) (Kd.R_base ho0) hb); have n1_ := Aside0.mk (Kd.R_below (by (with_reducible repeat (first | apply Kd.R_alloc | apply Kd.R_drewN | apply Kd.R_drew)); exact HO346.out) hb); have n2_ := Aside0.mk (Kd.R_lower (Kd.R_new' ho0 (Kd.R_lt (by (with_reducible repeat (first | apply Kd.R_alloc | apply Kd.R_drewN | apply Kd.R_drew)); exact HO343.out))) (below_size (by repeat (first | (with_reducible first | exact HB.out | apply below_alloc | apply pw_below_drewN | apply below_drew1) | exact HB.out)))); have n3_ := Aside0.mk (below_step (by repeat (first | (with_reducible first | exact HB.out | apply below_alloc | apply pw_below_drewN | apply below_drew1) | exact HB.out)) hb); clear HO343; clear HO346; clear HB; have HO343 := n0_; have HO346 := n1_; have HO350 := n2_; have HB := n3_; clear n0_ n1_ n2_ n3_; (try clear hb); (try clear hb2); (try clear hk); (try clear hi); (try clear ho0); obtain ⟨Ao88, co88, eo88⟩ := Kd.R_slice HO350.out; subst eo88) | (go_at_call 8; (with_reducible refine (pontoonlaw05_known.calls kj2  t351 _ A81.out).mono ?_); rintro e w89 ⟨rfl, hb⟩; have n0_ := Aside0.mk (Kd.R_below (by (with_reducible repeat (first | apply Kd.R_alloc | apply Kd.R_drewN | apply Kd.R_drew)); exact HO343.out) hb); have n1_ := Aside0.mk (Kd.R_below (by (with_reducible repeat (first | apply Kd.R_alloc | apply Kd.R_drewN | apply Kd.R_drew)); exact HO346.out) hb); have n2_ := Aside0.mk (Kd.R_below (by (with_reducible repeat (first | apply Kd.R_alloc | apply Kd.R_drewN | apply Kd.R_drew)); exact HO350.out) hb); have n3_ := Aside0.mk (below_step (by repeat (first | (with_reducible first | exact HB.out | apply below_alloc | apply pw_below_drewN | apply below_drew1) | exact HB.out)) hb); clear HO343; clear HO346; clear HO350; clear HB; have HO343 := n0_; have HO346 := n1_; have HO350 := n2_; have HB := n3_; clear n0_ n1_ n2_ n3_; (try clear hb); (try clear hb2); (try clear hk); (try clear hi)))
                go_ret
                exact ⟨by first | rfl | (simp [errW_none, errW_some] <;> rfl) | (simp [*, errW_none, errW_some] <;> rfl), by repeat (first | (with_reducible first | exact HB.out | apply below_alloc | apply pw_below_drewN | apply below_drew1) | exact HB.out)⟩
              · rw [if_neg c80] at H
                rw [hT_] at H
                cases H
          · rw [if_neg c10] at H
            exact absurd H (by simp)
        · rw [if_neg c9] at H
          exact absurd H (by simp)

end Go.Proofs.Ytgfppniifjabdaa.Pb
