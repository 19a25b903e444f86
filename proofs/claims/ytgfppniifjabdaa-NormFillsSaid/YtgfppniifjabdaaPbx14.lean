-- Written by a program of this session's (wip/ext/run.py) over the kit's print, with contracts of its own.
import Derived.Test.YtgfppniifjabdaaPbx0
import Derived.Test.YtgfppniifjabdaaPbx1
import Derived.Test.YtgfppniifjabdaaPbx5
import Derived.Test.YtgfppniifjabdaaPbx9
import Derived.Test.YtgfppniifjabdaaPbx12
import Derived.Test.YtgfppniifjabdaaPbx13
import Derived.Test.YtgfppniifjabdaaPbS
namespace Go.Proofs.Ytgfppniifjabdaa.Pb
open Go Go.Proofs.Ytgfppniifjabdaa Go.RowKit Go.Proofs.YtgfppniifjabdaaW.PrintWords Go.Proofs.YtgfppniifjabdaaW.PrintLast Go.Proofs.YtgfppniifjabdaaW.PrintMore
attribute [local go_sem] max2_int min2_int max_two min_two max_three min_three max_four min_four   -- for this text's walks alone
set_option linter.unusedVariables false
set_option linter.unusedSimpArgs false

/-! ### pontoonref05_Binds: function 17 -/
def pontoonref05_Binds.l0 : Nat → List (S35) → Int → Int → Option (Int)
  | 0, _, _, _ => none
  | k + 1, x0, x3, x4 => if x4 < (x0.length : Int) then (if 0 ≤ x4 then ((pontoonref05_param.f k ((rd_T35 x0 x4).f0) ((rd_T35 x0 x4).f1) ((rd_T35 x0 x4).f2)).bind fun t302 => (pontoonref05_Binds.l0 k x0 (mx x3 t302) (wrap64 (x4 + 1)))) else (none)) else (some x3)
def pontoonref05_Binds.f (k : Nat) (l0 : List (S35)) : Option (Int) := pontoonref05_Binds.l0 k l0 0 0
theorem pontoonref05_Binds.mono_l : ∀ k, (∀ y0 y1 y2, LeO (pontoonref05_Binds.l0 k y0 y1 y2) (pontoonref05_Binds.l0 (k + 1) y0 y1 y2))
  | 0 => fun _ _ _ r h => by simp [pontoonref05_Binds.l0] at h
  | k + 1 => by
    have ih0 := pontoonref05_Binds.mono_l k
    · intro y0 y1 y2
      unfold pontoonref05_Binds.l0
      repeat' first
      | (with_reducible exact ih0 _ _ _)
      | (with_reducible exact pontoonref05_param.mono _ _ _ _)
      | (with_reducible exact LeO.refl _)
      | (with_reducible exact LeO.none _)
      | (with_reducible refine LeO.ite ?_ ?_)
      | (with_reducible refine LeO.bind ?_ (fun _ => ?_))
      | exact ih0 _ _ _
      | exact pontoonref05_param.mono _ _ _ _
      | exact LeO.none _
      | refine LeO.ite ?_ ?_
      | refine LeO.bind ?_ (fun _ => ?_)
theorem pontoonref05_Binds.mono : ∀ a0 k, LeO (pontoonref05_Binds.f k a0) (pontoonref05_Binds.f (k + 1) a0) := by
  intro a0 k
  have ih0 := pontoonref05_Binds.mono_l k
  unfold pontoonref05_Binds.f
  repeat' first
      | (with_reducible exact ih0 _ _ _)
      | (with_reducible exact pontoonref05_param.mono _ _ _ _)
      | (with_reducible exact LeO.refl _)
      | (with_reducible exact LeO.none _)
      | (with_reducible refine LeO.ite ?_ ?_)
      | (with_reducible refine LeO.bind ?_ (fun _ => ?_))
      | exact ih0 _ _ _
      | exact pontoonref05_param.mono _ _ _ _
      | exact LeO.none _
      | refine LeO.ite ?_ ?_
      | refine LeO.bind ?_ (fun _ => ?_)
set_option maxHeartbeats 8000000 in
set_option maxRecDepth 100000 in
theorem pontoonref05_Binds.calls (k : Nat) (A0 : Option Addr) (c0 : Nat) (l0 : List (S35)) (r : Int) (w : World) (hr0 : Kd.C k35 w A0 l0.length l0) (hc0 : l0.length ≤ c0) (h : pontoonref05_Binds.f k l0 = some r) :
    Calls Try.prog 17 #[.slice A0 l0.length c0] w fun e w' => e = .returned (.int .i64 r) ∧ Below w.heap.size w w' := by
  have hu35 := Try.underlying35
  have HR0 := Aside0.mk hr0
  have HC0 := Aside0.mk hc0
  clear hr0 hc0
  have HB := Aside0.mk (Below.refl w.heap.size w)
  have H : (pontoonref05_Binds.l0 k l0 0 0) = some r := h
  clear h
  have H' := Aside0.mk H
  clear H
  go_enter Try.func17, Try.ntmps17
  go_wp2
  go_loopg [3, 4] k (fun kq v3 v4 w' => ∃ (x3_1 : Int) (x4_1 : Int), v3 = .int .i64 x3_1 ∧ v4 = .int .i64 x4_1 ∧ Aside0 (pontoonref05_Binds.l0 kq l0 x3_1 x4_1 = some r) ∧ Aside0 (kq ≤ k) ∧ Aside0 (Below w.heap.size w w'))
  case atStart => exact ⟨(0), (0), (by first | rfl | (simp; done) | (simp [*]; done)), (by first | rfl | (simp; done) | (simp [*]; done)), H', ⟨Nat.le_refl _⟩, ⟨by repeat (first | (with_reducible first | exact HB.out | apply below_alloc | apply pw_below_drewN | apply below_drew1) | exact HB.out)⟩⟩
  case round =>
    clear H'
    try clear c1
    obtain ⟨x3_1, x4_1, rfl, rfl, HA, HK1, HB⟩ := hrel
    cases gk with
    | zero => exact absurd HA.out (by simp [pontoonref05_Binds.l0])
    | succ k1 =>
      have H := HA.out
      clear HA
      simp only [pontoonref05_Binds.l0] at H
      by_cases c2 : x4_1 < (l0.length : Int)
      · rw [if_pos c2] at H
        have c2b0 : decide (x4_1 < (l0.length : Int)) = true := decide_eq_true c2
        clear c2
        by_cases c3 : 0 ≤ x4_1
        · rw [if_pos c3] at H
          have c3b0 : decide (0 ≤ x4_1) = true := decide_eq_true c3
          clear c3
          replace H := Option.bind_eq_some_iff.mp H
          obtain ⟨t302, A40, H⟩ := H
          replace H : (pontoonref05_Binds.l0 k1 l0 (mx x3_1 t302) (wrap64 (x4_1 + 1))) = some r := H
          have A4 := Aside0.mk A40
          clear A40
          obtain ⟨ji5, hji5⟩ : ∃ j_ : Int, (mx x3_1 t302) = j_ := ⟨_, rfl⟩
          replace H : (pontoonref05_Binds.l0 k1 l0 ji5 (wrap64 (x4_1 + 1))) = some r := by first | (rw [hji5] at H; exact H) | (simp only [hji5] at H ⊢; exact H)
          (try rw [hji5] at A4)
          have hji5_ : (if x3_1 < t302 then t302 else x3_1) = ji5 := hji5
          have H' := Aside0.mk H
          clear H
          have p301 : 0 ≤ (x4_1 : Int) := of_decide_eq_true (by first | (with_reducible assumption) | assumption)
          have q301 : x4_1 < (l0.length : Int) := of_decide_eq_true (by first | (with_reducible assumption) | assumption)
          obtain ⟨ad301, e301, hx301_0, hx301_1, hx301_2⟩ := at_T35 HR0.out x4_1 p301 q301
          cases e301
          replace hx301_0 := (HB.out.cell (World.block_lt_of_cell? w _ hx301_0)).trans hx301_0
          replace hx301_1 := (HB.out.cell (World.block_lt_of_cell? w _ hx301_1)).trans hx301_1
          replace hx301_2 := (HB.out.cell (World.block_lt_of_cell? w _ hx301_2)).trans hx301_2
          have q301n := q301
          replace p301 := eq_true p301
          replace q301 := eq_true q301
          go_wp2_with (first | ((with_reducible refine gate_callee (f := 25) rfl ?_); refine goesL_ (some 16) rfl rfl Try.func25 (by kernel_rfl) rfl #[.agg #[.int .i64 ((rd_T35 l0 x4_1).f0), .string ((rd_T35 l0 x4_1).f1), .int .i64 ((rd_T35 l0 x4_1).f2)]] rfl (by (try simp only [List.map_toArray, List.map_cons, List.map_nil]); first | done | rfl | (simp only [List.length_drop, List.length_take]; rfl)) ?_; (with_reducible refine (pontoonref05_param.calls k1 ((rd_T35 l0 x4_1).f0) ((rd_T35 l0 x4_1).f1) ((rd_T35 l0 x4_1).f2) t302 _ A4.out).mono ?_); rintro e w6 ⟨rfl, hb⟩; refine ⟨_, rfl, ?_⟩; have n0_ := Aside0.mk (below_step (by repeat (first | (with_reducible first | exact HB.out | apply below_alloc | apply pw_below_drewN | apply below_drew1) | exact HB.out)) hb); clear HB; have HB := n0_; clear n0_; (try clear hb); (try clear hb2); (try clear hk); (try clear hi)))
          go_roundg k1
          case measure => have := HK1.out; omega
          case rel => exact ⟨(ji5), (wrap64 (x4_1 + 1)), (by first | rfl | (simp; done) | (simp only [← hji5] <;> (first | rfl | simp)) | (simp [*]; done)), (by first | rfl | (simp; done) | (simp [*]; done)), H', ⟨by have := HK1.out; omega⟩, ⟨by repeat (first | (with_reducible first | exact HB.out | apply below_alloc | apply pw_below_drewN | apply below_drew1) | exact HB.out)⟩⟩
        · rw [if_neg c3] at H
          exact absurd H (by simp)
      · rw [if_neg c2] at H
        have c2b0 : decide (x4_1 < (l0.length : Int)) = false := decide_eq_false c2
        clear c2
        obtain rfl := Option.some.inj H
        go_wp2
        go_ret
        exact ⟨by first | rfl | (simp [errW_none, errW_some] <;> rfl) | (simp [*, errW_none, errW_some] <;> rfl), by repeat (first | (with_reducible first | exact HB.out | apply below_alloc | apply pw_below_drewN | apply below_drew1) | exact HB.out)⟩

/-! ### pontoonlaw05_NormFills: function 4 -/
mutual
def pontoonlaw05_NormFills.j0 : Nat → List (S35) → List ByteArray → List Bool → Bool → Option (Bool)
  | 0, _, _, _, _ => none
  | k + 1, x0, x1, x2, x26 => if x26 = true then ((pontoonlaw05_known.f k).bind fun t304 => (some t304)) else ((some (([] : List (S35)) : List (S35))).bind fun y305 => (if y305.length + x0.length < 4398046511104 then ((some (y305 ++ x0 : List (S35))).bind fun y308 => ((norm_Fill.f k y308 x1 x2).bind fun bt311 => ((pontoonref05_Fill.f k x0 x1 x2).bind fun bt315 => (pontoonlaw05_NormFills.l0 k x0 y308 bt311.1 bt311.2 bt315.1 bt315.2 0)))) else (none)))
def pontoonlaw05_NormFills.l0 : Nat → List (S35) → List (S35) → List (S35) → Int → List (S35) → Int → Int → Option (Bool)
  | 0, _, _, _, _, _, _, _ => none
  | k + 1, x0, x7, x8, x9, x10, x11, x12 => if x12 < (x8.length : Int) then (if 0 ≤ x12 then (pontoonlaw05_NormFills.l0 k x0 x7 (x8.set (x12 : Int).toNat (⟨(rd_T35 x8 x12).f0, (rd_T35 x8 x12).f1, wrap64 (((rd_T35 x8 x12).f2) + 1)⟩ : S35)) x9 x10 x11 (wrap64 (x12 + 1))) else (none)) else (pontoonlaw05_NormFills.l1 k x0 x7 x8 x9 x10 x11 0)
def pontoonlaw05_NormFills.l1 : Nat → List (S35) → List (S35) → List (S35) → Int → List (S35) → Int → Int → Option (Bool)
  | 0, _, _, _, _, _, _, _ => none
  | k + 1, x0, x7, x8, x9, x10, x11, x13 => if x13 < (x10.length : Int) then (if 0 ≤ x13 then (pontoonlaw05_NormFills.l1 k x0 x7 x8 x9 (x10.set (x13 : Int).toNat (⟨(rd_T35 x10 x13).f0, (rd_T35 x10 x13).f1, wrap64 (((rd_T35 x10 x13).f2) + 1)⟩ : S35)) x11 (wrap64 (x13 + 1))) else (none)) else ((pontoonref04_Same.f k x8 x10 true).bind fun t323 => (if t323 = true then (if x9 = x11 then ((pontoonref04_Same.f k x7 x0 true).bind fun t324 => (if t324 = true then ((norm_Binds.f k x0).bind fun t325 => ((pontoonref05_Binds.f k x0).bind fun t326 => (if t325 = t326 then ((pontoonlaw05_known.f k).bind fun t327 => (some t327)) else (some false)))) else (some false))) else (some false)) else (some false)))
end
def pontoonlaw05_NormFills.f (k : Nat) (l0 : List (S35)) (l1 : List ByteArray) (l2 : List Bool) : Option (Bool) := (pontoonlaw05_light.f k l0).bind fun t303 => (if t303 = true then (if (l1.length : Int) > 60 then (pontoonlaw05_NormFills.j0 k l0 l1 l2 true) else (pontoonlaw05_NormFills.j0 k l0 l1 l2 (decide ((l2.length : Int) > 60)))) else (pontoonlaw05_NormFills.j0 k l0 l1 l2 true))
theorem pontoonlaw05_NormFills.mono_l : ∀ k, (∀ y0 y1 y2 y3, LeO (pontoonlaw05_NormFills.j0 k y0 y1 y2 y3) (pontoonlaw05_NormFills.j0 (k + 1) y0 y1 y2 y3)) ∧ (∀ y0 y1 y2 y3 y4 y5 y6, LeO (pontoonlaw05_NormFills.l0 k y0 y1 y2 y3 y4 y5 y6) (pontoonlaw05_NormFills.l0 (k + 1) y0 y1 y2 y3 y4 y5 y6)) ∧ (∀ y0 y1 y2 y3 y4 y5 y6, LeO (pontoonlaw05_NormFills.l1 k y0 y1 y2 y3 y4 y5 y6) (pontoonlaw05_NormFills.l1 (k + 1) y0 y1 y2 y3 y4 y5 y6))
  | 0 => ⟨fun _ _ _ _ r h => by simp [pontoonlaw05_NormFills.j0] at h, fun _ _ _ _ _ _ _ r h => by simp [pontoonlaw05_NormFills.l0] at h, fun _ _ _ _ _ _ _ r h => by simp [pontoonlaw05_NormFills.l1] at h⟩
  | k + 1 => by
    obtain ⟨ih0, ih1, ih2⟩ := pontoonlaw05_NormFills.mono_l k
    refine ⟨?_, ?_, ?_⟩
    · intro y0 y1 y2 y3
      unfold pontoonlaw05_NormFills.j0
      repeat' first
      | (with_reducible exact ih0 _ _ _ _)
      | (with_reducible exact ih1 _ _ _ _ _ _ _)
      | (with_reducible exact ih2 _ _ _ _ _ _ _)
      | (with_reducible exact norm_Binds.mono _ _)
      | (with_reducible exact norm_Fill.mono _ _ _ _)
      | (with_reducible exact pontoonlaw05_known.mono _)
      | (with_reducible exact pontoonlaw05_light.mono _ _)
      | (with_reducible exact pontoonref04_Same.mono _ _ _ _)
      | (with_reducible exact pontoonref05_Binds.mono _ _)
      | (with_reducible exact pontoonref05_Fill.mono _ _ _ _)
      | (with_reducible exact LeO.refl _)
      | (with_reducible exact LeO.none _)
      | (with_reducible refine LeO.ite ?_ ?_)
      | (with_reducible refine LeO.bind ?_ (fun _ => ?_))
      | exact ih0 _ _ _ _
      | exact ih1 _ _ _ _ _ _ _
      | exact ih2 _ _ _ _ _ _ _
      | exact norm_Binds.mono _ _
      | exact norm_Fill.mono _ _ _ _
      | exact pontoonlaw05_known.mono _
      | exact pontoonlaw05_light.mono _ _
      | exact pontoonref04_Same.mono _ _ _ _
      | exact pontoonref05_Binds.mono _ _
      | exact pontoonref05_Fill.mono _ _ _ _
      | exact LeO.none _
      | refine LeO.ite ?_ ?_
      | refine LeO.bind ?_ (fun _ => ?_)
    · intro y0 y1 y2 y3 y4 y5 y6
      unfold pontoonlaw05_NormFills.l0
      repeat' first
      | (with_reducible exact ih0 _ _ _ _)
      | (with_reducible exact ih1 _ _ _ _ _ _ _)
      | (with_reducible exact ih2 _ _ _ _ _ _ _)
      | (with_reducible exact norm_Binds.mono _ _)
      | (with_reducible exact norm_Fill.mono _ _ _ _)
      | (with_reducible exact pontoonlaw05_known.mono _)
      | (with_reducible exact pontoonlaw05_light.mono _ _)
      | (with_reducible exact pontoonref04_Same.mono _ _ _ _)
      | (with_reducible exact pontoonref05_Binds.mono _ _)
      | (with_reducible exact pontoonref05_Fill.mono _ _ _ _)
      | (with_reducible exact LeO.refl _)
      | (with_reducible exact LeO.none _)
      | (with_reducible refine LeO.ite ?_ ?_)
      | (with_reducible refine LeO.bind ?_ (fun _ => ?_))
      | exact ih0 _ _ _ _
      | exact ih1 _ _ _ _ _ _ _
      | exact ih2 _ _ _ _ _ _ _
      | exact norm_Binds.mono _ _
      | exact norm_Fill.mono _ _ _ _
      | exact pontoonlaw05_known.mono _
      | exact pontoonlaw05_light.mono _ _
      | exact pontoonref04_Same.mono _ _ _ _
      | exact pontoonref05_Binds.mono _ _
      | exact pontoonref05_Fill.mono _ _ _ _
      | exact LeO.none _
      | refine LeO.ite ?_ ?_
      | refine LeO.bind ?_ (fun _ => ?_)
    · intro y0 y1 y2 y3 y4 y5 y6
      unfold pontoonlaw05_NormFills.l1
      repeat' first
      | (with_reducible exact ih0 _ _ _ _)
      | (with_reducible exact ih1 _ _ _ _ _ _ _)
      | (with_reducible exact ih2 _ _ _ _ _ _ _)
      | (with_reducible exact norm_Binds.mono _ _)
      | (with_reducible exact norm_Fill.mono _ _ _ _)
      | (with_reducible exact pontoonlaw05_known.mono _)
      | (with_reducible exact pontoonlaw05_light.mono _ _)
      | (with_reducible exact pontoonref04_Same.mono _ _ _ _)
      | (with_reducible exact pontoonref05_Binds.mono _ _)
      | (with_reducible exact pontoonref05_Fill.mono _ _ _ _)
      | (with_reducible exact LeO.refl _)
      | (with_reducible exact LeO.none _)
      | (with_reducible refine LeO.ite ?_ ?_)
      | (with_reducible refine LeO.bind ?_ (fun _ => ?_))
      | exact ih0 _ _ _ _
      | exact ih1 _ _ _ _ _ _ _
      | exact ih2 _ _ _ _ _ _ _
      | exact norm_Binds.mono _ _
      | exact norm_Fill.mono _ _ _ _
      | exact pontoonlaw05_known.mono _
      | exact pontoonlaw05_light.mono _ _
      | exact pontoonref04_Same.mono _ _ _ _
      | exact pontoonref05_Binds.mono _ _
      | exact pontoonref05_Fill.mono _ _ _ _
      | exact LeO.none _
      | refine LeO.ite ?_ ?_
      | refine LeO.bind ?_ (fun _ => ?_)
theorem pontoonlaw05_NormFills.mono : ∀ a0 a1 a2 k, LeO (pontoonlaw05_NormFills.f k a0 a1 a2) (pontoonlaw05_NormFills.f (k + 1) a0 a1 a2) := by
  intro a0 a1 a2 k
  obtain ⟨ih0, ih1, ih2⟩ := pontoonlaw05_NormFills.mono_l k
  unfold pontoonlaw05_NormFills.f
  repeat' first
      | (with_reducible exact ih0 _ _ _ _)
      | (with_reducible exact ih1 _ _ _ _ _ _ _)
      | (with_reducible exact ih2 _ _ _ _ _ _ _)
      | (with_reducible exact norm_Binds.mono _ _)
      | (with_reducible exact norm_Fill.mono _ _ _ _)
      | (with_reducible exact pontoonlaw05_known.mono _)
      | (with_reducible exact pontoonlaw05_light.mono _ _)
      | (with_reducible exact pontoonref04_Same.mono _ _ _ _)
      | (with_reducible exact pontoonref05_Binds.mono _ _)
      | (with_reducible exact pontoonref05_Fill.mono _ _ _ _)
      | (with_reducible exact LeO.refl _)
      | (with_reducible exact LeO.none _)
      | (with_reducible refine LeO.ite ?_ ?_)
      | (with_reducible refine LeO.bind ?_ (fun _ => ?_))
      | exact ih0 _ _ _ _
      | exact ih1 _ _ _ _ _ _ _
      | exact ih2 _ _ _ _ _ _ _
      | exact norm_Binds.mono _ _
      | exact norm_Fill.mono _ _ _ _
      | exact pontoonlaw05_known.mono _
      | exact pontoonlaw05_light.mono _ _
      | exact pontoonref04_Same.mono _ _ _ _
      | exact pontoonref05_Binds.mono _ _
      | exact pontoonref05_Fill.mono _ _ _ _
      | exact LeO.none _
      | refine LeO.ite ?_ ?_
      | refine LeO.bind ?_ (fun _ => ?_)
set_option maxHeartbeats 8000000 in
set_option maxRecDepth 100000 in
theorem pontoonlaw05_NormFills.calls (k : Nat) (A0 : Option Addr) (c0 : Nat) (l0 : List (S35)) (A1 : Option Addr) (c1 : Nat) (l1 : List ByteArray) (A2 : Option Addr) (c2 : Nat) (l2 : List Bool) (r : Bool) (hT_ : r = true) (w : World) (hr0 : Kd.C k35 w A0 l0.length l0) (hc0 : l0.length ≤ c0) (hr1 : Kd.C Kd.string w A1 l1.length l1) (hc1 : l1.length ≤ c1) (hr2 : Kd.C Kd.bool w A2 l2.length l2) (hc2 : l2.length ≤ c2) (h : pontoonlaw05_NormFills.f k l0 l1 l2 = some r) :
    Calls Try.prog 4 #[.slice A0 l0.length c0, .slice A1 l1.length c1, .slice A2 l2.length c2] w fun e w' => e = .returned (.bool r) ∧ Below w.heap.size w w' := by
  have HR0 := Aside0.mk hr0
  have HC0 := Aside0.mk hc0
  clear hr0 hc0
  have HR1 := Aside0.mk hr1
  have HC1 := Aside0.mk hc1
  clear hr1 hc1
  have HR2 := Aside0.mk hr2
  have HC2 := Aside0.mk hc2
  clear hr2 hc2
  have HB := Aside0.mk (Below.refl w.heap.size w)
  have H : ((pontoonlaw05_light.f k l0).bind fun t303 => (if t303 = true then (if (l1.length : Int) > 60 then (pontoonlaw05_NormFills.j0 k l0 l1 l2 true) else (pontoonlaw05_NormFills.j0 k l0 l1 l2 (decide ((l2.length : Int) > 60)))) else (pontoonlaw05_NormFills.j0 k l0 l1 l2 true))) = some r := h
  clear h
  have HC4 := Aside0.mk H
  clear H
  go_enter Try.func4, Try.ntmps4
  go_upto_region 1 with (fail)
  go_cut [26] (fun v26 wc => ∃ (kq : Nat) (x26_3 : Bool), v26 = .bool x26_3 ∧ Aside0 (pontoonlaw05_NormFills.j0 kq l0 l1 l2 x26_3 = some r) ∧ Aside0 (kq ≤ k) ∧ Aside0 (Below w.heap.size w wc))
  case first =>
    have H := HC4.out
    clear HC4
    replace H := Option.bind_eq_some_iff.mp H
    obtain ⟨t303, A50, H⟩ := H
    replace H : (if t303 = true then (if (l1.length : Int) > 60 then (pontoonlaw05_NormFills.j0 k l0 l1 l2 true) else (pontoonlaw05_NormFills.j0 k l0 l1 l2 (decide ((l2.length : Int) > 60)))) else (pontoonlaw05_NormFills.j0 k l0 l1 l2 true)) = some r := H
    have A5 := Aside0.mk A50
    clear A50
    by_cases c6 : t303 = true
    · subst c6
      have H1 : (if (l1.length : Int) > 60 then (pontoonlaw05_NormFills.j0 k l0 l1 l2 true) else (pontoonlaw05_NormFills.j0 k l0 l1 l2 (decide ((l2.length : Int) > 60)))) = some r := by rw [if_pos rfl] at H; exact H
      clear H
      have H := H1
      clear H1
      by_cases c7 : (l1.length : Int) > 60
      · rw [if_pos c7] at H
        have c7b0 : decide (60 < (l1.length : Int)) = true := decide_eq_true c7
        have c7b1 : decide (60 < l1.length) = true := decide_eq_true (by omega)
        clear c7
        (first | rw [c7b0] | (simp only [i64_w, i32_w]; rw [c7b0]) | skip)
        have H' := Aside0.mk H
        clear H
        go_wp2_with (first | ((with_reducible refine gate_callee (f := 7) rfl ?_); refine goesL_ (some 15) rfl rfl Try.func7 (by kernel_rfl) rfl #[.slice A0 l0.length c0] rfl (by (try simp only [List.map_toArray, List.map_cons, List.map_nil]); first | done | rfl | (simp only [List.length_drop, List.length_take]; rfl)) ?_; (with_reducible refine (pontoonlaw05_light.calls k _ _ l0 true _ ?side1 ?side2 A5.out).mono ?_); (case side1 => repeat (first | exact (Kd.C_below HR0.out HB.out) | (with_reducible refine Kd.C_alloc ?_ _) | (with_reducible refine Kd.C_drewN ?_ _) | (with_reducible refine Kd.C_drew ?_))); (case side2 => exact HC0.out); rintro e w' ⟨rfl, ⟨nd, rfl⟩⟩; refine ⟨_, rfl, ?_⟩))
        go_meet
        case rel => exact ⟨_, (true), (by first | rfl | (simp; done) | (simp [*]; done)), H', ⟨by first | omega | exact Nat.le_refl _⟩, ⟨by repeat (first | (with_reducible first | exact HB.out | apply below_alloc | apply pw_below_drewN | apply below_drew1) | exact HB.out)⟩⟩
      · rw [if_neg c7] at H
        have c7b0 : decide (60 < (l1.length : Int)) = false := decide_eq_false c7
        have c7b1 : decide (60 < l1.length) = false := decide_eq_false (by omega)
        clear c7
        (first | rw [c7b0] | (simp only [i64_w, i32_w]; rw [c7b0]) | skip)
        have H' := Aside0.mk H
        clear H
        go_wp2_with (first | ((with_reducible refine gate_callee (f := 7) rfl ?_); refine goesL_ (some 15) rfl rfl Try.func7 (by kernel_rfl) rfl #[.slice A0 l0.length c0] rfl (by (try simp only [List.map_toArray, List.map_cons, List.map_nil]); first | done | rfl | (simp only [List.length_drop, List.length_take]; rfl)) ?_; (with_reducible refine (pontoonlaw05_light.calls k _ _ l0 true _ ?side1 ?side2 A5.out).mono ?_); (case side1 => repeat (first | exact (Kd.C_below HR0.out HB.out) | (with_reducible refine Kd.C_alloc ?_ _) | (with_reducible refine Kd.C_drewN ?_ _) | (with_reducible refine Kd.C_drew ?_))); (case side2 => exact HC0.out); rintro e w' ⟨rfl, ⟨nd, rfl⟩⟩; refine ⟨_, rfl, ?_⟩))
        go_meet
        case rel => exact ⟨_, (decide ((l2.length : Int) > 60)), (by first | rfl | (simp; done) | (simp [*]; done)), H', ⟨by first | omega | exact Nat.le_refl _⟩, ⟨by repeat (first | (with_reducible first | exact HB.out | apply below_alloc | apply pw_below_drewN | apply below_drew1) | exact HB.out)⟩⟩
    · replace c6 := Bool.eq_false_iff.mpr c6
      subst c6
      have H1 : (pontoonlaw05_NormFills.j0 k l0 l1 l2 true) = some r := by rw [if_neg (show ¬ (false = true) by decide)] at H; exact H
      clear H
      have H := H1
      clear H1
      have H' := Aside0.mk H
      clear H
      go_wp2_with (first | ((with_reducible refine gate_callee (f := 7) rfl ?_); refine goesL_ (some 15) rfl rfl Try.func7 (by kernel_rfl) rfl #[.slice A0 l0.length c0] rfl (by (try simp only [List.map_toArray, List.map_cons, List.map_nil]); first | done | rfl | (simp only [List.length_drop, List.length_take]; rfl)) ?_; (with_reducible refine (pontoonlaw05_light.calls k _ _ l0 false _ ?side1 ?side2 A5.out).mono ?_); (case side1 => repeat (first | exact (Kd.C_below HR0.out HB.out) | (with_reducible refine Kd.C_alloc ?_ _) | (with_reducible refine Kd.C_drewN ?_ _) | (with_reducible refine Kd.C_drew ?_))); (case side2 => exact HC0.out); rintro e w' ⟨rfl, ⟨nd, rfl⟩⟩; refine ⟨_, rfl, ?_⟩))
      go_meet
      case rel => exact ⟨_, (true), (by first | rfl | (simp; done) | (simp [*]; done)), H', ⟨by first | omega | exact Nat.le_refl _⟩, ⟨by repeat (first | (with_reducible first | exact HB.out | apply below_alloc | apply pw_below_drewN | apply below_drew1) | exact HB.out)⟩⟩
  case rest =>
    clear HC4
    try clear c1
    try clear c2
    try clear p2
    try clear c4
    try clear c6
    try clear c7
    try clear c7b0
    try clear c7b1
    obtain ⟨kq, x26_3, rfl, HA, HJ3, HB⟩ := hcut
    cases kq with
    | zero => exact absurd HA.out (by simp [pontoonlaw05_NormFills.j0])
    | succ kj3 =>
      have H := HA.out
      clear HA
      simp only [pontoonlaw05_NormFills.j0] at H
      by_cases c8 : x26_3 = true
      · subst c8
        have H1 : ((pontoonlaw05_known.f kj3).bind fun t304 => (some t304)) = some r := by rw [if_pos rfl] at H; exact H
        clear H
        have H := H1
        clear H1
        replace H := Option.bind_eq_some_iff.mp H
        obtain ⟨t304, A90, H⟩ := H
        replace H : (some t304) = some r := H
        have A9 := Aside0.mk A90
        clear A90
        obtain rfl := Option.some.inj H
        try clear hT_
        go_wp2_with (first | ((with_reducible refine gate_callee (f := 8) rfl ?_); refine goesL_ (some 27) rfl rfl Try.func8 (by kernel_rfl) rfl #[] rfl (by (try simp only [List.map_toArray, List.map_cons, List.map_nil]); first | done | rfl | (simp only [List.length_drop, List.length_take]; rfl)) ?_; (with_reducible refine (pontoonlaw05_known.calls kj3  t304 _ A9.out).mono ?_); rintro e w10 ⟨rfl, hb⟩; refine ⟨_, rfl, ?_⟩; have n0_ := Aside0.mk (below_step (by repeat (first | (with_reducible first | exact HB.out | apply below_alloc | apply pw_below_drewN | apply below_drew1) | exact HB.out)) hb); clear HB; have HB := n0_; clear n0_; (try clear hb); (try clear hb2); (try clear hk); (try clear hi)))
        go_ret
        exact ⟨by first | rfl | (simp [errW_none, errW_some] <;> rfl) | (simp [*, errW_none, errW_some] <;> rfl), by repeat (first | (with_reducible first | exact HB.out | apply below_alloc | apply pw_below_drewN | apply below_drew1) | exact HB.out)⟩
      · replace c8 := Bool.eq_false_iff.mpr c8
        subst c8
        have H1 : ((some (([] : List (S35)) : List (S35))).bind fun y305 => (if y305.length + l0.length < 4398046511104 then ((some (y305 ++ l0 : List (S35))).bind fun y308 => ((norm_Fill.f kj3 y308 l1 l2).bind fun bt311 => ((pontoonref05_Fill.f kj3 l0 l1 l2).bind fun bt315 => (pontoonlaw05_NormFills.l0 kj3 l0 y308 bt311.1 bt311.2 bt315.1 bt315.2 0)))) else (none))) = some r := by rw [if_neg (show ¬ (false = true) by decide)] at H; exact H
        clear H
        have H := H1
        clear H1
        obtain ⟨y305, hy305⟩ : ∃ y_ : List (S35), y_ = (([] : List (S35))) := ⟨_, rfl⟩
        replace H : (if y305.length + l0.length < 4398046511104 then ((some (y305 ++ l0 : List (S35))).bind fun y308 => ((norm_Fill.f kj3 y308 l1 l2).bind fun bt311 => ((pontoonref05_Fill.f kj3 l0 l1 l2).bind fun bt315 => (pontoonlaw05_NormFills.l0 kj3 l0 y308 bt311.1 bt311.2 bt315.1 bt315.2 0)))) else (none)) = some r := by first | (rw [hy305]; with_reducible exact H) | (have H2_ := (Option.bind_some _ _).symm.trans H; rw [hy305]; with_reducible exact H2_) | (have H2_ := (Option.bind_some _ _).symm.trans H; with_reducible exact H2_) | with_reducible exact H | (rw [hy305]; exact H) | exact H
        have Ny305 := Aside0.mk hy305
        clear hy305
        by_cases c11 : y305.length + l0.length < 4398046511104
        · rw [if_pos c11] at H
          have LMc11 := Aside0.mk c11
          clear c11
          obtain ⟨y308, hy308⟩ : ∃ y_ : List (S35), y_ = (y305 ++ l0) := ⟨_, rfl⟩
          replace H : ((norm_Fill.f kj3 y308 l1 l2).bind fun bt311 => ((pontoonref05_Fill.f kj3 l0 l1 l2).bind fun bt315 => (pontoonlaw05_NormFills.l0 kj3 l0 y308 bt311.1 bt311.2 bt315.1 bt315.2 0))) = some r := by first | (rw [hy308]; with_reducible exact H) | (have H2_ := (Option.bind_some _ _).symm.trans H; rw [hy308]; with_reducible exact H2_) | (have H2_ := (Option.bind_some _ _).symm.trans H; with_reducible exact H2_) | with_reducible exact H | (rw [hy308]; exact H) | exact H
          have Ny308 := Aside0.mk hy308
          clear hy308
          replace H := Option.bind_eq_some_iff.mp H
          obtain ⟨⟨t311, t312⟩, A120, H⟩ := H
          replace H : ((pontoonref05_Fill.f kj3 l0 l1 l2).bind fun bt315 => (pontoonlaw05_NormFills.l0 kj3 l0 y308 t311 t312 bt315.1 bt315.2 0)) = some r := H
          have A12 := Aside0.mk A120
          clear A120
          replace H := Option.bind_eq_some_iff.mp H
          obtain ⟨⟨t315, t316⟩, A130, H⟩ := H
          replace H : (pontoonlaw05_NormFills.l0 kj3 l0 y308 t311 t312 t315 t316 0) = some r := H
          have A13 := Aside0.mk A130
          clear A130
          have H' := Aside0.mk H
          clear H
          go_wp2_with (first | ((with_reducible refine gate_dst (N := 28) rfl ?_); (try (refine gate_guard (by rfl) ?_; dsimp only)); refine Kd.R_lit k35 _ 35 ?hg (N := 28) ?hd (xs := ([] : List (S35))) (inner := []) (ok := fun _ => True) (okp := fun _ => True) ?hr ?hp (fun _ hk => hk) trivial (Below.refl _ _) (Nat.le_refl _) (by simp) ?_; (case hd => rfl); (case hg => rfl); (case hr => first | (go_simp; done) | (go_simp; rfl)); (case hp => exact (Reps.none _ _)); intro v306 w14 ho15 hb hg_ hnew_; clear hg_ hnew_; (first | rw [← Ny305.out] at ho15 | (simp only [Int.reduceToNat] at ho15; rw [← Ny305.out] at ho15)); have n0_ := Aside0.mk (Kd.R_lower ho15 (below_size (by repeat (first | (with_reducible first | exact HB.out | apply below_alloc | apply pw_below_drewN | apply below_drew1) | exact HB.out)))); have n1_ := Aside0.mk (below_step (by repeat (first | (with_reducible first | exact HB.out | apply below_alloc | apply pw_below_drewN | apply below_drew1) | exact HB.out)) hb); clear HB; have HO307 := n0_; have HB := n1_; clear n0_ n1_; clear hb ho15) | ((with_reducible refine gate_builtin (b := .append) (xs := #[.tmp 28, .tmp 29]) rfl ?_); (try (refine gate_guard (by rfl) ?_; dsimp only)); at_builtin; refine Kd.R_append_rows k35 (w0 := w) w.heap.size rfl (.tmp 28) (.tmp 29) 22 35 (.agg #[(.int .i64 0), (.string ⟨#[]⟩), (.int .i64 0)]) 32 rfl Try.underlying22 info35 rfl (by decide) (by omega) v306 y305 l0 _ _ _ (fun _ => True) (fun _ => False) rfl rfl ?aO ?aR (fun _ _ h => h) (fun _ h => h.elim) ?aF ?aB ?aS ?aL ?_; (case aR => repeat (first | exact (Kd.C_below HR0.out HB.out) | (with_reducible refine Kd.C_alloc ?_ _) | (with_reducible refine Kd.C_drewN ?_ _) | (with_reducible refine Kd.C_drew ?_))); (case aB => exact (by repeat (first | (with_reducible first | exact HB.out | apply below_alloc | apply pw_below_drewN | apply below_drew1) | exact HB.out))); (case aF => exact (fun _ _ => trivial)); (case aO => exact (by (with_reducible repeat (first | apply Kd.R_alloc | apply Kd.R_drewN | apply Kd.R_drew)); exact HO307.out)); (case aS => exact (below_size (by repeat (first | (with_reducible first | exact HB.out | apply below_alloc | apply pw_below_drewN | apply below_drew1) | exact HB.out)))); (case aL => have := LMc11.out; omega); intro v309 w16 ho hb hg hat; rw [← Ny308.out] at ho; have n0_ := Aside0.mk (hb); have n1_ := Aside0.mk (ho); clear HB; clear HO307; have HB := n0_; have HO310 := n1_; clear n0_ n1_; clear ho hb hg hat; obtain ⟨Ao17, co17, eo17⟩ := Kd.R_slice HO310.out; subst eo17) | ((with_reducible refine gate_callee (f := 13) rfl ?_); refine goesL_ (some 35) rfl rfl Try.func13 (by kernel_rfl) rfl #[.slice Ao17 y308.length co17, .slice A1 l1.length c1, .slice A2 l2.length c2] rfl (by (try simp only [List.map_toArray, List.map_cons, List.map_nil]); first | done | rfl | (simp only [List.length_drop, List.length_take]; rfl)) ?_; (with_reducible refine (norm_Fill.calls kj3 _ _ y308 _ _ l1 _ _ l2 t311 t312 _ ?side1 ?side2 ?side3 ?side4 ?side5 ?side6 A12.out).mono ?_); (case side1 => repeat (first | exact (Kd.R_reads' HO310.out).2.2 | (with_reducible refine Kd.C_alloc ?_ _) | (with_reducible refine Kd.C_drewN ?_ _) | (with_reducible refine Kd.C_drew ?_))); (case side2 => exact (Kd.R_reads' HO310.out).2.1); (case side3 => repeat (first | exact (Kd.C_below HR1.out HB.out) | (with_reducible refine Kd.C_alloc ?_ _) | (with_reducible refine Kd.C_drewN ?_ _) | (with_reducible refine Kd.C_drew ?_))); (case side4 => exact HC1.out); (case side5 => repeat (first | exact (Kd.C_below HR2.out HB.out) | (with_reducible refine Kd.C_alloc ?_ _) | (with_reducible refine Kd.C_drewN ?_ _) | (with_reducible refine Kd.C_drew ?_))); (case side6 => exact HC2.out); rintro e w18 ⟨v313, rfl, ho0, hb⟩; refine ⟨_, rfl, ?_⟩; have n0_ := Aside0.mk (Kd.R_elder' (by (with_reducible repeat (first | apply Kd.R_alloc | apply Kd.R_drewN | apply Kd.R_drew)); exact HO310.out) (Kd.R_base ho0) hb); have n1_ := Aside0.mk (Kd.R_lower (Kd.R_new' ho0 (Kd.R_lt (by (with_reducible repeat (first | apply Kd.R_alloc | apply Kd.R_drewN | apply Kd.R_drew)); exact HO310.out))) (below_size (by repeat (first | (with_reducible first | exact HB.out | apply below_alloc | apply pw_below_drewN | apply below_drew1) | exact HB.out)))); have n2_ := Aside0.mk (below_step (by repeat (first | (with_reducible first | exact HB.out | apply below_alloc | apply pw_below_drewN | apply below_drew1) | exact HB.out)) hb); clear HO310; clear HB; have HO310 := n0_; have HO314 := n1_; have HB := n2_; clear n0_ n1_ n2_; (try clear hb); (try clear hb2); (try clear hk); (try clear hi); (try clear ho0)) | ((with_reducible refine gate_callee (f := 14) rfl ?_); refine goesL_ (some 42) rfl rfl Try.func14 (by kernel_rfl) rfl #[.slice A0 l0.length c0, .slice A1 l1.length c1, .slice A2 l2.length c2] rfl (by (try simp only [List.map_toArray, List.map_cons, List.map_nil]); first | done | rfl | (simp only [List.length_drop, List.length_take]; rfl)) ?_; (with_reducible refine (pontoonref05_Fill.calls kj3 _ _ l0 _ _ l1 _ _ l2 t315 t316 _ ?side1 ?side2 ?side3 ?side4 ?side5 ?side6 A13.out).mono ?_); (case side1 => repeat (first | exact (Kd.C_below HR0.out HB.out) | (with_reducible refine Kd.C_alloc ?_ _) | (with_reducible refine Kd.C_drewN ?_ _) | (with_reducible refine Kd.C_drew ?_))); (case side2 => exact HC0.out); (case side3 => repeat (first | exact (Kd.C_below HR1.out HB.out) | (with_reducible refine Kd.C_alloc ?_ _) | (with_reducible refine Kd.C_drewN ?_ _) | (with_reducible refine Kd.C_drew ?_))); (case side4 => exact HC1.out); (case side5 => repeat (first | exact (Kd.C_below HR2.out HB.out) | (with_reducible refine Kd.C_alloc ?_ _) | (with_reducible refine Kd.C_drewN ?_ _) | (with_reducible refine Kd.C_drew ?_))); (case side6 => exact HC2.out); rintro e w19 ⟨v317, rfl, ho0, hb⟩; refine ⟨_, rfl, ?_⟩; have n0_ := Aside0.mk (Kd.R_elder' (by (with_reducible repeat (first | apply Kd.R_alloc | apply Kd.R_drewN | apply Kd.R_drew)); exact HO310.out) (Kd.R_base ho0) hb); have n1_ := Aside0.mk (Kd.R_elder' (by (with_reducible repeat (first | apply Kd.R_alloc | apply Kd.R_drewN | apply Kd.R_drew)); exact HO314.out) (Kd.R_base ho0) hb); have n2_ := Aside0.mk (Kd.R_lower (Kd.R_new' (Kd.R_new' ho0 (Kd.R_lt (by (with_reducible repeat (first | apply Kd.R_alloc | apply Kd.R_drewN | apply Kd.R_drew)); exact HO310.out))) (Kd.R_lt (by (with_reducible repeat (first | apply Kd.R_alloc | apply Kd.R_drewN | apply Kd.R_drew)); exact HO314.out))) (below_size (by repeat (first | (with_reducible first | exact HB.out | apply below_alloc | apply pw_below_drewN | apply below_drew1) | exact HB.out)))); have n3_ := Aside0.mk (below_step (by repeat (first | (with_reducible first | exact HB.out | apply below_alloc | apply pw_below_drewN | apply below_drew1) | exact HB.out)) hb); clear HO310; clear HO314; clear HB; have HO310 := n0_; have HO314 := n1_; have HO318 := n2_; have HB := n3_; clear n0_ n1_ n2_ n3_; (try clear hb); (try clear hb2); (try clear hk); (try clear hi); (try clear ho0)))
          go_loopg [12] kj3 (fun kq v12 w' => ∃ (x8_2 : List (S35)) (x12_2 : Int), v12 = .int .i64 x12_2 ∧ Aside0 (pontoonlaw05_NormFills.l0 kq l0 y308 x8_2 t312 t315 t316 x12_2 = some r) ∧ Aside0 (kq ≤ kj3) ∧ Aside0 (Kd.R k35 35 w' w.heap.size (fun k_ => some k_ ≠ (v313 : Value).ownBlock ∧ some k_ ≠ (v317 : Value).ownBlock) (.slice Ao17 y308.length co17) y308) ∧ Aside0 (Kd.R k35 35 w' w.heap.size (fun k_ => some k_ ≠ ((.slice Ao17 y308.length co17) : Value).ownBlock ∧ some k_ ≠ (v317 : Value).ownBlock) v313 x8_2) ∧ Aside0 (Kd.R k35 35 w' w.heap.size (fun k_ => some k_ ≠ ((.slice Ao17 y308.length co17) : Value).ownBlock ∧ some k_ ≠ (v313 : Value).ownBlock) v317 t315) ∧ Aside0 (Below w.heap.size w w'))
          case atStart => exact ⟨(t311), (0), (by first | rfl | (simp; done) | (simp [*]; done)), H', ⟨Nat.le_refl _⟩, ⟨by (with_reducible repeat (first | apply Kd.R_alloc | apply Kd.R_drewN | apply Kd.R_drew)); exact Kd.R_mono HO310.out (fun _ hk => ⟨hk.1.2, hk.2⟩)⟩, ⟨by (with_reducible repeat (first | apply Kd.R_alloc | apply Kd.R_drewN | apply Kd.R_drew)); exact Kd.R_mono HO314.out (fun _ hk => ⟨hk.1.2, hk.2⟩)⟩, ⟨by (with_reducible repeat (first | apply Kd.R_alloc | apply Kd.R_drewN | apply Kd.R_drew)); exact Kd.R_mono HO318.out (fun _ hk => ⟨hk.1.2, hk.2⟩)⟩, ⟨by repeat (first | (with_reducible first | exact HB.out | apply below_alloc | apply pw_below_drewN | apply below_drew1) | exact HB.out)⟩⟩
          case round =>
            clear H'
            try clear c1
            try clear c2
            try clear p2
            try clear c4
            try clear c6
            try clear c7
            try clear c7b0
            try clear c7b1
            try clear c8
            try clear c11
            try clear c13
            try clear c14
            try clear p2
            obtain ⟨x8_2, x12_2, rfl, HA, HK2, HO_7, HO_8, HO_10, HB⟩ := hrel
            cases gk with
            | zero => exact absurd HA.out (by simp [pontoonlaw05_NormFills.l0])
            | succ k2 =>
              have H := HA.out
              clear HA
              simp only [pontoonlaw05_NormFills.l0] at H
              by_cases c20 : x12_2 < (x8_2.length : Int)
              · rw [if_pos c20] at H
                have c20b0 : decide (x12_2 < (x8_2.length : Int)) = true := decide_eq_true c20
                clear c20
                by_cases c21 : 0 ≤ x12_2
                · rw [if_pos c21] at H
                  have c21b0 : decide (0 ≤ x12_2) = true := decide_eq_true c21
                  clear c21
                  obtain ⟨y320, hy320⟩ : ∃ y_ : List (S35), y_ = (x8_2.set (x12_2 : Int).toNat (⟨(rd_T35 x8_2 x12_2).f0, (rd_T35 x8_2 x12_2).f1, wrap64 (((rd_T35 x8_2 x12_2).f2) + 1)⟩ : S35)) := ⟨_, rfl⟩
                  replace H : (pontoonlaw05_NormFills.l0 k2 l0 y308 y320 t312 t315 t316 (wrap64 (x12_2 + 1))) = some r := by first | (rw [hy320]; with_reducible exact H) | (have H2_ := (Option.bind_some _ _).symm.trans H; rw [hy320]; with_reducible exact H2_) | (have H2_ := (Option.bind_some _ _).symm.trans H; with_reducible exact H2_) | with_reducible exact H | (rw [hy320]; exact H) | exact H
                  have Ny320 := Aside0.mk hy320
                  clear hy320
                  have H' := Aside0.mk H
                  clear H
                  obtain ⟨Ao23, co23, eo23⟩ := Kd.R_slice HO_8.out
                  subst eo23
                  have p319 : 0 ≤ (x12_2 : Int) := of_decide_eq_true (by first | (with_reducible assumption) | assumption)
                  have q319 : x12_2 < (x8_2.length : Int) := of_decide_eq_true (by first | (with_reducible assumption) | assumption)
                  obtain ⟨ad319, e319, hx319_0, hx319_1, hx319_2⟩ := at_T35 (Kd.R_reads' HO_8.out).2.2 x12_2 p319 q319
                  cases e319
                  have q319n := q319
                  replace p319 := eq_true p319
                  replace q319 := eq_true q319
                  have p22 : 0 ≤ (x12_2 : Int) := of_decide_eq_true (by first | (with_reducible assumption) | assumption)
                  have q22 : (x12_2 : Int) < ((x8_2.length : Int) : Int) := of_decide_eq_true (by first | (with_reducible assumption) | assumption)
                  obtain ⟨go22, co22, eo22, gb22, gl22, cl22, HG22⟩ := Kd.R_form HO_8.out (by omega)
                  (first | cases eo22 | (injection eo22 with ea_ en_ ec_; (first | subst ea_ | (injection ea_ with ea_; subst ea_)); subst ec_; clear en_))
                  have GB22 := Aside0.mk gb22
                  have GG22 := Aside0.mk HG22
                  clear gb22 gl22 HG22
                  (first | simp only [add_plain] at hx319_0 | skip)
                  (first | simp only [add_plain] at hx319_1 | skip)
                  (first | simp only [add_plain] at hx319_2 | skip)
                  obtain ⟨ce22, hcl22, hM22, hcc22, hfr22⟩ := Kd.R_elem HO_8.out z35 (x12_2 : Int) p22 q22
                  obtain rfl := k35_openM hM22
                  have hx22_0 : wr.cell? ⟨go22, (x12_2 : Int).toNat * 3, none⟩ = some (.int .i64 ((rd_T35 x8_2 x12_2).f0)) := hcc22 0 _ rfl
                  have hx22_1 : wr.cell? ⟨go22, (x12_2 : Int).toNat * 3 + 1, none⟩ = some (.string ((rd_T35 x8_2 x12_2).f1)) := hcc22 1 _ rfl
                  have hx22_2 : wr.cell? ⟨go22, (x12_2 : Int).toNat * 3 + 2, none⟩ = some (.int .i64 ((rd_T35 x8_2 x12_2).f2)) := hcc22 2 _ rfl
                  have hf22_0 : wr.frozen? ⟨go22, (x12_2 : Int).toNat * 3, none⟩ = false := hfr22 0
                  have hf22_1 : wr.frozen? ⟨go22, (x12_2 : Int).toNat * 3 + 1, none⟩ = false := hfr22 1
                  have hf22_2 : wr.frozen? ⟨go22, (x12_2 : Int).toNat * 3 + 2, none⟩ = false := hfr22 2
                  clear hcl22 hcc22 hfr22 hM22
                  have q22n := q22
                  replace p22 := eq_true p22
                  replace q22 := eq_true q22
                  have HX24 := Aside0.mk (show Kd.R k35 35 wr w.heap.size (fun k_ => some k_ ≠ (.slice Ao17 y308.length co17 : Value).ownBlock ∧ some k_ ≠ (v317 : Value).ownBlock) (.slice (some ⟨go22, 0, none⟩) x8_2.length co23) x8_2 from (by (with_reducible repeat (first | apply Kd.R_alloc | apply Kd.R_drewN | apply Kd.R_drew)); exact HO_8.out))
                  obtain ⟨ce24, hcl24, hM24, hcc24, hfr24⟩ := Kd.R_elem HX24.out z35 (x12_2 : Int) (of_decide_eq_true (by first | (with_reducible assumption) | assumption)) (by have h_ : (x12_2 : Int) < ((x8_2.length : Int) : Int) := of_decide_eq_true (by first | (with_reducible assumption) | assumption); first | exact h_ | (have e_ := (Kd.R_reads' HO_8.out).1; omega) | simpa using h_)
                  obtain rfl := k35_openM hM24
                  have HP24 := Kd.R_seg HX24.out (x12_2 : Int) (of_decide_eq_true (by first | (with_reducible assumption) | assumption)) (by have h_ : (x12_2 : Int) < ((x8_2.length : Int) : Int) := of_decide_eq_true (by first | (with_reducible assumption) | assumption); first | exact h_ | (have e_ := (Kd.R_reads' HO_8.out).1; omega) | simpa using h_) (seg := [.int .i64 (wrap64 (((rd_T35 x8_2 x12_2).f2) + 1))]) (j := 2) hcl24 hcc24 (show 3 ≤ 3 from by decide) (x' := (⟨(rd_T35 x8_2 x12_2).f0, (rd_T35 x8_2 x12_2).f1, wrap64 (((rd_T35 x8_2 x12_2).f2) + 1)⟩ : S35)) (k35_mkM _ _ _ (⟨(rd_T35 x8_2 x12_2).f0, (rd_T35 x8_2 x12_2).f1, wrap64 (((rd_T35 x8_2 x12_2).f2) + 1)⟩ : S35) ) (fun _ hk => hk)
                  have hx24_2 := hcc24 2 _ rfl
                  (try simp only [show (k35).sz = 3 from rfl, Nat.mul_one, Nat.add_zero] at hx24_2)
                  have hf24_2 := hfr24 2
                  (try simp only [show (k35).sz = 3 from rfl, Nat.mul_one, Nat.add_zero] at hf24_2)
                  clear hcl24 hcc24 hfr24 hM24
                  go_wp2_with (first | ((with_reducible refine gate_store (t := 3) (p := 58) rfl ?_); refine store_event (t := 3) (p := 58) (v := ?vo_w25) (w1 := (wr.setCell ⟨go22, (x12_2 : Int).toNat * 3 + 2, none⟩ (.int .i64 (wrap64 (((rd_T35 x8_2 x12_2).f2) + 1))))) ?hg ?ho ?hn ?hr ?_; (case ho => rfl); (case hg => rfl); (case hn => rfl); (case hr => first | (go_simp; done) | (go_simp; rfl)); intro w25 hw; have hg : wr.grownBy w25 (some go22) := (by rw [hw]; exact HP24.2); have hp_ : Kd.R k35 35 w25 w.heap.size (fun k_ => some k_ ≠ (.slice Ao17 y308.length co17 : Value).ownBlock ∧ some k_ ≠ (v317 : Value).ownBlock) (.slice (some ⟨go22, 0, none⟩) x8_2.length co23) y320 := (by rw [hw, Ny320.out]; exact HP24.1); clear HP24; have n0_ := Aside0.mk (Kd.R_after (v := (.slice (some ⟨go22, 0, none⟩) x8_2.length co23)) (v1 := (.slice (some ⟨go22, 0, none⟩) x8_2.length co23)) (ok := (fun k_ => some k_ ≠ (v317 : Value).ownBlock)) (by (with_reducible repeat (first | apply Kd.R_alloc | apply Kd.R_drewN | apply Kd.R_drew)); exact Kd.R_mono HO_7.out (fun _ hk => ⟨hk.2, hk.1⟩)) hg (.inl rfl)); have n1_ := Aside0.mk (hp_); have n2_ := Aside0.mk (Kd.R_after (v := (.slice (some ⟨go22, 0, none⟩) x8_2.length co23)) (v1 := (.slice (some ⟨go22, 0, none⟩) x8_2.length co23)) (ok := (fun k_ => some k_ ≠ (.slice Ao17 y308.length co17 : Value).ownBlock)) (by (with_reducible repeat (first | apply Kd.R_alloc | apply Kd.R_drewN | apply Kd.R_drew)); exact HO_10.out) hg (.inl rfl)); have n3_ := Aside0.mk ((by rw [hw]; exact below_set (HB.out) GB22.out : Below w.heap.size w w25)); clear HO_7; clear HO_8; clear HO_10; clear HB; have HO_7 := n0_; have HO_8 := n1_; have HO_10 := n2_; have HB := n3_; clear n0_ n1_ n2_ n3_; clear hg hw hp_))
                  go_roundg k2
                  case measure => have := HJ3.out; have := HK2.out; omega
                  case rel => exact ⟨(y320), (wrap64 (x12_2 + 1)), (by first | rfl | (simp; done) | (simp [*]; done)), H', ⟨by have := HJ3.out; have := HK2.out; omega⟩, ⟨by (with_reducible repeat (first | apply Kd.R_alloc | apply Kd.R_drewN | apply Kd.R_drew)); exact Kd.R_mono HO_7.out (fun _ hk => ⟨hk.2, hk.1⟩)⟩, ⟨by (with_reducible repeat (first | apply Kd.R_alloc | apply Kd.R_drewN | apply Kd.R_drew)); exact HO_8.out⟩, ⟨by (with_reducible repeat (first | apply Kd.R_alloc | apply Kd.R_drewN | apply Kd.R_drew)); exact HO_10.out⟩, ⟨by repeat (first | (with_reducible first | exact HB.out | apply below_alloc | apply pw_below_drewN | apply below_drew1) | exact HB.out)⟩⟩
                · rw [if_neg c21] at H
                  exact absurd H (by simp)
              · rw [if_neg c20] at H
                have c20b0 : decide (x12_2 < (x8_2.length : Int)) = false := decide_eq_false c20
                clear c20
                have H' := Aside0.mk H
                clear H
                obtain ⟨Ao26, co26, eo26⟩ := Kd.R_slice HO_8.out
                subst eo26
                go_wp2
                go_loopg [13] k2 (fun kq v13 w' => ∃ (x10_3 : List (S35)) (x13_3 : Int), v13 = .int .i64 x13_3 ∧ Aside0 (pontoonlaw05_NormFills.l1 kq l0 y308 x8_2 t312 x10_3 t316 x13_3 = some r) ∧ Aside0 (kq ≤ k2) ∧ Aside0 (Kd.R k35 35 w' w.heap.size (fun k_ => some k_ ≠ ((.slice Ao26 x8_2.length co26) : Value).ownBlock ∧ some k_ ≠ (v317 : Value).ownBlock) (.slice Ao17 y308.length co17) y308) ∧ Aside0 (Kd.R k35 35 w' w.heap.size (fun k_ => some k_ ≠ ((.slice Ao17 y308.length co17) : Value).ownBlock ∧ some k_ ≠ (v317 : Value).ownBlock) (.slice Ao26 x8_2.length co26) x8_2) ∧ Aside0 (Kd.R k35 35 w' w.heap.size (fun k_ => some k_ ≠ ((.slice Ao17 y308.length co17) : Value).ownBlock ∧ some k_ ≠ ((.slice Ao26 x8_2.length co26) : Value).ownBlock) v317 x10_3) ∧ Aside0 (Below w.heap.size w w'))
                case atStart => exact ⟨(t315), (0), (by first | rfl | (simp; done) | (simp [*]; done)), H', ⟨Nat.le_refl _⟩, ⟨by (with_reducible repeat (first | apply Kd.R_alloc | apply Kd.R_drewN | apply Kd.R_drew)); exact HO_7.out⟩, ⟨by (with_reducible repeat (first | apply Kd.R_alloc | apply Kd.R_drewN | apply Kd.R_drew)); exact HO_8.out⟩, ⟨by (with_reducible repeat (first | apply Kd.R_alloc | apply Kd.R_drewN | apply Kd.R_drew)); exact HO_10.out⟩, ⟨by repeat (first | (with_reducible first | exact HB.out | apply below_alloc | apply pw_below_drewN | apply below_drew1) | exact HB.out)⟩⟩
                case round =>
                  clear H'
                  try clear c1
                  try clear c2
                  try clear p2
                  try clear q2
                  try clear hx2
                  try clear p3
                  try clear q3
                  try clear hx3
                  try clear c4
                  try clear c6
                  try clear p6
                  try clear c7
                  try clear c7b0
                  try clear c7b1
                  try clear c8
                  try clear c11
                  try clear c13
                  try clear c14
                  try clear c20
                  try clear c20b0
                  try clear c21
                  try clear c21b0
                  try clear c22
                  try clear p22
                  try clear q22
                  try clear hx22
                  try clear hf22
                  try clear c24
                  try clear hx24
                  try clear hf24
                  try clear hx22_0
                  try clear hx22_1
                  try clear hx22_2
                  try clear hx24_2
                  try clear hx319_0
                  try clear hx319_1
                  try clear hx319_2
                  try clear p2
                  try clear p22
                  try clear p319
                  try clear q22
                  try clear q319
                  obtain ⟨x10_3, x13_3, rfl, HA, HK3, HO_7, HO_8, HO_10, HB⟩ := hrel
                  cases gk with
                  | zero => exact absurd HA.out (by simp [pontoonlaw05_NormFills.l1])
                  | succ k3 =>
                    have H := HA.out
                    clear HA
                    simp only [pontoonlaw05_NormFills.l1] at H
                    by_cases c27 : x13_3 < (x10_3.length : Int)
                    · rw [if_pos c27] at H
                      have c27b0 : decide (x13_3 < (x10_3.length : Int)) = true := decide_eq_true c27
                      clear c27
                      by_cases c28 : 0 ≤ x13_3
                      · rw [if_pos c28] at H
                        have c28b0 : decide (0 ≤ x13_3) = true := decide_eq_true c28
                        clear c28
                        obtain ⟨y322, hy322⟩ : ∃ y_ : List (S35), y_ = (x10_3.set (x13_3 : Int).toNat (⟨(rd_T35 x10_3 x13_3).f0, (rd_T35 x10_3 x13_3).f1, wrap64 (((rd_T35 x10_3 x13_3).f2) + 1)⟩ : S35)) := ⟨_, rfl⟩
                        replace H : (pontoonlaw05_NormFills.l1 k3 l0 y308 x8_2 t312 y322 t316 (wrap64 (x13_3 + 1))) = some r := by first | (rw [hy322]; with_reducible exact H) | (have H2_ := (Option.bind_some _ _).symm.trans H; rw [hy322]; with_reducible exact H2_) | (have H2_ := (Option.bind_some _ _).symm.trans H; with_reducible exact H2_) | with_reducible exact H | (rw [hy322]; exact H) | exact H
                        have Ny322 := Aside0.mk hy322
                        clear hy322
                        have H' := Aside0.mk H
                        clear H
                        obtain ⟨Ao30, co30, eo30⟩ := Kd.R_slice HO_10.out
                        subst eo30
                        have p321 : 0 ≤ (x13_3 : Int) := of_decide_eq_true (by first | (with_reducible assumption) | assumption)
                        have q321 : x13_3 < (x10_3.length : Int) := of_decide_eq_true (by first | (with_reducible assumption) | assumption)
                        obtain ⟨ad321, e321, hx321_0, hx321_1, hx321_2⟩ := at_T35 (Kd.R_reads' HO_10.out).2.2 x13_3 p321 q321
                        cases e321
                        have q321n := q321
                        replace p321 := eq_true p321
                        replace q321 := eq_true q321
                        have p29 : 0 ≤ (x13_3 : Int) := of_decide_eq_true (by first | (with_reducible assumption) | assumption)
                        have q29 : (x13_3 : Int) < ((x10_3.length : Int) : Int) := of_decide_eq_true (by first | (with_reducible assumption) | assumption)
                        obtain ⟨go29, co29, eo29, gb29, gl29, cl29, HG29⟩ := Kd.R_form HO_10.out (by omega)
                        (first | cases eo29 | (injection eo29 with ea_ en_ ec_; (first | subst ea_ | (injection ea_ with ea_; subst ea_)); subst ec_; clear en_))
                        have GB29 := Aside0.mk gb29
                        have GG29 := Aside0.mk HG29
                        clear gb29 gl29 HG29
                        (first | simp only [add_plain] at hx321_0 | skip)
                        (first | simp only [add_plain] at hx321_1 | skip)
                        (first | simp only [add_plain] at hx321_2 | skip)
                        obtain ⟨ce29, hcl29, hM29, hcc29, hfr29⟩ := Kd.R_elem HO_10.out z35 (x13_3 : Int) p29 q29
                        obtain rfl := k35_openM hM29
                        have hx29_0 : wr.cell? ⟨go29, (x13_3 : Int).toNat * 3, none⟩ = some (.int .i64 ((rd_T35 x10_3 x13_3).f0)) := hcc29 0 _ rfl
                        have hx29_1 : wr.cell? ⟨go29, (x13_3 : Int).toNat * 3 + 1, none⟩ = some (.string ((rd_T35 x10_3 x13_3).f1)) := hcc29 1 _ rfl
                        have hx29_2 : wr.cell? ⟨go29, (x13_3 : Int).toNat * 3 + 2, none⟩ = some (.int .i64 ((rd_T35 x10_3 x13_3).f2)) := hcc29 2 _ rfl
                        have hf29_0 : wr.frozen? ⟨go29, (x13_3 : Int).toNat * 3, none⟩ = false := hfr29 0
                        have hf29_1 : wr.frozen? ⟨go29, (x13_3 : Int).toNat * 3 + 1, none⟩ = false := hfr29 1
                        have hf29_2 : wr.frozen? ⟨go29, (x13_3 : Int).toNat * 3 + 2, none⟩ = false := hfr29 2
                        clear hcl29 hcc29 hfr29 hM29
                        have q29n := q29
                        replace p29 := eq_true p29
                        replace q29 := eq_true q29
                        have HX31 := Aside0.mk (show Kd.R k35 35 wr w.heap.size (fun k_ => some k_ ≠ (.slice Ao17 y308.length co17 : Value).ownBlock ∧ some k_ ≠ (.slice Ao26 x8_2.length co26 : Value).ownBlock) (.slice (some ⟨go29, 0, none⟩) x10_3.length co30) x10_3 from (by (with_reducible repeat (first | apply Kd.R_alloc | apply Kd.R_drewN | apply Kd.R_drew)); exact HO_10.out))
                        obtain ⟨ce31, hcl31, hM31, hcc31, hfr31⟩ := Kd.R_elem HX31.out z35 (x13_3 : Int) (of_decide_eq_true (by first | (with_reducible assumption) | assumption)) (by have h_ : (x13_3 : Int) < ((x10_3.length : Int) : Int) := of_decide_eq_true (by first | (with_reducible assumption) | assumption); first | exact h_ | (have e_ := (Kd.R_reads' HO_10.out).1; omega) | simpa using h_)
                        obtain rfl := k35_openM hM31
                        have HP31 := Kd.R_seg HX31.out (x13_3 : Int) (of_decide_eq_true (by first | (with_reducible assumption) | assumption)) (by have h_ : (x13_3 : Int) < ((x10_3.length : Int) : Int) := of_decide_eq_true (by first | (with_reducible assumption) | assumption); first | exact h_ | (have e_ := (Kd.R_reads' HO_10.out).1; omega) | simpa using h_) (seg := [.int .i64 (wrap64 (((rd_T35 x10_3 x13_3).f2) + 1))]) (j := 2) hcl31 hcc31 (show 3 ≤ 3 from by decide) (x' := (⟨(rd_T35 x10_3 x13_3).f0, (rd_T35 x10_3 x13_3).f1, wrap64 (((rd_T35 x10_3 x13_3).f2) + 1)⟩ : S35)) (k35_mkM _ _ _ (⟨(rd_T35 x10_3 x13_3).f0, (rd_T35 x10_3 x13_3).f1, wrap64 (((rd_T35 x10_3 x13_3).f2) + 1)⟩ : S35) ) (fun _ hk => hk)
                        have hx31_2 := hcc31 2 _ rfl
                        (try simp only [show (k35).sz = 3 from rfl, Nat.mul_one, Nat.add_zero] at hx31_2)
                        have hf31_2 := hfr31 2
                        (try simp only [show (k35).sz = 3 from rfl, Nat.mul_one, Nat.add_zero] at hf31_2)
                        clear hcl31 hcc31 hfr31 hM31
                        go_wp2_with (first | ((with_reducible refine gate_store (t := 3) (p := 72) rfl ?_); refine store_event (t := 3) (p := 72) (v := ?vo_w32) (w1 := (wr.setCell ⟨go29, (x13_3 : Int).toNat * 3 + 2, none⟩ (.int .i64 (wrap64 (((rd_T35 x10_3 x13_3).f2) + 1))))) ?hg ?ho ?hn ?hr ?_; (case ho => rfl); (case hg => rfl); (case hn => rfl); (case hr => first | (go_simp; done) | (go_simp; rfl)); intro w32 hw; have hg : wr.grownBy w32 (some go29) := (by rw [hw]; exact HP31.2); have hp_ : Kd.R k35 35 w32 w.heap.size (fun k_ => some k_ ≠ (.slice Ao17 y308.length co17 : Value).ownBlock ∧ some k_ ≠ (.slice Ao26 x8_2.length co26 : Value).ownBlock) (.slice (some ⟨go29, 0, none⟩) x10_3.length co30) y322 := (by rw [hw, Ny322.out]; exact HP31.1); clear HP31; have n0_ := Aside0.mk (Kd.R_after (v := (.slice (some ⟨go29, 0, none⟩) x10_3.length co30)) (v1 := (.slice (some ⟨go29, 0, none⟩) x10_3.length co30)) (ok := (fun k_ => some k_ ≠ (.slice Ao26 x8_2.length co26 : Value).ownBlock)) (by (with_reducible repeat (first | apply Kd.R_alloc | apply Kd.R_drewN | apply Kd.R_drew)); exact HO_7.out) hg (.inl rfl)); have n1_ := Aside0.mk (Kd.R_after (v := (.slice (some ⟨go29, 0, none⟩) x10_3.length co30)) (v1 := (.slice (some ⟨go29, 0, none⟩) x10_3.length co30)) (ok := (fun k_ => some k_ ≠ (.slice Ao17 y308.length co17 : Value).ownBlock)) (by (with_reducible repeat (first | apply Kd.R_alloc | apply Kd.R_drewN | apply Kd.R_drew)); exact HO_8.out) hg (.inl rfl)); have n2_ := Aside0.mk (hp_); have n3_ := Aside0.mk ((by rw [hw]; exact below_set (HB.out) GB29.out : Below w.heap.size w w32)); clear HO_7; clear HO_8; clear HO_10; clear HB; have HO_7 := n0_; have HO_8 := n1_; have HO_10 := n2_; have HB := n3_; clear n0_ n1_ n2_ n3_; clear hg hw hp_))
                        go_roundg k3
                        case measure => have := HJ3.out; have := HK2.out; have := HK3.out; omega
                        case rel => exact ⟨(y322), (wrap64 (x13_3 + 1)), (by first | rfl | (simp; done) | (simp [*]; done)), H', ⟨by have := HJ3.out; have := HK2.out; have := HK3.out; omega⟩, ⟨by (with_reducible repeat (first | apply Kd.R_alloc | apply Kd.R_drewN | apply Kd.R_drew)); exact HO_7.out⟩, ⟨by (with_reducible repeat (first | apply Kd.R_alloc | apply Kd.R_drewN | apply Kd.R_drew)); exact HO_8.out⟩, ⟨by (with_reducible repeat (first | apply Kd.R_alloc | apply Kd.R_drewN | apply Kd.R_drew)); exact HO_10.out⟩, ⟨by repeat (first | (with_reducible first | exact HB.out | apply below_alloc | apply pw_below_drewN | apply below_drew1) | exact HB.out)⟩⟩
                      · rw [if_neg c28] at H
                        exact absurd H (by simp)
                    · rw [if_neg c27] at H
                      have c27b0 : decide (x13_3 < (x10_3.length : Int)) = false := decide_eq_false c27
                      clear c27
                      replace H := Option.bind_eq_some_iff.mp H
                      obtain ⟨t323, A330, H⟩ := H
                      replace H : (if t323 = true then (if t312 = t316 then ((pontoonref04_Same.f k3 y308 l0 true).bind fun t324 => (if t324 = true then ((norm_Binds.f k3 l0).bind fun t325 => ((pontoonref05_Binds.f k3 l0).bind fun t326 => (if t325 = t326 then ((pontoonlaw05_known.f k3).bind fun t327 => (some t327)) else (some false)))) else (some false))) else (some false)) else (some false)) = some r := H
                      have A33 := Aside0.mk A330
                      clear A330
                      by_cases c34 : t323 = true
                      · subst c34
                        have H1 : (if t312 = t316 then ((pontoonref04_Same.f k3 y308 l0 true).bind fun t324 => (if t324 = true then ((norm_Binds.f k3 l0).bind fun t325 => ((pontoonref05_Binds.f k3 l0).bind fun t326 => (if t325 = t326 then ((pontoonlaw05_known.f k3).bind fun t327 => (some t327)) else (some false)))) else (some false))) else (some false)) = some r := by rw [if_pos rfl] at H; exact H
                        clear H
                        have H := H1
                        clear H1
                        by_cases c35 : t312 = t316
                        · rw [if_pos c35] at H
                          have c35b0 : (t312 == t316) = true := beq_iff_eq.mpr c35
                          have c35b1 : (t312 != t316) = false := bne_eq_false_iff_eq.mpr c35
                          clear c35
                          replace H := Option.bind_eq_some_iff.mp H
                          obtain ⟨t324, A360, H⟩ := H
                          replace H : (if t324 = true then ((norm_Binds.f k3 l0).bind fun t325 => ((pontoonref05_Binds.f k3 l0).bind fun t326 => (if t325 = t326 then ((pontoonlaw05_known.f k3).bind fun t327 => (some t327)) else (some false)))) else (some false)) = some r := H
                          have A36 := Aside0.mk A360
                          clear A360
                          by_cases c37 : t324 = true
                          · subst c37
                            have H1 : ((norm_Binds.f k3 l0).bind fun t325 => ((pontoonref05_Binds.f k3 l0).bind fun t326 => (if t325 = t326 then ((pontoonlaw05_known.f k3).bind fun t327 => (some t327)) else (some false)))) = some r := by rw [if_pos rfl] at H; exact H
                            clear H
                            have H := H1
                            clear H1
                            replace H := Option.bind_eq_some_iff.mp H
                            obtain ⟨t325, A380, H⟩ := H
                            replace H : ((pontoonref05_Binds.f k3 l0).bind fun t326 => (if t325 = t326 then ((pontoonlaw05_known.f k3).bind fun t327 => (some t327)) else (some false))) = some r := H
                            have A38 := Aside0.mk A380
                            clear A380
                            replace H := Option.bind_eq_some_iff.mp H
                            obtain ⟨t326, A390, H⟩ := H
                            replace H : (if t325 = t326 then ((pontoonlaw05_known.f k3).bind fun t327 => (some t327)) else (some false)) = some r := H
                            have A39 := Aside0.mk A390
                            clear A390
                            by_cases c40 : t325 = t326
                            · rw [if_pos c40] at H
                              have c40b0 : (t325 == t326) = true := beq_iff_eq.mpr c40
                              have c40b1 : (t325 != t326) = false := bne_eq_false_iff_eq.mpr c40
                              clear c40
                              replace H := Option.bind_eq_some_iff.mp H
                              obtain ⟨t327, A410, H⟩ := H
                              replace H : (some t327) = some r := H
                              have A41 := Aside0.mk A410
                              clear A410
                              obtain rfl := Option.some.inj H
                              try clear hT_
                              obtain ⟨Ao42, co42, eo42⟩ := Kd.R_slice HO_10.out
                              subst eo42
                              go_wp2_with (first | ((with_reducible refine gate_callee (f := 15) rfl ?_); refine goesL_ (some 75) rfl rfl Try.func15 (by kernel_rfl) rfl #[.slice Ao26 x8_2.length co26, .slice Ao42 x10_3.length co42, .bool true] rfl (by (try simp only [List.map_toArray, List.map_cons, List.map_nil]); first | done | rfl | (simp only [List.length_drop, List.length_take]; rfl)) ?_; (with_reducible refine (pontoonref04_Same.calls k3 _ _ x8_2 _ _ x10_3 true true _ ?side1 ?side2 ?side3 ?side4 A33.out).mono ?_); (case side1 => repeat (first | exact (Kd.R_reads' HO_8.out).2.2 | (with_reducible refine Kd.C_alloc ?_ _) | (with_reducible refine Kd.C_drewN ?_ _) | (with_reducible refine Kd.C_drew ?_))); (case side2 => exact (Kd.R_reads' HO_8.out).2.1); (case side3 => repeat (first | exact (Kd.R_reads' HO_10.out).2.2 | (with_reducible refine Kd.C_alloc ?_ _) | (with_reducible refine Kd.C_drewN ?_ _) | (with_reducible refine Kd.C_drew ?_))); (case side4 => exact (Kd.R_reads' HO_10.out).2.1); rintro e w' ⟨rfl, ⟨nd, rfl⟩⟩; refine ⟨_, rfl, ?_⟩) | (go_at_call 15; (with_reducible refine (pontoonref04_Same.calls k3 _ _ y308 _ _ l0 true true _ ?side1 ?side2 ?side3 ?side4 A36.out).mono ?_); (case side1 => repeat (first | exact (Kd.R_reads' HO_7.out).2.2 | (with_reducible refine Kd.C_alloc ?_ _) | (with_reducible refine Kd.C_drewN ?_ _) | (with_reducible refine Kd.C_drew ?_))); (case side2 => exact (Kd.R_reads' HO_7.out).2.1); (case side3 => repeat (first | exact (Kd.C_below HR0.out (by repeat (first | (with_reducible first | exact HB.out | apply below_alloc | apply pw_below_drewN | apply below_drew1) | exact HB.out))) | (with_reducible refine Kd.C_alloc ?_ _) | (with_reducible refine Kd.C_drewN ?_ _) | (with_reducible refine Kd.C_drew ?_))); (case side4 => exact HC0.out); rintro e w' ⟨rfl, ⟨nd, rfl⟩⟩) | (go_at_call 16; (with_reducible refine (norm_Binds.calls k3 _ _ l0 t325 _ ?side1 ?side2 A38.out).mono ?_); (case side1 => repeat (first | exact (Kd.C_below HR0.out (by repeat (first | (with_reducible first | exact HB.out | apply below_alloc | apply pw_below_drewN | apply below_drew1) | exact HB.out))) | (with_reducible refine Kd.C_alloc ?_ _) | (with_reducible refine Kd.C_drewN ?_ _) | (with_reducible refine Kd.C_drew ?_))); (case side2 => exact HC0.out); rintro e w43 ⟨rfl, hb⟩; have n0_ := Aside0.mk (Kd.R_below (by (with_reducible repeat (first | apply Kd.R_alloc | apply Kd.R_drewN | apply Kd.R_drew)); exact HO_7.out) hb); have n1_ := Aside0.mk (Kd.R_below (by (with_reducible repeat (first | apply Kd.R_alloc | apply Kd.R_drewN | apply Kd.R_drew)); exact HO_8.out) hb); have n2_ := Aside0.mk (Kd.R_below (by (with_reducible repeat (first | apply Kd.R_alloc | apply Kd.R_drewN | apply Kd.R_drew)); exact HO_10.out) hb); have n3_ := Aside0.mk (below_step (by repeat (first | (with_reducible first | exact HB.out | apply below_alloc | apply pw_below_drewN | apply below_drew1) | exact HB.out)) hb); clear HO_7; clear HO_8; clear HO_10; clear HB; have HO_7 := n0_; have HO_8 := n1_; have HO_10 := n2_; have HB := n3_; clear n0_ n1_ n2_ n3_; (try clear hb); (try clear hb2); (try clear hk); (try clear hi)) | (go_at_call 17; (with_reducible refine (pontoonref05_Binds.calls k3 _ _ l0 t326 _ ?side1 ?side2 A39.out).mono ?_); (case side1 => repeat (first | exact (Kd.C_below HR0.out HB.out) | (with_reducible refine Kd.C_alloc ?_ _) | (with_reducible refine Kd.C_drewN ?_ _) | (with_reducible refine Kd.C_drew ?_))); (case side2 => exact HC0.out); rintro e w44 ⟨rfl, hb⟩; have n0_ := Aside0.mk (Kd.R_below (by (with_reducible repeat (first | apply Kd.R_alloc | apply Kd.R_drewN | apply Kd.R_drew)); exact HO_7.out) hb); have n1_ := Aside0.mk (Kd.R_below (by (with_reducible repeat (first | apply Kd.R_alloc | apply Kd.R_drewN | apply Kd.R_drew)); exact HO_8.out) hb); have n2_ := Aside0.mk (Kd.R_below (by (with_reducible repeat (first | apply Kd.R_alloc | apply Kd.R_drewN | apply Kd.R_drew)); exact HO_10.out) hb); have n3_ := Aside0.mk (below_step (by repeat (first | (with_reducible first | exact HB.out | apply below_alloc | apply pw_below_drewN | apply below_drew1) | exact HB.out)) hb); clear HO_7; clear HO_8; clear HO_10; clear HB; have HO_7 := n0_; have HO_8 := n1_; have HO_10 := n2_; have HB := n3_; clear n0_ n1_ n2_ n3_; (try clear hb); (try clear hb2); (try clear hk); (try clear hi)) | (go_at_call 8; (with_reducible refine (pontoonlaw05_known.calls k3  t327 _ A41.out).mono ?_); rintro e w45 ⟨rfl, hb⟩; have n0_ := Aside0.mk (Kd.R_below (by (with_reducible repeat (first | apply Kd.R_alloc | apply Kd.R_drewN | apply Kd.R_drew)); exact HO_7.out) hb); have n1_ := Aside0.mk (Kd.R_below (by (with_reducible repeat (first | apply Kd.R_alloc | apply Kd.R_drewN | apply Kd.R_drew)); exact HO_8.out) hb); have n2_ := Aside0.mk (Kd.R_below (by (with_reducible repeat (first | apply Kd.R_alloc | apply Kd.R_drewN | apply Kd.R_drew)); exact HO_10.out) hb); have n3_ := Aside0.mk (below_step (by repeat (first | (with_reducible first | exact HB.out | apply below_alloc | apply pw_below_drewN | apply below_drew1) | exact HB.out)) hb); clear HO_7; clear HO_8; clear HO_10; clear HB; have HO_7 := n0_; have HO_8 := n1_; have HO_10 := n2_; have HB := n3_; clear n0_ n1_ n2_ n3_; (try clear hb); (try clear hb2); (try clear hk); (try clear hi)))
                              go_ret
                              exact ⟨by first | rfl | (simp [errW_none, errW_some] <;> rfl) | (simp [*, errW_none, errW_some] <;> rfl), by repeat (first | (with_reducible first | exact HB.out | apply below_alloc | apply pw_below_drewN | apply below_drew1) | exact HB.out)⟩
                            · rw [if_neg c40] at H
                              rw [hT_] at H
                              cases H
                          · replace c37 := Bool.eq_false_iff.mpr c37
                            subst c37
                            have H1 : (some false) = some r := by rw [if_neg (show ¬ (false = true) by decide)] at H; exact H
                            rw [hT_] at H1
                            cases H1
                        · rw [if_neg c35] at H
                          rw [hT_] at H
                          cases H
                      · replace c34 := Bool.eq_false_iff.mpr c34
                        subst c34
                        have H1 : (some false) = some r := by rw [if_neg (show ¬ (false = true) by decide)] at H; exact H
                        rw [hT_] at H1
                        cases H1
        · rw [if_neg c11] at H
          exact absurd H (by simp)

end Go.Proofs.Ytgfppniifjabdaa.Pb
