-- Written by a program of this session's (wip/ext/run.py) over the kit's print, with contracts of its own.
import Derived.Test.YtgfppniifjabdaaPbx0
import Derived.Test.YtgfppniifjabdaaPbx12
namespace Go.Proofs.Ytgfppniifjabdaa.Pb
open Go Go.Proofs.Ytgfppniifjabdaa Go.RowKit Go.Proofs.YtgfppniifjabdaaW.PrintWords Go.Proofs.YtgfppniifjabdaaW.PrintLast Go.Proofs.YtgfppniifjabdaaW.PrintMore
attribute [local go_sem] max2_int min2_int max_two min_two max_three min_three max_four min_four   -- for this text's walks alone
set_option linter.unusedVariables false
set_option linter.unusedSimpArgs false

/-! ### pontoonref05_Fill: function 14 -/
mutual
def pontoonref05_Fill.l0 : Nat → List (S35) → List ByteArray → List Bool → List (S35) → Int → Option ((List (S35)) × Int)
  | 0, _, _, _, _, _ => none
  | k + 1, x0, x1, x2, x8, x9 => if x9 < (x0.length : Int) then (if 0 ≤ x9 then ((pontoonref05_param.f k ((rd_T35 x0 x9).f0) ((rd_T35 x0 x9).f1) ((rd_T35 x0 x9).f2)).bind fun t283 => (if t283 = 0 then (pontoonref05_Fill.j1 k x0 x1 x2 x8 x9 t283 true ((rd_T35 x0 x9).f0) ((rd_T35 x0 x9).f1) ((rd_T35 x0 x9).f2)) else (pontoonref05_Fill.j1 k x0 x1 x2 x8 x9 t283 (decide (t283 > (x1.length : Int))) ((rd_T35 x0 x9).f0) ((rd_T35 x0 x9).f1) ((rd_T35 x0 x9).f2)))) else (none)) else (some (x8, 0))
def pontoonref05_Fill.j1 : Nat → List (S35) → List ByteArray → List Bool → List (S35) → Int → Int → Bool → Int → ByteArray → Int → Option ((List (S35)) × Int)
  | 0, _, _, _, _, _, _, _, _, _, _ => none
  | k + 1, x0, x1, x2, x8, x9, x11, x36, x283000, x283001, x283002 => if x36 = true then (some (([] : List (S35)), 8)) else (if x11 > 0 then (if 0 ≤ (wrap64 (x11 - 1)) then (if (wrap64 (x11 - 1)) < (x2.length : Int) then (pontoonref05_Fill.j2 k x0 x1 x2 x8 x9 x11 (rdOf false x2 (wrap64 (x11 - 1))) x283000 x283001 x283002) else (none)) else (none)) else (pontoonref05_Fill.j2 k x0 x1 x2 x8 x9 x11 false x283000 x283001 x283002))
def pontoonref05_Fill.j2 : Nat → List (S35) → List ByteArray → List Bool → List (S35) → Int → Int → Bool → Int → ByteArray → Int → Option ((List (S35)) × Int)
  | 0, _, _, _, _, _, _, _, _, _, _ => none
  | k + 1, x0, x1, x2, x8, x9, x11, x45, x283000, x283001, x283002 => if x45 = true then (if x8.length < 4398046511104 then (pontoonref05_Fill.l0 k x0 x1 x2 (x8 ++ [(⟨1, (⟨#[110, 117, 108, 108]⟩ : ByteArray), x283002⟩ : S35)]) (wrap64 (x9 + 1))) else (none)) else (if x11 > 0 then (if 0 ≤ (wrap64 (x11 - 1)) then (if (wrap64 (x11 - 1)) < (x1.length : Int) then (if x8.length < 4398046511104 then (pontoonref05_Fill.l0 k x0 x1 x2 (x8 ++ [(⟨3, rdOf ByteArray.empty x1 (wrap64 (x11 - 1)), x283002⟩ : S35)]) (wrap64 (x9 + 1))) else (none)) else (none)) else (none)) else (if x8.length < 4398046511104 then (pontoonref05_Fill.l0 k x0 x1 x2 (x8 ++ [(⟨x283000, x283001, x283002⟩ : S35)]) (wrap64 (x9 + 1))) else (none)))
end
def pontoonref05_Fill.f (k : Nat) (l0 : List (S35)) (l1 : List ByteArray) (l2 : List Bool) : Option ((List (S35)) × Int) := if (l1.length : Int) = (l2.length : Int) then (pontoonref05_Fill.l0 k l0 l1 l2 ([] : List (S35)) 0) else (some (([] : List (S35)), 1))
theorem pontoonref05_Fill.mono_l : ∀ k, (∀ y0 y1 y2 y3 y4, LeO (pontoonref05_Fill.l0 k y0 y1 y2 y3 y4) (pontoonref05_Fill.l0 (k + 1) y0 y1 y2 y3 y4)) ∧ (∀ y0 y1 y2 y3 y4 y5 y6 y7 y8 y9, LeO (pontoonref05_Fill.j1 k y0 y1 y2 y3 y4 y5 y6 y7 y8 y9) (pontoonref05_Fill.j1 (k + 1) y0 y1 y2 y3 y4 y5 y6 y7 y8 y9)) ∧ (∀ y0 y1 y2 y3 y4 y5 y6 y7 y8 y9, LeO (pontoonref05_Fill.j2 k y0 y1 y2 y3 y4 y5 y6 y7 y8 y9) (pontoonref05_Fill.j2 (k + 1) y0 y1 y2 y3 y4 y5 y6 y7 y8 y9))
  | 0 => ⟨fun _ _ _ _ _ r h => by simp [pontoonref05_Fill.l0] at h, fun _ _ _ _ _ _ _ _ _ _ r h => by simp [pontoonref05_Fill.j1] at h, fun _ _ _ _ _ _ _ _ _ _ r h => by simp [pontoonref05_Fill.j2] at h⟩
  | k + 1 => by
    obtain ⟨ih0, ih1, ih2⟩ := pontoonref05_Fill.mono_l k
    refine ⟨?_, ?_, ?_⟩
    · intro y0 y1 y2 y3 y4
      unfold pontoonref05_Fill.l0
      repeat' first
      | (with_reducible exact ih0 _ _ _ _ _)
      | (with_reducible exact ih1 _ _ _ _ _ _ _ _ _ _)
      | (with_reducible exact ih2 _ _ _ _ _ _ _ _ _ _)
      | (with_reducible exact pontoonref05_param.mono _ _ _ _)
      | (with_reducible exact LeO.refl _)
      | (with_reducible exact LeO.none _)
      | (with_reducible refine LeO.ite ?_ ?_)
      | (with_reducible refine LeO.bind ?_ (fun _ => ?_))
      | exact ih0 _ _ _ _ _
      | exact ih1 _ _ _ _ _ _ _ _ _ _
      | exact ih2 _ _ _ _ _ _ _ _ _ _
      | exact pontoonref05_param.mono _ _ _ _
      | exact LeO.none _
      | refine LeO.ite ?_ ?_
      | refine LeO.bind ?_ (fun _ => ?_)
    · intro y0 y1 y2 y3 y4 y5 y6 y7 y8 y9
      unfold pontoonref05_Fill.j1
      repeat' first
      | (with_reducible exact ih0 _ _ _ _ _)
      | (with_reducible exact ih1 _ _ _ _ _ _ _ _ _ _)
      | (with_reducible exact ih2 _ _ _ _ _ _ _ _ _ _)
      | (with_reducible exact pontoonref05_param.mono _ _ _ _)
      | (with_reducible exact LeO.refl _)
      | (with_reducible exact LeO.none _)
      | (with_reducible refine LeO.ite ?_ ?_)
      | (with_reducible refine LeO.bind ?_ (fun _ => ?_))
      | exact ih0 _ _ _ _ _
      | exact ih1 _ _ _ _ _ _ _ _ _ _
      | exact ih2 _ _ _ _ _ _ _ _ _ _
      | exact pontoonref05_param.mono _ _ _ _
      | exact LeO.none _
      | refine LeO.ite ?_ ?_
      | refine LeO.bind ?_ (fun _ => ?_)
    · intro y0 y1 y2 y3 y4 y5 y6 y7 y8 y9
      unfold pontoonref05_Fill.j2
      repeat' first
      | (with_reducible exact ih0 _ _ _ _ _)
      | (with_reducible exact ih1 _ _ _ _ _ _ _ _ _ _)
      | (with_reducible exact ih2 _ _ _ _ _ _ _ _ _ _)
      | (with_reducible exact pontoonref05_param.mono _ _ _ _)
      | (with_reducible exact LeO.refl _)
      | (with_reducible exact LeO.none _)
      | (with_reducible refine LeO.ite ?_ ?_)
      | (with_reducible refine LeO.bind ?_ (fun _ => ?_))
      | exact ih0 _ _ _ _ _
      | exact ih1 _ _ _ _ _ _ _ _ _ _
      | exact ih2 _ _ _ _ _ _ _ _ _ _
      | exact pontoonref05_param.mono _ _ _ _
      | exact LeO.none _
      | refine LeO.ite ?_ ?_
      | refine LeO.bind ?_ (fun _ => ?_)
theorem pontoonref05_Fill.mono : ∀ a0 a1 a2 k, LeO (pontoonref05_Fill.f k a0 a1 a2) (pontoonref05_Fill.f (k + 1) a0 a1 a2) := by
  intro a0 a1 a2 k
  obtain ⟨ih0, ih1, ih2⟩ := pontoonref05_Fill.mono_l k
  unfold pontoonref05_Fill.f
  repeat' first
      | (with_reducible exact ih0 _ _ _ _ _)
      | (with_reducible exact ih1 _ _ _ _ _ _ _ _ _ _)
      | (with_reducible exact ih2 _ _ _ _ _ _ _ _ _ _)
      | (with_reducible exact pontoonref05_param.mono _ _ _ _)
      | (with_reducible exact LeO.refl _)
      | (with_reducible exact LeO.none _)
      | (with_reducible refine LeO.ite ?_ ?_)
      | (with_reducible refine LeO.bind ?_ (fun _ => ?_))
      | exact ih0 _ _ _ _ _
      | exact ih1 _ _ _ _ _ _ _ _ _ _
      | exact ih2 _ _ _ _ _ _ _ _ _ _
      | exact pontoonref05_param.mono _ _ _ _
      | exact LeO.none _
      | refine LeO.ite ?_ ?_
      | refine LeO.bind ?_ (fun _ => ?_)
def pontoonref05_Fill.T14 : Bool × List (List Nat × List Nat) := (true, [([], []), ([], []), ([1], [1]), ([0, 2], [0, 2]), ([3], [3]), ([], []), ([5], [5]), ([4, 6], [4, 6]), ([7, 0, 1, 2, 3, 4, 5, 6, 7], [7])])
def pontoonref05_Fill.B14 : List Nat := [0, 0, 2, 7, 15, 0, 32, 127, 255]
theorem pontoonref05_Fill.tab14 : rtab .any (opsOf Try.f14 14) = pontoonref05_Fill.T14 := by kernel_rfl
theorem pontoonref05_Fill.bits14 : waitsOk pontoonref05_Fill.T14.2 pontoonref05_Fill.B14 = true := by kernel_rfl
set_option maxHeartbeats 8000000 in
set_option maxRecDepth 100000 in
theorem pontoonref05_Fill.calls (k : Nat) (A0 : Option Addr) (c0 : Nat) (l0 : List (S35)) (A1 : Option Addr) (c1 : Nat) (l1 : List ByteArray) (A2 : Option Addr) (c2 : Nat) (l2 : List Bool) (r1 : List (S35)) (r2 : Int) (w : World) (hr0 : Kd.C k35 w A0 l0.length l0) (hc0 : l0.length ≤ c0) (hr1 : Kd.C Kd.string w A1 l1.length l1) (hc1 : l1.length ≤ c1) (hr2 : Kd.C Kd.bool w A2 l2.length l2) (hc2 : l2.length ≤ c2) (h : pontoonref05_Fill.f k l0 l1 l2 = some (r1, r2)) :
    Calls Try.prog 14 #[.slice A0 l0.length c0, .slice A1 l1.length c1, .slice A2 l2.length c2] w fun e w' => ∃ v0_ : Value, e = .returned (.tuple #[v0_, .int .i64 r2]) ∧ Kd.R k35 35 w' w.heap.size (fun _ => True) v0_ r1 ∧ Below w.heap.size w w' := by
  have hu35 := Try.underlying35
  have HR0 := Aside0.mk hr0
  have HC0 := Aside0.mk hc0
  clear hr0 hc0
  have HR1 := Aside0.mk hr1
  have HC1 := Aside0.mk hc1
  clear hr1 hc1
  have HR2 := Aside0.mk hr2
  have HC2 := Aside0.mk hc2
  clear hr2 hc2
  have HB := Aside0.mk (Below.refl w.heap.size w)
  have H : (if (l1.length : Int) = (l2.length : Int) then (pontoonref05_Fill.l0 k l0 l1 l2 ([] : List (S35)) 0) else (some (([] : List (S35)), 1))) = some (r1, r2) := h
  clear h
  by_cases c4 : (l1.length : Int) = (l2.length : Int)
  · rw [if_pos c4] at H
    have c4b0 : ((l1.length : Int) == (l2.length : Int)) = true := beq_iff_eq.mpr c4
    have c4b1 : ((l1.length : Int) != (l2.length : Int)) = false := bne_eq_false_iff_eq.mpr c4
    have c4b2 : (l1.length == l2.length) = true := by first | simpa using c4 | (simp at c4 ⊢; omega)
    clear c4
    have H' := Aside0.mk H
    clear H
    go_enter Try.func14, Try.ntmps14
    go_wp2
    go_loopg [8, 9] k (fun kq v8 v9 w' => ∃ (x8_1 : List (S35)) (x9_1 : Int), v9 = .int .i64 x9_1 ∧ Aside0 (pontoonref05_Fill.l0 kq l0 l1 l2 x8_1 x9_1 = some (r1, r2)) ∧ Aside0 (kq ≤ k) ∧ Aside0 (Kd.R k35 35 w' w.heap.size (fun _ => True) v8 x8_1) ∧ Aside0 (Below w.heap.size w w'))
    case atStart => exact ⟨(([] : List (S35))), (0), (by first | rfl | (simp; done) | (simp [*]; done)), H', ⟨Nat.le_refl _⟩, ⟨by first | exact Kd.R_nil _ _ _ _ _ | exact Kd.N_nil _ _ _ _ _ | exact Kd.V_nil _ _ _ _ _ | exact Kd.Q_nil _ _ _ _ _ | exact Kd.S_nil _ _ _ _ _⟩, ⟨by repeat (first | (with_reducible first | exact HB.out | apply below_alloc | apply pw_below_drewN | apply below_drew1) | exact HB.out)⟩⟩
    case round =>
      clear H'
      try clear c1
      try clear c2
      try clear p2
      try clear c4
      try clear c4b0
      try clear c4b1
      try clear c4b2
      obtain ⟨x8_1, x9_1, rfl, HA, HK1, HO_8, HB⟩ := hrel
      cases gk with
      | zero => exact absurd HA.out (by simp [pontoonref05_Fill.l0])
      | succ k1 =>
        have H := HA.out
        clear HA
        simp only [pontoonref05_Fill.l0] at H
        by_cases c5 : x9_1 < (l0.length : Int)
        · rw [if_pos c5] at H
          have c5b0 : decide (x9_1 < (l0.length : Int)) = true := decide_eq_true c5
          clear c5
          by_cases c6 : 0 ≤ x9_1
          · rw [if_pos c6] at H
            have c6b0 : decide (0 ≤ x9_1) = true := decide_eq_true c6
            clear c6
            replace H := Option.bind_eq_some_iff.mp H
            obtain ⟨t283, A70, H⟩ := H
            replace H : (if t283 = 0 then (pontoonref05_Fill.j1 k1 l0 l1 l2 x8_1 x9_1 t283 true ((rd_T35 l0 x9_1).f0) ((rd_T35 l0 x9_1).f1) ((rd_T35 l0 x9_1).f2)) else (pontoonref05_Fill.j1 k1 l0 l1 l2 x8_1 x9_1 t283 (decide (t283 > (l1.length : Int))) ((rd_T35 l0 x9_1).f0) ((rd_T35 l0 x9_1).f1) ((rd_T35 l0 x9_1).f2))) = some (r1, r2) := H
            have A7 := Aside0.mk A70
            clear A70
            have HC8 := Aside0.mk H
            clear H
            have p281 : 0 ≤ (x9_1 : Int) := of_decide_eq_true (by first | (with_reducible assumption) | assumption)
            have q281 : x9_1 < (l0.length : Int) := of_decide_eq_true (by first | (with_reducible assumption) | assumption)
            obtain ⟨ad281, e281, hx281_0, hx281_1, hx281_2⟩ := at_T35 HR0.out x9_1 p281 q281
            cases e281
            replace hx281_0 := (HB.out.cell (World.block_lt_of_cell? w _ hx281_0)).trans hx281_0
            replace hx281_1 := (HB.out.cell (World.block_lt_of_cell? w _ hx281_1)).trans hx281_1
            replace hx281_2 := (HB.out.cell (World.block_lt_of_cell? w _ hx281_2)).trans hx281_2
            have q281n := q281
            replace p281 := eq_true p281
            replace q281 := eq_true q281
            go_upto_region 9 with (first | ((with_reducible refine gate_dst (N := 10) rfl ?_); (try (refine gate_guard (by rfl) ?_; dsimp only)); refine box_event ?hg (N := 10) ?hd (cs := #[.int .i64 0, .string (⟨#[]⟩ : ByteArray), .int .i64 0]) (t := 35) ?hr ?_; (case hd => rfl); (case hg => rfl); (case hr => first | (go_simp; done) | (go_simp; rfl)); intro gb282 hg w9 hbox hb; have n0_ := Aside0.mk (Kd.R_below (Kd.R_elderB (by (with_reducible repeat (first | apply Kd.R_alloc | apply Kd.R_drewN | apply Kd.R_drew)); exact HO_8.out) gb282 (Nat.le_of_eq hg.symm)) hb); have n1_ := Aside0.mk (below_step (by repeat (first | (with_reducible first | exact HB.out | apply below_alloc | apply pw_below_drewN | apply below_drew1) | exact HB.out)) hb); have n2_ := Aside0.mk (hbox); have n3_ := Aside0.mk ((by rw [hg]; exact (below_size (by repeat (first | (with_reducible first | exact HB.out | apply below_alloc | apply pw_below_drewN | apply below_drew1) | exact HB.out))) : w.heap.size ≤ gb282)); have n4_ := Aside0.mk ((by rw [hg]; exact (below_size (by repeat (first | (with_reducible first | exact HB.out | apply below_alloc | apply pw_below_drewN | apply below_drew1) | exact HB.out))) : w.heap.size ≤ gb282)); clear HO_8; clear HB; have HO_8 := n0_; have HB := n1_; have BK282 := n2_; have GW282 := n3_; have GE282 := n4_; clear n0_ n1_ n2_ n3_ n4_; clear hb hbox hg; have hcz10_0 : w9.cell? ⟨gb282, 0, none⟩ = some (.int .i64 0) := (blk_cell BK282.out 0).trans rfl; have hcz10_1 : w9.cell? ⟨gb282, 1, none⟩ = some (.string (⟨#[]⟩ : ByteArray)) := (blk_cell BK282.out 1).trans rfl; have hcz10_2 : w9.cell? ⟨gb282, 2, none⟩ = some (.int .i64 0) := (blk_cell BK282.out 2).trans rfl; have hfz10_0 := blk_frozen BK282.out 0; have hfz10_1 := blk_frozen BK282.out 1; have hfz10_2 := blk_frozen BK282.out 2) | ((with_reducible refine gate_callee (f := 25) rfl ?_); refine goesL_ (some 28) rfl rfl Try.func25 (by kernel_rfl) rfl #[.agg #[.int .i64 ((rd_T35 l0 x9_1).f0), .string ((rd_T35 l0 x9_1).f1), .int .i64 ((rd_T35 l0 x9_1).f2)]] rfl (by (try simp only [List.map_toArray, List.map_cons, List.map_nil]); first | done | rfl | (simp only [List.length_drop, List.length_take]; rfl)) ?_; (with_reducible refine (pontoonref05_param.calls k1 ((rd_T35 l0 x9_1).f0) ((rd_T35 l0 x9_1).f1) ((rd_T35 l0 x9_1).f2) t283 _ A7.out).mono ?_); rintro e w11 ⟨rfl, hb⟩; refine ⟨_, rfl, ?_⟩; have n0_ := Aside0.mk (Kd.R_below (by (with_reducible repeat (first | apply Kd.R_alloc | apply Kd.R_drewN | apply Kd.R_drew)); exact (Kd.R_mono (Kd.R_far (p := ⟨gb282, 2, none⟩) (Kd.R_far (p := ⟨gb282, 1, none⟩) (Kd.R_far (p := ⟨gb282, 0, none⟩) (Kd.R_mono HO_8.out (fun k_ hk => (⟨hk, hk.2⟩ : _ ∧ k_ ≠ gb282))) (fun _ hk => hk.2) (.int .i64 ((rd_T35 l0 x9_1).f0))) (fun _ hk => hk.2) (.string ((rd_T35 l0 x9_1).f1))) (fun _ hk => hk.2) (.int .i64 ((rd_T35 l0 x9_1).f2))) (fun _ h_ => h_.1))) hb); have n1_ := Aside0.mk (blk_below (g := gb282) (o := .cells #[.int .i64 ((rd_T35 l0 x9_1).f0), .string ((rd_T35 l0 x9_1).f1), .int .i64 ((rd_T35 l0 x9_1).f2)] 35 (0, 0)) (by (with_reducible repeat (first | refine blk_drewN ?_ _ | refine blk_drew ?_ | refine blk_alloc ?_ _)); refine blk_put (cs := #[.int .i64 ((rd_T35 l0 x9_1).f0), .string ((rd_T35 l0 x9_1).f1), .int .i64 0]) ?_ 2 _ rfl; (with_reducible repeat (first | refine blk_drewN ?_ _ | refine blk_drew ?_ | refine blk_alloc ?_ _)); refine blk_put (cs := #[.int .i64 ((rd_T35 l0 x9_1).f0), .string (⟨#[]⟩ : ByteArray), .int .i64 0]) ?_ 1 _ rfl; (with_reducible repeat (first | refine blk_drewN ?_ _ | refine blk_drew ?_ | refine blk_alloc ?_ _)); refine blk_put (cs := #[.int .i64 0, .string (⟨#[]⟩ : ByteArray), .int .i64 0]) ?_ 0 _ rfl; (with_reducible repeat (first | refine blk_drewN ?_ _ | refine blk_drew ?_ | refine blk_alloc ?_ _)); exact BK282.out) hb); have n2_ := Aside0.mk (below_step (by repeat (first | (with_reducible first | exact HB.out | apply below_alloc | apply pw_below_drewN | apply below_drew1 | refine below_set ?_ GE282.out) | exact HB.out)) hb); clear HO_8; clear BK282; clear HB; have HO_8 := n0_; have BK282 := n1_; have HB := n2_; clear n0_ n1_ n2_; (try clear hb); (try clear hb2); (try clear hk); (try clear hi)))
            (try simp only [Act.put, List.setIfInBounds_toArray, List.set_cons_zero, List.set_cons_succ])
            go_cut [36] (fun v36 wc => ∃ (kq : Nat) (x36_7 : Bool), v36 = .bool x36_7 ∧ Aside0 (pontoonref05_Fill.j1 kq l0 l1 l2 x8_1 x9_1 t283 x36_7 ((rd_T35 l0 x9_1).f0) ((rd_T35 l0 x9_1).f1) ((rd_T35 l0 x9_1).f2) = some (r1, r2)) ∧ Aside0 (kq ≤ k1) ∧ Aside0 (Kd.R k35 35 wc w.heap.size (fun k_ => k_ ≠ gb282) u8 x8_1) ∧ Aside0 (wc.heap[gb282]? = some (.cells #[.int .i64 ((rd_T35 l0 x9_1).f0), .string ((rd_T35 l0 x9_1).f1), .int .i64 ((rd_T35 l0 x9_1).f2)] 35 (0, 0))) ∧ Aside0 (Below w.heap.size w wc))
            case first =>
              have H := HC8.out
              clear HC8
              by_cases c12 : t283 = 0
              · rw [if_pos c12] at H
                have c12b0 : (t283 == 0) = true := beq_iff_eq.mpr c12
                have c12b1 : (t283 != 0) = false := bne_eq_false_iff_eq.mpr c12
                clear c12
                (first | rw [c12b0] | (simp only [i64_w, i32_w]; rw [c12b0]) | skip)
                have H' := Aside0.mk H
                clear H
                go_wp2
                go_meet
                case rel => exact ⟨_, (true), (by first | rfl | (simp; done) | (simp [*]; done)), H', ⟨by have := HK1.out; first | omega | exact Nat.le_refl _⟩, ⟨by (with_reducible repeat (first | apply Kd.R_alloc | apply Kd.R_drewN | apply Kd.R_drew)); exact Kd.R_mono HO_8.out (fun _ hk => hk.2)⟩, ⟨by (with_reducible repeat (first | refine blk_drewN ?_ _ | refine blk_drew ?_ | refine blk_alloc ?_ _)); exact BK282.out⟩, ⟨by repeat (first | (with_reducible first | exact HB.out | apply below_alloc | apply pw_below_drewN | apply below_drew1 | refine below_set ?_ GE282.out) | exact HB.out)⟩⟩
              · rw [if_neg c12] at H
                have c12b0 : (t283 == 0) = false := beq_eq_false_iff_ne.mpr c12
                have c12b1 : (t283 != 0) = true := bne_iff_ne.mpr c12
                (first | rw [c12b0] | (simp only [i64_w, i32_w]; rw [c12b0]) | skip)
                have H' := Aside0.mk H
                clear H
                go_wp2
                go_meet
                case rel => exact ⟨_, (decide (t283 > (l1.length : Int))), (by first | rfl | (simp; done) | (simp [*]; done)), H', ⟨by have := HK1.out; first | omega | exact Nat.le_refl _⟩, ⟨by (with_reducible repeat (first | apply Kd.R_alloc | apply Kd.R_drewN | apply Kd.R_drew)); exact Kd.R_mono HO_8.out (fun _ hk => hk.2)⟩, ⟨by (with_reducible repeat (first | refine blk_drewN ?_ _ | refine blk_drew ?_ | refine blk_alloc ?_ _)); exact BK282.out⟩, ⟨by repeat (first | (with_reducible first | exact HB.out | apply below_alloc | apply pw_below_drewN | apply below_drew1 | refine below_set ?_ GE282.out) | exact HB.out)⟩⟩
            case rest =>
              clear HC8
              try clear c1
              try clear c2
              try clear p2
              try clear q2
              try clear hx2
              try clear c4
              try clear c4b0
              try clear c4b1
              try clear c4b2
              try clear c5
              try clear c5b0
              try clear c6
              try clear c6b0
              try clear c12
              try clear c12b0
              try clear c12b1
              try clear hcz10_0
              try clear hcz10_1
              try clear hcz10_2
              try clear hfz10_0
              try clear hfz10_1
              try clear hfz10_2
              try clear hx281_0
              try clear hx281_1
              try clear hx281_2
              try clear p2
              try clear p281
              try clear q281
              obtain ⟨kq, x36_7, rfl, HA, HJ7, HO_8, BK282, HB⟩ := hcut
              cases kq with
              | zero => exact absurd HA.out (by simp [pontoonref05_Fill.j1])
              | succ kj7 =>
                have H := HA.out
                clear HA
                simp only [pontoonref05_Fill.j1] at H
                by_cases c13 : x36_7 = true
                · subst c13
                  have H1 : (some (([] : List (S35)), 8)) = some (r1, r2) := by rw [if_pos rfl] at H; exact H
                  clear H
                  have H := H1
                  clear H1
                  simp only [Option.some.injEq, Prod.mk.injEq] at H
                  obtain ⟨rfl, rfl⟩ := H
                  go_wp2
                  go_ret2
                  exact ⟨_, by first | rfl | (simp [errW_none, errW_some] <;> rfl) | (simp [*, errW_none, errW_some] <;> rfl), by first | exact Kd.R_nil _ _ _ _ _ | exact Kd.N_nil _ _ _ _ _ | exact Kd.V_nil _ _ _ _ _ | exact Kd.Q_nil _ _ _ _ _ | exact Kd.S_nil _ _ _ _ _, by repeat (first | (with_reducible first | exact HB.out | apply below_alloc | apply pw_below_drewN | apply below_drew1 | refine below_set ?_ GE282.out) | exact HB.out)⟩
                · replace c13 := Bool.eq_false_iff.mpr c13
                  subst c13
                  have H1 : (if t283 > 0 then (if 0 ≤ (wrap64 (t283 - 1)) then (if (wrap64 (t283 - 1)) < (l2.length : Int) then (pontoonref05_Fill.j2 kj7 l0 l1 l2 x8_1 x9_1 t283 (rdOf false l2 (wrap64 (t283 - 1))) ((rd_T35 l0 x9_1).f0) ((rd_T35 l0 x9_1).f1) ((rd_T35 l0 x9_1).f2)) else (none)) else (none)) else (pontoonref05_Fill.j2 kj7 l0 l1 l2 x8_1 x9_1 t283 false ((rd_T35 l0 x9_1).f0) ((rd_T35 l0 x9_1).f1) ((rd_T35 l0 x9_1).f2))) = some (r1, r2) := by rw [if_neg (show ¬ (false = true) by decide)] at H; exact H
                  clear H
                  have H := H1
                  clear H1
                  have HC14 := Aside0.mk H
                  clear H
                  go_upto_region 11 with (fail)
                  go_cut [45] (fun v45 wc => ∃ (kq : Nat) (x45_13 : Bool), v45 = .bool x45_13 ∧ Aside0 (pontoonref05_Fill.j2 kq l0 l1 l2 x8_1 x9_1 t283 x45_13 ((rd_T35 l0 x9_1).f0) ((rd_T35 l0 x9_1).f1) ((rd_T35 l0 x9_1).f2) = some (r1, r2)) ∧ Aside0 (kq ≤ kj7) ∧ Aside0 (Kd.R k35 35 wc w.heap.size (fun k_ => k_ ≠ gb282) u8 x8_1) ∧ Aside0 (wc.heap[gb282]? = some (.cells #[.int .i64 ((rd_T35 l0 x9_1).f0), .string ((rd_T35 l0 x9_1).f1), .int .i64 ((rd_T35 l0 x9_1).f2)] 35 (0, 0))) ∧ Aside0 (Below w.heap.size w wc))
                  case first =>
                    have H := HC14.out
                    clear HC14
                    by_cases c15 : t283 > 0
                    · rw [if_pos c15] at H
                      have c15b0 : decide (0 < t283) = true := decide_eq_true c15
                      clear c15
                      (first | rw [c15b0] | (simp only [i64_w, i32_w]; rw [c15b0]) | skip)
                      obtain ⟨ji16, hji16⟩ : ∃ j_ : Int, (wrap64 (t283 - 1)) = j_ := ⟨_, rfl⟩
                      replace H : (if 0 ≤ (ji16) then (if (ji16) < (l2.length : Int) then (pontoonref05_Fill.j2 kj7 l0 l1 l2 x8_1 x9_1 t283 (rdOf false l2 (ji16)) ((rd_T35 l0 x9_1).f0) ((rd_T35 l0 x9_1).f1) ((rd_T35 l0 x9_1).f2)) else (none)) else (none)) = some (r1, r2) := by first | (rw [hji16] at H; exact H) | (simp only [hji16] at H ⊢; exact H)
                      have hji16w : (IntKind.i64.wrap (t283 - 1)) = ji16 := (i64_w _).trans hji16
                      by_cases c17 : 0 ≤ (ji16)
                      · rw [if_pos c17] at H
                        have c17b0 : decide (0 ≤ (ji16)) = true := decide_eq_true c17
                        clear c17
                        by_cases c18 : (ji16) < (l2.length : Int)
                        · rw [if_pos c18] at H
                          have c18b0 : decide ((ji16) < (l2.length : Int)) = true := decide_eq_true c18
                          clear c18
                          have H' := Aside0.mk H
                          clear H
                          have p284 : 0 ≤ ((ji16) : Int) := of_decide_eq_true (by first | (with_reducible assumption) | assumption)
                          have q284 : (ji16) < (l2.length : Int) := of_decide_eq_true (by first | (with_reducible assumption) | assumption)
                          obtain ⟨ad284, e284, hx284_0⟩ := Kd.at_bool HR2.out (ji16) p284 q284
                          cases e284
                          replace hx284_0 := (HB.out.cell (World.block_lt_of_cell? w _ hx284_0)).trans hx284_0
                          have q284n := q284
                          replace p284 := eq_true p284
                          replace q284 := eq_true q284
                          go_wp2
                          go_meet
                          case rel => exact ⟨_, (rdOf false l2 (ji16)), (by first | rfl | (simp; done) | (simp only [← hji16] <;> (first | rfl | simp)) | (simp [*]; done)), H', ⟨by have := HK1.out; have := HJ7.out; first | omega | exact Nat.le_refl _⟩, ⟨by (with_reducible repeat (first | apply Kd.R_alloc | apply Kd.R_drewN | apply Kd.R_drew)); exact HO_8.out⟩, ⟨by (with_reducible repeat (first | refine blk_drewN ?_ _ | refine blk_drew ?_ | refine blk_alloc ?_ _)); exact BK282.out⟩, ⟨by repeat (first | (with_reducible first | exact HB.out | apply below_alloc | apply pw_below_drewN | apply below_drew1 | refine below_set ?_ GE282.out) | exact HB.out)⟩⟩
                        · rw [if_neg c18] at H
                          exact absurd H (by simp)
                      · rw [if_neg c17] at H
                        exact absurd H (by simp)
                    · rw [if_neg c15] at H
                      have c15b0 : decide (0 < t283) = false := decide_eq_false c15
                      clear c15
                      (first | rw [c15b0] | (simp only [i64_w, i32_w]; rw [c15b0]) | skip)
                      have H' := Aside0.mk H
                      clear H
                      go_wp2
                      go_meet
                      case rel => exact ⟨_, (false), (by first | rfl | (simp; done) | (simp [*]; done)), H', ⟨by have := HK1.out; have := HJ7.out; first | omega | exact Nat.le_refl _⟩, ⟨by (with_reducible repeat (first | apply Kd.R_alloc | apply Kd.R_drewN | apply Kd.R_drew)); exact HO_8.out⟩, ⟨by (with_reducible repeat (first | refine blk_drewN ?_ _ | refine blk_drew ?_ | refine blk_alloc ?_ _)); exact BK282.out⟩, ⟨by repeat (first | (with_reducible first | exact HB.out | apply below_alloc | apply pw_below_drewN | apply below_drew1 | refine below_set ?_ GE282.out) | exact HB.out)⟩⟩
                  case rest =>
                    clear HC14
                    try clear c1
                    try clear c2
                    try clear p2
                    try clear q2
                    try clear hx2
                    try clear c4
                    try clear c4b0
                    try clear c4b1
                    try clear c4b2
                    try clear c5
                    try clear c5b0
                    try clear c6
                    try clear c6b0
                    try clear p6
                    try clear c12
                    try clear c12b0
                    try clear c12b1
                    try clear c13
                    try clear c14
                    try clear c15
                    try clear c15b0
                    try clear c17
                    try clear c17b0
                    try clear c18
                    try clear c18b0
                    try clear hcz10_0
                    try clear hcz10_1
                    try clear hcz10_2
                    try clear hfz10_0
                    try clear hfz10_1
                    try clear hfz10_2
                    try clear hx281_0
                    try clear hx281_1
                    try clear hx281_2
                    try clear hx284_0
                    try clear p2
                    try clear p281
                    try clear p284
                    try clear q2
                    try clear q281
                    try clear q284
                    obtain ⟨kq, x45_13, rfl, HA, HJ13, HO_8, BK282, HB⟩ := hcut
                    cases kq with
                    | zero => exact absurd HA.out (by simp [pontoonref05_Fill.j2])
                    | succ kj13 =>
                      have H := HA.out
                      clear HA
                      simp only [pontoonref05_Fill.j2] at H
                      by_cases c19 : x45_13 = true
                      · subst c19
                        have H1 : (if x8_1.length < 4398046511104 then (pontoonref05_Fill.l0 kj13 l0 l1 l2 (x8_1 ++ [(⟨1, (⟨#[110, 117, 108, 108]⟩ : ByteArray), ((rd_T35 l0 x9_1).f2)⟩ : S35)]) (wrap64 (x9_1 + 1))) else (none)) = some (r1, r2) := by rw [if_pos rfl] at H; exact H
                        clear H
                        have H := H1
                        clear H1
                        by_cases c20 : x8_1.length < 4398046511104
                        · rw [if_pos c20] at H
                          have LMc20 := Aside0.mk c20
                          clear c20
                          obtain ⟨y285, hy285⟩ : ∃ y_ : List (S35), y_ = (x8_1 ++ [(⟨1, (⟨#[110, 117, 108, 108]⟩ : ByteArray), ((rd_T35 l0 x9_1).f2)⟩ : S35)]) := ⟨_, rfl⟩
                          replace H : (pontoonref05_Fill.l0 kj13 l0 l1 l2 y285 (wrap64 (x9_1 + 1))) = some (r1, r2) := by first | (rw [hy285]; with_reducible exact H) | (have H2_ := (Option.bind_some _ _).symm.trans H; rw [hy285]; with_reducible exact H2_) | (have H2_ := (Option.bind_some _ _).symm.trans H; with_reducible exact H2_) | with_reducible exact H | (rw [hy285]; exact H) | exact H
                          have Ny285 := Aside0.mk hy285
                          clear hy285
                          have H' := Aside0.mk H
                          clear H
                          have hcz21_0 : wc.cell? ⟨gb282, 0, none⟩ = some (.int .i64 ((rd_T35 l0 x9_1).f0)) := (blk_cell BK282.out 0).trans rfl
                          have hcz21_1 : wc.cell? ⟨gb282, 1, none⟩ = some (.string ((rd_T35 l0 x9_1).f1)) := (blk_cell BK282.out 1).trans rfl
                          have hcz21_2 : wc.cell? ⟨gb282, 2, none⟩ = some (.int .i64 ((rd_T35 l0 x9_1).f2)) := (blk_cell BK282.out 2).trans rfl
                          have hfz21_0 := blk_frozen BK282.out 0
                          have hfz21_1 := blk_frozen BK282.out 1
                          have hfz21_2 := blk_frozen BK282.out 2
                          go_wp2_with (first | ((with_reducible refine gate_builtin (b := .append) (xs := #[.tmp 59, .tmp 61]) rfl ?_); (try (refine gate_guard (by rfl) ?_; dsimp only)); at_builtin; refine Kd.R_append k35 (w0 := w) w.heap.size rfl (.tmp 59) (.tmp 61) 22 35 (.agg #[(.int .i64 0), (.string ⟨#[]⟩), (.int .i64 0)]) 32 rfl Try.underlying22 info35 rfl (by decide) (by omega) u8 x8_1 (⟨1, (⟨#[110, 117, 108, 108]⟩ : ByteArray), ((rd_T35 l0 x9_1).f2)⟩ : S35) [.int .i64 1, .string (⟨#[110, 117, 108, 108]⟩ : ByteArray), .int .i64 ((rd_T35 l0 x9_1).f2)] (fun k_ => k_ ≠ gb282) (fun _ => False) rfl (by first | (go_simp; done) | (go_simp; rfl)) ?aP (fun _ hk => hk.elim) ?aF ?aO ?aB ?aS ?aL ?_; (case aP => exact k35_mkM _ _ _ (⟨1, (⟨#[110, 117, 108, 108]⟩ : ByteArray), ((rd_T35 l0 x9_1).f2)⟩ : S35)); (case aB => exact (by repeat (first | (with_reducible first | exact HB.out | apply below_alloc | apply pw_below_drewN | apply below_drew1 | refine below_set ?_ GE282.out) | exact HB.out))); (case aF => exact (fun k_ hk => Kd.freshB (g := gb282) (o := .cells #[.int .i64 1, .string (⟨#[110, 117, 108, 108]⟩ : ByteArray), .int .i64 ((rd_T35 l0 x9_1).f2)] 35 (0, 0)) (by (with_reducible repeat (first | refine blk_drewN ?_ _ | refine blk_drew ?_ | refine blk_alloc ?_ _)); refine blk_put (cs := #[.int .i64 1, .string (⟨#[110, 117, 108, 108]⟩ : ByteArray), .int .i64 ((rd_T35 l0 x9_1).f2)]) ?_ 2 _ rfl; (with_reducible repeat (first | refine blk_drewN ?_ _ | refine blk_drew ?_ | refine blk_alloc ?_ _)); refine blk_put (cs := #[.int .i64 1, .string ((rd_T35 l0 x9_1).f1), .int .i64 ((rd_T35 l0 x9_1).f2)]) ?_ 1 _ rfl; (with_reducible repeat (first | refine blk_drewN ?_ _ | refine blk_drew ?_ | refine blk_alloc ?_ _)); refine blk_put (cs := #[.int .i64 ((rd_T35 l0 x9_1).f0), .string ((rd_T35 l0 x9_1).f1), .int .i64 ((rd_T35 l0 x9_1).f2)]) ?_ 0 _ rfl; (with_reducible repeat (first | refine blk_drewN ?_ _ | refine blk_drew ?_ | refine blk_alloc ?_ _)); exact BK282.out) k_ hk)); (case aO => exact (by (with_reducible repeat (first | apply Kd.R_alloc | apply Kd.R_drewN | apply Kd.R_drew)); exact Kd.R_mono (Kd.R_far (p := ⟨gb282, 2, none⟩) (Kd.R_far (p := ⟨gb282, 1, none⟩) (Kd.R_far (p := ⟨gb282, 0, none⟩) (Kd.R_mono HO_8.out (fun k_ hk => (⟨hk, hk⟩ : _ ∧ k_ ≠ gb282))) (fun _ hk => hk.2) (.int .i64 1)) (fun _ hk => hk.2) (.string (⟨#[110, 117, 108, 108]⟩ : ByteArray))) (fun _ hk => hk.2) (.int .i64 ((rd_T35 l0 x9_1).f2))) (fun _ hk => hk.1))); (case aS => exact (below_size (by repeat (first | (with_reducible first | exact HB.out | apply below_alloc | apply pw_below_drewN | apply below_drew1 | refine below_set ?_ GE282.out) | exact HB.out)))); (case aL => have := LMc20.out; omega); intro v286 w22 ho hb hg hat; rw [← Ny285.out] at ho; have n0_ := Aside0.mk (blk_grown (g := gb282) (o := .cells #[.int .i64 1, .string (⟨#[110, 117, 108, 108]⟩ : ByteArray), .int .i64 ((rd_T35 l0 x9_1).f2)] 35 (0, 0)) (by (with_reducible repeat (first | refine blk_drewN ?_ _ | refine blk_drew ?_ | refine blk_alloc ?_ _)); refine blk_put (cs := #[.int .i64 1, .string (⟨#[110, 117, 108, 108]⟩ : ByteArray), .int .i64 ((rd_T35 l0 x9_1).f2)]) ?_ 2 _ rfl; (with_reducible repeat (first | refine blk_drewN ?_ _ | refine blk_drew ?_ | refine blk_alloc ?_ _)); refine blk_put (cs := #[.int .i64 1, .string ((rd_T35 l0 x9_1).f1), .int .i64 ((rd_T35 l0 x9_1).f2)]) ?_ 1 _ rfl; (with_reducible repeat (first | refine blk_drewN ?_ _ | refine blk_drew ?_ | refine blk_alloc ?_ _)); refine blk_put (cs := #[.int .i64 ((rd_T35 l0 x9_1).f0), .string ((rd_T35 l0 x9_1).f1), .int .i64 ((rd_T35 l0 x9_1).f2)]) ?_ 0 _ rfl; (with_reducible repeat (first | refine blk_drewN ?_ _ | refine blk_drew ?_ | refine blk_alloc ?_ _)); exact BK282.out) hg (Kd.R_away HO_8.out (fun _ hk => hk))); have n1_ := Aside0.mk (hb); have n2_ := Aside0.mk (ho); clear BK282; clear HB; clear HO_8; have BK282 := n0_; have HB := n1_; have HO287 := n2_; clear n0_ n1_ n2_; clear ho hb hg hat))
                          go_roundg kj13
                          case measure => have := HK1.out; have := HJ7.out; have := HJ13.out; omega
                          case rel => exact ⟨(y285), (wrap64 (x9_1 + 1)), (by first | rfl | (simp; done) | (simp [*]; done)), H', ⟨by have := HK1.out; have := HJ7.out; have := HJ13.out; omega⟩, ⟨by (with_reducible repeat (first | apply Kd.R_alloc | apply Kd.R_drewN | apply Kd.R_drew)); exact Kd.R_mono HO287.out (fun _ hk => trivial)⟩, ⟨by repeat (first | (with_reducible first | exact HB.out | apply below_alloc | apply pw_below_drewN | apply below_drew1 | refine below_set ?_ GE282.out) | exact HB.out)⟩⟩
                        · rw [if_neg c20] at H
                          exact absurd H (by simp)
                      · replace c19 := Bool.eq_false_iff.mpr c19
                        subst c19
                        have H1 : (if t283 > 0 then (if 0 ≤ (wrap64 (t283 - 1)) then (if (wrap64 (t283 - 1)) < (l1.length : Int) then (if x8_1.length < 4398046511104 then (pontoonref05_Fill.l0 kj13 l0 l1 l2 (x8_1 ++ [(⟨3, rdOf ByteArray.empty l1 (wrap64 (t283 - 1)), ((rd_T35 l0 x9_1).f2)⟩ : S35)]) (wrap64 (x9_1 + 1))) else (none)) else (none)) else (none)) else (if x8_1.length < 4398046511104 then (pontoonref05_Fill.l0 kj13 l0 l1 l2 (x8_1 ++ [(⟨((rd_T35 l0 x9_1).f0), ((rd_T35 l0 x9_1).f1), ((rd_T35 l0 x9_1).f2)⟩ : S35)]) (wrap64 (x9_1 + 1))) else (none))) = some (r1, r2) := by rw [if_neg (show ¬ (false = true) by decide)] at H; exact H
                        clear H
                        have H := H1
                        clear H1
                        by_cases c23 : t283 > 0
                        · rw [if_pos c23] at H
                          have c23b0 : decide (0 < t283) = true := decide_eq_true c23
                          clear c23
                          obtain ⟨ji24, hji24⟩ : ∃ j_ : Int, (wrap64 (t283 - 1)) = j_ := ⟨_, rfl⟩
                          replace H : (if 0 ≤ (ji24) then (if (ji24) < (l1.length : Int) then (if x8_1.length < 4398046511104 then (pontoonref05_Fill.l0 kj13 l0 l1 l2 (x8_1 ++ [(⟨3, rdOf ByteArray.empty l1 (ji24), ((rd_T35 l0 x9_1).f2)⟩ : S35)]) (wrap64 (x9_1 + 1))) else (none)) else (none)) else (none)) = some (r1, r2) := by first | (rw [hji24] at H; exact H) | (simp only [hji24] at H ⊢; exact H)
                          have hji24w : (IntKind.i64.wrap (t283 - 1)) = ji24 := (i64_w _).trans hji24
                          by_cases c25 : 0 ≤ (ji24)
                          · rw [if_pos c25] at H
                            have c25b0 : decide (0 ≤ (ji24)) = true := decide_eq_true c25
                            clear c25
                            by_cases c26 : (ji24) < (l1.length : Int)
                            · rw [if_pos c26] at H
                              have c26b0 : decide ((ji24) < (l1.length : Int)) = true := decide_eq_true c26
                              clear c26
                              by_cases c27 : x8_1.length < 4398046511104
                              · rw [if_pos c27] at H
                                have LMc27 := Aside0.mk c27
                                clear c27
                                obtain ⟨y289, hy289⟩ : ∃ y_ : List (S35), y_ = (x8_1 ++ [(⟨3, rdOf ByteArray.empty l1 (ji24), ((rd_T35 l0 x9_1).f2)⟩ : S35)]) := ⟨_, rfl⟩
                                replace H : (pontoonref05_Fill.l0 kj13 l0 l1 l2 y289 (wrap64 (x9_1 + 1))) = some (r1, r2) := by first | (rw [hy289]; with_reducible exact H) | (have H2_ := (Option.bind_some _ _).symm.trans H; rw [hy289]; with_reducible exact H2_) | (have H2_ := (Option.bind_some _ _).symm.trans H; with_reducible exact H2_) | with_reducible exact H | (rw [hy289]; exact H) | exact H
                                have Ny289 := Aside0.mk hy289
                                clear hy289
                                have H' := Aside0.mk H
                                clear H
                                try go_wp2
                                have n0_ := Aside0.mk (Kd.R_drew HO_8.out)
                                have n1_ := Aside0.mk (blk_drew BK282.out)
                                have n2_ := Aside0.mk (below_drew1 HB.out)
                                clear HO_8
                                clear BK282
                                clear HB
                                have HO_8 := n0_
                                have BK282 := n1_
                                have HB := n2_
                                clear n0_ n1_ n2_
                                have p288 : 0 ≤ ((ji24) : Int) := of_decide_eq_true (by first | (with_reducible assumption) | assumption)
                                have q288 : (ji24) < (l1.length : Int) := of_decide_eq_true (by first | (with_reducible assumption) | assumption)
                                obtain ⟨ad288, e288, hx288_0⟩ := Kd.at_string HR1.out (ji24) p288 q288
                                have hw288_0 := hx288_0
                                cases e288
                                replace hx288_0 := (HB.out.cell (World.block_lt_of_cell? w _ hx288_0)).trans hx288_0
                                have q288n := q288
                                replace p288 := eq_true p288
                                replace q288 := eq_true q288
                                refine start_ (n := 9) (S := fun w' => w'.cell? ⟨gb282, 0, none⟩ = some (.int .i64 ((rd_T35 l0 x9_1).f0)) ∧ w'.cell? ⟨gb282, 1, none⟩ = some (.string ((rd_T35 l0 x9_1).f1)) ∧ w'.cell? ⟨gb282, 2, none⟩ = some (.int .i64 ((rd_T35 l0 x9_1).f2)) ∧ w'.cell? (ad288.add ((ji24)).toNat) = some (.string (rdOf ByteArray.empty l1 (ji24)))) (ds := [8]) #[false, false, false, false, false, false, false, false, false] (by kernel_rfl) rfl rfl ⟨(blk_cell BK282.out 0).trans rfl, (blk_cell BK282.out 1).trans rfl, (blk_cell BK282.out 2).trans rfl, ((HB.out.cell (World.block_lt_of_cell? w _ hw288_0)).trans hw288_0)⟩ (fun hHeld => ?_); refine with_tabW pontoonref05_Fill.tab14 pontoonref05_Fill.bits14 (fun HT_ HW_ => ?_)
                                generalize wc.drew = w28 at HO_8 BK282 HB hx288_0 hHeld ⊢
                                refine pure_ (i := 0) (N := some 51) (v := ?_) (a' := ?_) #[true, false, false, false, false, false, false, false, false] rfl rfl (any_of HT_.out (by kernel_rfl)) (fun _ _ _ h => h) (Or.inl ⟨by rfl, ?_⟩) ?_ ?_
                                rotate_left
                                · intro w'
                                  go_simp
                                  with_reducible rfl
                                rotate_left
                                · simp only [Act.put, List.setIfInBounds_toArray, List.set_cons_zero, List.set_cons_succ, i64_w, i32_w]
                                  rfl
                                refine pure_ (i := 1) (N := some 52) (v := ?_) (a' := ?_) #[true, true, false, false, false, false, false, false, false] rfl rfl (any_of HT_.out (by kernel_rfl)) (fun _ _ _ h => h) (Or.inl ⟨by rfl, ?_⟩) ?_ ?_
                                rotate_left
                                · intro w'
                                  go_simp
                                  with_reducible rfl
                                rotate_left
                                · simp only [Act.put, List.setIfInBounds_toArray, List.set_cons_zero, List.set_cons_succ, i64_w, i32_w]
                                  rfl
                                refine pure_ (i := 2) (N := some 53) (v := ?_) (a' := ?_) #[true, true, true, false, false, false, false, false, false] rfl rfl (any_of HT_.out (by kernel_rfl)) (fun _ _ _ h => h) (Or.inl ⟨by rfl, ?_⟩) ?_ ?_
                                rotate_left
                                · intro w'
                                  go_simp
                                  with_reducible rfl
                                rotate_left
                                · simp only [Act.put, List.setIfInBounds_toArray, List.set_cons_zero, List.set_cons_succ, i64_w, i32_w]
                                  rfl
                                refine pure_ (i := 3) (N := some 54) (v := ?_) (a' := ?_) #[true, true, true, true, false, false, false, false, false] rfl rfl (any_of HT_.out (by kernel_rfl)) (fun _ _ _ h => h) (Or.inl ⟨by rfl, ?_⟩) ?_ ?_
                                rotate_left
                                · intro w'
                                  go_simp
                                  with_reducible rfl
                                rotate_left
                                · simp only [Act.put, List.setIfInBounds_toArray, List.set_cons_zero, List.set_cons_succ, i64_w, i32_w]
                                  rfl
                                refine pure_ (i := 5) (N := some 56) (v := ?_) (a' := ?_) #[true, true, true, true, false, true, false, false, false] rfl rfl (any_of HT_.out (by kernel_rfl)) (fun _ _ _ h => h) (Or.inl ⟨by rfl, ?_⟩) ?_ ?_
                                rotate_left
                                · intro w'
                                  go_simp
                                  with_reducible rfl
                                rotate_left
                                · simp only [Act.put, List.setIfInBounds_toArray, List.set_cons_zero, List.set_cons_succ, i64_w, i32_w]
                                  rfl
                                refine take_ (i := 4) (N := some 55) (v := ?_) (a' := ?_) #[true, true, true, true, true, true, false, false, false] rfl rfl (take_ofW HT_.out HW_.out (by kernel_rfl)) (fun _ _ _ h => h) (Or.inl ⟨by rfl, ?_⟩) hHeld ?_ ?_
                                rotate_left
                                · rintro w' ⟨s0, s1, s2, s3⟩
                                  go_simp
                                  with_reducible rfl
                                rotate_left
                                · simp only [Act.put, List.setIfInBounds_toArray, List.set_cons_zero, List.set_cons_succ, i64_w, i32_w]
                                  rfl
                                refine take_ (i := 6) (N := some 57) (v := ?_) (a' := ?_) #[true, true, true, true, true, true, true, false, false] rfl rfl (take_ofW HT_.out HW_.out (by kernel_rfl)) (fun _ _ _ h => h) (Or.inl ⟨by rfl, ?_⟩) hHeld ?_ ?_
                                rotate_left
                                · rintro w' ⟨s0, s1, s2, s3⟩
                                  go_simp
                                  with_reducible rfl
                                rotate_left
                                · simp only [Act.put, List.setIfInBounds_toArray, List.set_cons_zero, List.set_cons_succ, i64_w, i32_w]
                                  rfl
                                refine pure_ (i := 7) (N := some 58) (v := ?_) (a' := ?_) #[true, true, true, true, true, true, true, true, false] rfl rfl (any_of HT_.out (by kernel_rfl)) (fun _ _ _ h => h) (Or.inl ⟨by rfl, ?_⟩) ?_ ?_
                                rotate_left
                                · intro w'
                                  go_simp
                                  with_reducible rfl
                                rotate_left
                                · simp only [Act.put, List.setIfInBounds_toArray, List.set_cons_zero, List.set_cons_succ, i64_w, i32_w]
                                  rfl
                                refine last_ (i := 8) (N := none) #[true, true, true, true, true, true, true, true, true] rfl rfl (one_of HT_.out (by kernel_rfl)) (by decide) (fun K hK => ?_)
                                have hs29 : w28.cell? ⟨gb282, 0, none⟩ = some (.int .i64 ((rd_T35 l0 x9_1).f0)) := (blk_cell BK282.out 0).trans rfl
                                have hfs29 := blk_frozen BK282.out 0
                                have hs30 : w28.cell? ⟨gb282, 1, none⟩ = some (.string ((rd_T35 l0 x9_1).f1)) := (blk_cell BK282.out 1).trans rfl
                                have hfs30 := blk_frozen BK282.out 1
                                have hs31 : w28.cell? ⟨gb282, 2, none⟩ = some (.int .i64 ((rd_T35 l0 x9_1).f2)) := (blk_cell BK282.out 2).trans rfl
                                have hfs31 := blk_frozen BK282.out 2
                                refine skip_ (w1 := ?_) (by rfl) rfl ?_ ?_
                                rotate_left
                                · go_simp
                                  rfl
                                refine hK.out _ _ ?_
                                clear hK K
                                refine done_ (done_of HT_.out (by kernel_rfl)) ?_
                                have hcz32_0 : w28.cell? ⟨gb282, 0, none⟩ = some (.int .i64 ((rd_T35 l0 x9_1).f0)) := (blk_cell BK282.out 0).trans rfl
                                have hcz32_1 : w28.cell? ⟨gb282, 1, none⟩ = some (.string ((rd_T35 l0 x9_1).f1)) := (blk_cell BK282.out 1).trans rfl
                                have hcz32_2 : w28.cell? ⟨gb282, 2, none⟩ = some (.int .i64 ((rd_T35 l0 x9_1).f2)) := (blk_cell BK282.out 2).trans rfl
                                have hfz32_0 := blk_frozen BK282.out 0
                                have hfz32_1 := blk_frozen BK282.out 1
                                have hfz32_2 := blk_frozen BK282.out 2
                                try go_wp2_with (first | ((with_reducible refine gate_builtin (b := .append) (xs := #[.tmp 59, .tmp 61]) rfl ?_); (try (refine gate_guard (by rfl) ?_; dsimp only)); at_builtin; refine Kd.R_append k35 (w0 := w) w.heap.size rfl (.tmp 59) (.tmp 61) 22 35 (.agg #[(.int .i64 0), (.string ⟨#[]⟩), (.int .i64 0)]) 32 rfl Try.underlying22 info35 rfl (by decide) (by omega) u8 x8_1 (⟨3, rdOf ByteArray.empty l1 (ji24), ((rd_T35 l0 x9_1).f2)⟩ : S35) [.int .i64 3, .string (rdOf ByteArray.empty l1 (ji24)), .int .i64 ((rd_T35 l0 x9_1).f2)] (fun k_ => k_ ≠ gb282) (fun _ => False) rfl (by first | (go_simp; done) | (go_simp; rfl)) ?aP (fun _ hk => hk.elim) ?aF ?aO ?aB ?aS ?aL ?_; (case aP => exact k35_mkM _ _ _ (⟨3, rdOf ByteArray.empty l1 (ji24), ((rd_T35 l0 x9_1).f2)⟩ : S35)); (case aB => exact (by repeat (first | (with_reducible first | exact HB.out | apply below_alloc | apply pw_below_drewN | apply below_drew1 | refine below_set ?_ GE282.out) | exact HB.out))); (case aF => exact (fun k_ hk => Kd.freshB (g := gb282) (o := .cells #[.int .i64 3, .string (rdOf ByteArray.empty l1 (ji24)), .int .i64 ((rd_T35 l0 x9_1).f2)] 35 (0, 0)) (by (with_reducible repeat (first | refine blk_drewN ?_ _ | refine blk_drew ?_ | refine blk_alloc ?_ _)); refine blk_put (cs := #[.int .i64 3, .string (rdOf ByteArray.empty l1 (ji24)), .int .i64 ((rd_T35 l0 x9_1).f2)]) ?_ 2 _ rfl; (with_reducible repeat (first | refine blk_drewN ?_ _ | refine blk_drew ?_ | refine blk_alloc ?_ _)); refine blk_put (cs := #[.int .i64 3, .string ((rd_T35 l0 x9_1).f1), .int .i64 ((rd_T35 l0 x9_1).f2)]) ?_ 1 _ rfl; (with_reducible repeat (first | refine blk_drewN ?_ _ | refine blk_drew ?_ | refine blk_alloc ?_ _)); refine blk_put (cs := #[.int .i64 ((rd_T35 l0 x9_1).f0), .string ((rd_T35 l0 x9_1).f1), .int .i64 ((rd_T35 l0 x9_1).f2)]) ?_ 0 _ rfl; (with_reducible repeat (first | refine blk_drewN ?_ _ | refine blk_drew ?_ | refine blk_alloc ?_ _)); exact BK282.out) k_ hk)); (case aO => exact (by (with_reducible repeat (first | apply Kd.R_alloc | apply Kd.R_drewN | apply Kd.R_drew)); exact Kd.R_mono (Kd.R_far (p := ⟨gb282, 2, none⟩) (Kd.R_far (p := ⟨gb282, 1, none⟩) (Kd.R_far (p := ⟨gb282, 0, none⟩) (Kd.R_mono HO_8.out (fun k_ hk => (⟨hk, hk⟩ : _ ∧ k_ ≠ gb282))) (fun _ hk => hk.2) (.int .i64 3)) (fun _ hk => hk.2) (.string (rdOf ByteArray.empty l1 (ji24)))) (fun _ hk => hk.2) (.int .i64 ((rd_T35 l0 x9_1).f2))) (fun _ hk => hk.1))); (case aS => exact (below_size (by repeat (first | (with_reducible first | exact HB.out | apply below_alloc | apply pw_below_drewN | apply below_drew1 | refine below_set ?_ GE282.out) | exact HB.out)))); (case aL => have := LMc27.out; omega); intro v290 w33 ho hb hg hat; rw [← Ny289.out] at ho; have n0_ := Aside0.mk (blk_grown (g := gb282) (o := .cells #[.int .i64 3, .string (rdOf ByteArray.empty l1 (ji24)), .int .i64 ((rd_T35 l0 x9_1).f2)] 35 (0, 0)) (by (with_reducible repeat (first | refine blk_drewN ?_ _ | refine blk_drew ?_ | refine blk_alloc ?_ _)); refine blk_put (cs := #[.int .i64 3, .string (rdOf ByteArray.empty l1 (ji24)), .int .i64 ((rd_T35 l0 x9_1).f2)]) ?_ 2 _ rfl; (with_reducible repeat (first | refine blk_drewN ?_ _ | refine blk_drew ?_ | refine blk_alloc ?_ _)); refine blk_put (cs := #[.int .i64 3, .string ((rd_T35 l0 x9_1).f1), .int .i64 ((rd_T35 l0 x9_1).f2)]) ?_ 1 _ rfl; (with_reducible repeat (first | refine blk_drewN ?_ _ | refine blk_drew ?_ | refine blk_alloc ?_ _)); refine blk_put (cs := #[.int .i64 ((rd_T35 l0 x9_1).f0), .string ((rd_T35 l0 x9_1).f1), .int .i64 ((rd_T35 l0 x9_1).f2)]) ?_ 0 _ rfl; (with_reducible repeat (first | refine blk_drewN ?_ _ | refine blk_drew ?_ | refine blk_alloc ?_ _)); exact BK282.out) hg (Kd.R_away HO_8.out (fun _ hk => hk))); have n1_ := Aside0.mk (hb); have n2_ := Aside0.mk (ho); clear BK282; clear HB; clear HO_8; have BK282 := n0_; have HB := n1_; have HO291 := n2_; clear n0_ n1_ n2_; clear ho hb hg hat))
                                go_roundg kj13
                                case measure => have := HK1.out; have := HJ7.out; have := HJ13.out; omega
                                case rel => exact ⟨(y289), (wrap64 (x9_1 + 1)), (by first | rfl | (simp; done) | (simp [*]; done)), H', ⟨by have := HK1.out; have := HJ7.out; have := HJ13.out; omega⟩, ⟨by (with_reducible repeat (first | apply Kd.R_alloc | apply Kd.R_drewN | apply Kd.R_drew)); exact Kd.R_mono HO291.out (fun _ hk => trivial)⟩, ⟨by repeat (first | (with_reducible first | exact HB.out | apply below_alloc | apply pw_below_drewN | apply below_drew1 | refine below_set ?_ GE282.out) | exact HB.out)⟩⟩
                              · rw [if_neg c27] at H
                                exact absurd H (by simp)
                            · rw [if_neg c26] at H
                              exact absurd H (by simp)
                          · rw [if_neg c25] at H
                            exact absurd H (by simp)
                        · rw [if_neg c23] at H
                          have c23b0 : decide (0 < t283) = false := decide_eq_false c23
                          clear c23
                          by_cases c34 : x8_1.length < 4398046511104
                          · rw [if_pos c34] at H
                            have LMc34 := Aside0.mk c34
                            clear c34
                            obtain ⟨y292, hy292⟩ : ∃ y_ : List (S35), y_ = (x8_1 ++ [(⟨((rd_T35 l0 x9_1).f0), ((rd_T35 l0 x9_1).f1), ((rd_T35 l0 x9_1).f2)⟩ : S35)]) := ⟨_, rfl⟩
                            replace H : (pontoonref05_Fill.l0 kj13 l0 l1 l2 y292 (wrap64 (x9_1 + 1))) = some (r1, r2) := by first | (rw [hy292]; with_reducible exact H) | (have H2_ := (Option.bind_some _ _).symm.trans H; rw [hy292]; with_reducible exact H2_) | (have H2_ := (Option.bind_some _ _).symm.trans H; with_reducible exact H2_) | with_reducible exact H | (rw [hy292]; exact H) | exact H
                            have Ny292 := Aside0.mk hy292
                            clear hy292
                            have H' := Aside0.mk H
                            clear H
                            have hcz35_0 : wc.cell? ⟨gb282, 0, none⟩ = some (.int .i64 ((rd_T35 l0 x9_1).f0)) := (blk_cell BK282.out 0).trans rfl
                            have hcz35_1 : wc.cell? ⟨gb282, 1, none⟩ = some (.string ((rd_T35 l0 x9_1).f1)) := (blk_cell BK282.out 1).trans rfl
                            have hcz35_2 : wc.cell? ⟨gb282, 2, none⟩ = some (.int .i64 ((rd_T35 l0 x9_1).f2)) := (blk_cell BK282.out 2).trans rfl
                            have hfz35_0 := blk_frozen BK282.out 0
                            have hfz35_1 := blk_frozen BK282.out 1
                            have hfz35_2 := blk_frozen BK282.out 2
                            go_wp2_with (first | ((with_reducible refine gate_builtin (b := .append) (xs := #[.tmp 59, .tmp 61]) rfl ?_); (try (refine gate_guard (by rfl) ?_; dsimp only)); at_builtin; refine Kd.R_append k35 (w0 := w) w.heap.size rfl (.tmp 59) (.tmp 61) 22 35 (.agg #[(.int .i64 0), (.string ⟨#[]⟩), (.int .i64 0)]) 32 rfl Try.underlying22 info35 rfl (by decide) (by omega) u8 x8_1 (⟨((rd_T35 l0 x9_1).f0), ((rd_T35 l0 x9_1).f1), ((rd_T35 l0 x9_1).f2)⟩ : S35) [.int .i64 ((rd_T35 l0 x9_1).f0), .string ((rd_T35 l0 x9_1).f1), .int .i64 ((rd_T35 l0 x9_1).f2)] (fun k_ => k_ ≠ gb282) (fun _ => False) rfl rfl ?aP (fun _ hk => hk.elim) ?aF ?aO ?aB ?aS ?aL ?_; (case aP => exact k35_mkM _ _ _ (⟨((rd_T35 l0 x9_1).f0), ((rd_T35 l0 x9_1).f1), ((rd_T35 l0 x9_1).f2)⟩ : S35)); (case aB => exact (by repeat (first | (with_reducible first | exact HB.out | apply below_alloc | apply pw_below_drewN | apply below_drew1 | refine below_set ?_ GE282.out) | exact HB.out))); (case aF => exact (fun k_ hk => Kd.freshB (g := gb282) (o := .cells #[.int .i64 ((rd_T35 l0 x9_1).f0), .string ((rd_T35 l0 x9_1).f1), .int .i64 ((rd_T35 l0 x9_1).f2)] 35 (0, 0)) (by (with_reducible repeat (first | refine blk_drewN ?_ _ | refine blk_drew ?_ | refine blk_alloc ?_ _)); exact BK282.out) k_ hk)); (case aO => exact (by (with_reducible repeat (first | apply Kd.R_alloc | apply Kd.R_drewN | apply Kd.R_drew)); exact HO_8.out)); (case aS => exact (below_size (by repeat (first | (with_reducible first | exact HB.out | apply below_alloc | apply pw_below_drewN | apply below_drew1 | refine below_set ?_ GE282.out) | exact HB.out)))); (case aL => have := LMc34.out; omega); intro v293 w36 ho hb hg hat; rw [← Ny292.out] at ho; have n0_ := Aside0.mk (blk_grown (g := gb282) (o := .cells #[.int .i64 ((rd_T35 l0 x9_1).f0), .string ((rd_T35 l0 x9_1).f1), .int .i64 ((rd_T35 l0 x9_1).f2)] 35 (0, 0)) (by (with_reducible repeat (first | refine blk_drewN ?_ _ | refine blk_drew ?_ | refine blk_alloc ?_ _)); exact BK282.out) hg (Kd.R_away HO_8.out (fun _ hk => hk))); have n1_ := Aside0.mk (hb); have n2_ := Aside0.mk (ho); clear BK282; clear HB; clear HO_8; have BK282 := n0_; have HB := n1_; have HO294 := n2_; clear n0_ n1_ n2_; clear ho hb hg hat))
                            go_roundg kj13
                            case measure => have := HK1.out; have := HJ7.out; have := HJ13.out; omega
                            case rel => exact ⟨(y292), (wrap64 (x9_1 + 1)), (by first | rfl | (simp; done) | (simp [*]; done)), H', ⟨by have := HK1.out; have := HJ7.out; have := HJ13.out; omega⟩, ⟨by (with_reducible repeat (first | apply Kd.R_alloc | apply Kd.R_drewN | apply Kd.R_drew)); exact Kd.R_mono HO294.out (fun _ hk => trivial)⟩, ⟨by repeat (first | (with_reducible first | exact HB.out | apply below_alloc | apply pw_below_drewN | apply below_drew1 | refine below_set ?_ GE282.out) | exact HB.out)⟩⟩
                          · rw [if_neg c34] at H
                            exact absurd H (by simp)
          · rw [if_neg c6] at H
            exact absurd H (by simp)
        · rw [if_neg c5] at H
          have c5b0 : decide (x9_1 < (l0.length : Int)) = false := decide_eq_false c5
          clear c5
          simp only [Option.some.injEq, Prod.mk.injEq] at H
          obtain ⟨rfl, rfl⟩ := H
          go_wp2
          go_ret2
          exact ⟨_, by first | rfl | (simp [errW_none, errW_some] <;> rfl) | (simp [*, errW_none, errW_some] <;> rfl), by (with_reducible repeat (first | apply Kd.R_alloc | apply Kd.R_drewN | apply Kd.R_drew)); exact HO_8.out, by repeat (first | (with_reducible first | exact HB.out | apply below_alloc | apply pw_below_drewN | apply below_drew1) | exact HB.out)⟩
  · rw [if_neg c4] at H
    have c4b0 : ((l1.length : Int) == (l2.length : Int)) = false := beq_eq_false_iff_ne.mpr c4
    have c4b1 : ((l1.length : Int) != (l2.length : Int)) = true := bne_iff_ne.mpr c4
    have c4b2 : (l1.length == l2.length) = false := by first | simpa using c4 | (simp at c4 ⊢; omega)
    simp only [Option.some.injEq, Prod.mk.injEq] at H
    obtain ⟨rfl, rfl⟩ := H
    go_enter Try.func14, Try.ntmps14
    go_wp2
    go_ret2
    exact ⟨_, by first | rfl | (simp [errW_none, errW_some] <;> rfl) | (simp [*, errW_none, errW_some] <;> rfl), by first | exact Kd.R_nil _ _ _ _ _ | exact Kd.N_nil _ _ _ _ _ | exact Kd.V_nil _ _ _ _ _ | exact Kd.Q_nil _ _ _ _ _ | exact Kd.S_nil _ _ _ _ _, by repeat (first | (with_reducible first | exact HB.out | apply below_alloc | apply pw_below_drewN | apply below_drew1) | exact HB.out)⟩

end Go.Proofs.Ytgfppniifjabdaa.Pb
