-- Written by a program of this session's (wip/ext/run.py) over the kit's print, with contracts of its own.
import Derived.Test.YtgfppniifjabdaaPbx0
namespace Go.Proofs.Ytgfppniifjabdaa.Pb
open Go Go.Proofs.Ytgfppniifjabdaa Go.RowKit Go.Proofs.YtgfppniifjabdaaW.PrintWords Go.Proofs.YtgfppniifjabdaaW.PrintLast Go.Proofs.YtgfppniifjabdaaW.PrintMore
attribute [local go_sem] max2_int min2_int max_two min_two max_three min_three max_four min_four   -- for this text's walks alone
set_option linter.unusedVariables false
set_option linter.unusedSimpArgs false

/-! ### pontoonref05_param: function 25 -/
mutual
def pontoonref05_param.j0 : Nat → Bool → Int → ByteArray → Int → Option (Int)
  | 0, _, _, _, _ => none
  | k + 1, x19, x281000, x281001, x281002 => if x19 = true then (some (-1)) else (pontoonref05_param.l0 k 0 1 x281000 x281001 x281002)
def pontoonref05_param.l0 : Nat → Int → Int → Int → ByteArray → Int → Option (Int)
  | 0, _, _, _, _, _ => none
  | k + 1, x3, x4, x281000, x281001, x281002 => if x4 < (x281001.size : Int) then (if 0 ≤ x4 then (if (bt x281001 x4) < 48 then (pontoonref05_param.j2 k x3 x4 true x281000 x281001 x281002) else (pontoonref05_param.j2 k x3 x4 (decide ((bt x281001 x4) > 57)) x281000 x281001 x281002)) else (none)) else (if (x281001.size : Int) > 10 then (some 0) else (some x3))
def pontoonref05_param.j2 : Nat → Int → Int → Bool → Int → ByteArray → Int → Option (Int)
  | 0, _, _, _, _, _, _ => none
  | k + 1, x3, x4, x38, x281000, x281001, x281002 => if x38 = true then (some (-1)) else (if x4 ≤ 9 then (if 0 ≤ x4 then (if x4 < (x281001.size : Int) then (pontoonref05_param.l0 k (wrap64 ((wrap64 (10 * x3)) + (((bt x281001 x4) - 48) % 256))) (wrap64 (x4 + 1)) x281000 x281001 x281002) else (none)) else (none)) else (pontoonref05_param.l0 k x3 (wrap64 (x4 + 1)) x281000 x281001 x281002))
end
def pontoonref05_param.f (k : Nat) (a0_0 : Int) (a0_1 : ByteArray) (a0_2 : Int) : Option (Int) := if a0_0 = 5 then (if (a0_1.size : Int) < 2 then (pontoonref05_param.j0 k true a0_0 a0_1 a0_2) else (if 0 < (a0_1.size : Int) then (pontoonref05_param.j0 k ((bt a0_1 0) != 36) a0_0 a0_1 a0_2) else (none))) else (pontoonref05_param.j0 k true a0_0 a0_1 a0_2)
theorem pontoonref05_param.mono_l : ∀ k, (∀ y0 y1 y2 y3, LeO (pontoonref05_param.j0 k y0 y1 y2 y3) (pontoonref05_param.j0 (k + 1) y0 y1 y2 y3)) ∧ (∀ y0 y1 y2 y3 y4, LeO (pontoonref05_param.l0 k y0 y1 y2 y3 y4) (pontoonref05_param.l0 (k + 1) y0 y1 y2 y3 y4)) ∧ (∀ y0 y1 y2 y3 y4 y5, LeO (pontoonref05_param.j2 k y0 y1 y2 y3 y4 y5) (pontoonref05_param.j2 (k + 1) y0 y1 y2 y3 y4 y5))
  | 0 => ⟨fun _ _ _ _ r h => by simp [pontoonref05_param.j0] at h, fun _ _ _ _ _ r h => by simp [pontoonref05_param.l0] at h, fun _ _ _ _ _ _ r h => by simp [pontoonref05_param.j2] at h⟩
  | k + 1 => by
    obtain ⟨ih0, ih1, ih2⟩ := pontoonref05_param.mono_l k
    refine ⟨?_, ?_, ?_⟩
    · intro y0 y1 y2 y3
      unfold pontoonref05_param.j0
      repeat' first
      | (with_reducible exact ih0 _ _ _ _)
      | (with_reducible exact ih1 _ _ _ _ _)
      | (with_reducible exact ih2 _ _ _ _ _ _)
      | (with_reducible exact LeO.refl _)
      | (with_reducible exact LeO.none _)
      | (with_reducible refine LeO.ite ?_ ?_)
      | (with_reducible refine LeO.bind ?_ (fun _ => ?_))
      | exact ih0 _ _ _ _
      | exact ih1 _ _ _ _ _
      | exact ih2 _ _ _ _ _ _
      | exact LeO.none _
      | refine LeO.ite ?_ ?_
      | refine LeO.bind ?_ (fun _ => ?_)
    · intro y0 y1 y2 y3 y4
      unfold pontoonref05_param.l0
      repeat' first
      | (with_reducible exact ih0 _ _ _ _)
      | (with_reducible exact ih1 _ _ _ _ _)
      | (with_reducible exact ih2 _ _ _ _ _ _)
      | (with_reducible exact LeO.refl _)
      | (with_reducible exact LeO.none _)
      | (with_reducible refine LeO.ite ?_ ?_)
      | (with_reducible refine LeO.bind ?_ (fun _ => ?_))
      | exact ih0 _ _ _ _
      | exact ih1 _ _ _ _ _
      | exact ih2 _ _ _ _ _ _
      | exact LeO.none _
      | refine LeO.ite ?_ ?_
      | refine LeO.bind ?_ (fun _ => ?_)
    · intro y0 y1 y2 y3 y4 y5
      unfold pontoonref05_param.j2
      repeat' first
      | (with_reducible exact ih0 _ _ _ _)
      | (with_reducible exact ih1 _ _ _ _ _)
      | (with_reducible exact ih2 _ _ _ _ _ _)
      | (with_reducible exact LeO.refl _)
      | (with_reducible exact LeO.none _)
      | (with_reducible refine LeO.ite ?_ ?_)
      | (with_reducible refine LeO.bind ?_ (fun _ => ?_))
      | exact ih0 _ _ _ _
      | exact ih1 _ _ _ _ _
      | exact ih2 _ _ _ _ _ _
      | exact LeO.none _
      | refine LeO.ite ?_ ?_
      | refine LeO.bind ?_ (fun _ => ?_)
theorem pontoonref05_param.mono : ∀ a0 a1 a2 k, LeO (pontoonref05_param.f k a0 a1 a2) (pontoonref05_param.f (k + 1) a0 a1 a2) := by
  intro a0 a1 a2 k
  obtain ⟨ih0, ih1, ih2⟩ := pontoonref05_param.mono_l k
  unfold pontoonref05_param.f
  repeat' first
      | (with_reducible exact ih0 _ _ _ _)
      | (with_reducible exact ih1 _ _ _ _ _)
      | (with_reducible exact ih2 _ _ _ _ _ _)
      | (with_reducible exact LeO.refl _)
      | (with_reducible exact LeO.none _)
      | (with_reducible refine LeO.ite ?_ ?_)
      | (with_reducible refine LeO.bind ?_ (fun _ => ?_))
      | exact ih0 _ _ _ _
      | exact ih1 _ _ _ _ _
      | exact ih2 _ _ _ _ _ _
      | exact LeO.none _
      | refine LeO.ite ?_ ?_
      | refine LeO.bind ?_ (fun _ => ?_)
set_option maxHeartbeats 8000000 in
set_option maxRecDepth 100000 in
theorem pontoonref05_param.calls (k : Nat) (a0_0 : Int) (a0_1 : ByteArray) (a0_2 : Int) (r : Int) (w : World) (h : pontoonref05_param.f k a0_0 a0_1 a0_2 = some r) :
    Calls Try.prog 25 #[.agg #[.int .i64 a0_0, .string a0_1, .int .i64 a0_2]] w fun e w' => e = .returned (.int .i64 r) ∧ Below w.heap.size w w' := by
  have hu35 := Try.underlying35
  have HB := Aside0.mk (Below.refl w.heap.size w)
  have H : (if a0_0 = 5 then (if (a0_1.size : Int) < 2 then (pontoonref05_param.j0 k true a0_0 a0_1 a0_2) else (if 0 < (a0_1.size : Int) then (pontoonref05_param.j0 k ((bt a0_1 0) != 36) a0_0 a0_1 a0_2) else (none))) else (pontoonref05_param.j0 k true a0_0 a0_1 a0_2)) = some r := h
  clear h
  have HC2 := Aside0.mk H
  clear H
  go_enter Try.func25, Try.ntmps25
  go_upto_region 1 with (first | ((with_reducible refine gate_dst (N := 1) rfl ?_); (try (refine gate_guard (by rfl) ?_; dsimp only)); refine box_event ?hg (N := 1) ?hd (cs := #[.int .i64 a0_0, .string a0_1, .int .i64 a0_2]) (t := 35) ?hr ?_; (case hd => rfl); (case hg => rfl); (case hr => first | (go_simp; done) | (go_simp; rfl)); intro gb280 hg w3 hbox hb; have n0_ := Aside0.mk (below_step (by repeat (first | (with_reducible first | exact HB.out | apply below_alloc | apply pw_below_drewN | apply below_drew1) | exact HB.out)) hb); have n1_ := Aside0.mk (hbox); have n2_ := Aside0.mk ((by rw [hg]; exact (below_size (by repeat (first | (with_reducible first | exact HB.out | apply below_alloc | apply pw_below_drewN | apply below_drew1) | exact HB.out))) : w.heap.size ≤ gb280)); have n3_ := Aside0.mk ((by rw [hg]; exact (below_size (by repeat (first | (with_reducible first | exact HB.out | apply below_alloc | apply pw_below_drewN | apply below_drew1) | exact HB.out))) : w.heap.size ≤ gb280)); clear HB; have HB := n0_; have BK280 := n1_; have GW280 := n2_; have GE280 := n3_; clear n0_ n1_ n2_ n3_; clear hb hbox hg))
  (try simp only [Act.put, List.setIfInBounds_toArray, List.set_cons_zero, List.set_cons_succ])
  go_cut [19] (fun v19 wc => ∃ (kq : Nat) (x19_1 : Bool), v19 = .bool x19_1 ∧ Aside0 (pontoonref05_param.j0 kq x19_1 a0_0 a0_1 a0_2 = some r) ∧ Aside0 (kq ≤ k) ∧ Aside0 (wc.heap[gb280]? = some (.cells #[.int .i64 a0_0, .string a0_1, .int .i64 a0_2] 35 (0, 0))) ∧ Aside0 (Below w.heap.size w wc))
  case first =>
    have H := HC2.out
    clear HC2
    by_cases c4 : a0_0 = 5
    · rw [if_pos c4] at H
      have c4b0 : (a0_0 == 5) = true := beq_iff_eq.mpr c4
      have c4b1 : (a0_0 != 5) = false := bne_eq_false_iff_eq.mpr c4
      clear c4
      (first | rw [c4b0] | (simp only [i64_w, i32_w]; rw [c4b0]) | skip)
      by_cases c5 : (a0_1.size : Int) < 2
      · rw [if_pos c5] at H
        have c5b0 : decide ((a0_1.size : Int) < 2) = true := decide_eq_true c5
        have c5b1 : decide (a0_1.size < 2) = true := decide_eq_true (by omega)
        clear c5
        have H' := Aside0.mk H
        clear H
        have hcz6_0 : w3.cell? ⟨gb280, 0, none⟩ = some (.int .i64 a0_0) := (blk_cell BK280.out 0).trans rfl
        have hcz6_1 : w3.cell? ⟨gb280, 1, none⟩ = some (.string a0_1) := (blk_cell BK280.out 1).trans rfl
        have hcz6_2 : w3.cell? ⟨gb280, 2, none⟩ = some (.int .i64 a0_2) := (blk_cell BK280.out 2).trans rfl
        have hfz6_0 := blk_frozen BK280.out 0
        have hfz6_1 := blk_frozen BK280.out 1
        have hfz6_2 := blk_frozen BK280.out 2
        go_wp2
        go_meet
        case rel => exact ⟨_, (true), (by first | rfl | (simp; done) | (simp [*]; done)), H', ⟨by first | omega | exact Nat.le_refl _⟩, ⟨by (with_reducible repeat (first | refine blk_drewN ?_ _ | refine blk_drew ?_ | refine blk_alloc ?_ _)); exact BK280.out⟩, ⟨by repeat (first | (with_reducible first | exact HB.out | apply below_alloc | apply pw_below_drewN | apply below_drew1 | refine below_set ?_ GE280.out) | exact HB.out)⟩⟩
      · rw [if_neg c5] at H
        have c5b0 : decide ((a0_1.size : Int) < 2) = false := decide_eq_false c5
        have c5b1 : decide (a0_1.size < 2) = false := decide_eq_false (by omega)
        clear c5
        by_cases c7 : 0 < (a0_1.size : Int)
        · rw [if_pos c7] at H
          have c7b0 : decide (0 < (a0_1.size : Int)) = true := decide_eq_true c7
          have c7b1 : decide (0 < a0_1.size) = true := decide_eq_true (by omega)
          clear c7
          have H' := Aside0.mk H
          clear H
          have hcz9_0 : w3.cell? ⟨gb280, 0, none⟩ = some (.int .i64 a0_0) := (blk_cell BK280.out 0).trans rfl
          have hcz9_1 : w3.cell? ⟨gb280, 1, none⟩ = some (.string a0_1) := (blk_cell BK280.out 1).trans rfl
          have hcz9_2 : w3.cell? ⟨gb280, 2, none⟩ = some (.int .i64 a0_2) := (blk_cell BK280.out 2).trans rfl
          have hfz9_0 := blk_frozen BK280.out 0
          have hfz9_1 := blk_frozen BK280.out 1
          have hfz9_2 := blk_frozen BK280.out 2
          have p8 : 0 ≤ (0 : Int) := (by omega)
          have q8 : 0 < a0_1.size := (by have : (0 : Int) < (a0_1.size : Int) := of_decide_eq_true (by first | (with_reducible assumption) | assumption); omega)
          have hx8 : ∀ h : 0 < a0_1.size, ((a0_1[0]'h).toNat : Int) = bt a0_1 0 := bt_at a0_1 0
          clear p8
          have qi8 : (0 < (a0_1.size : Int)) = True := eq_true (of_decide_eq_true (by first | (with_reducible assumption) | assumption))
          replace q8 := eq_true q8
          go_wp2
          go_meet
          case rel => exact ⟨_, (((bt a0_1 0) != 36)), (by first | rfl | (simp; done) | (simp [*]; done)), H', ⟨by first | omega | exact Nat.le_refl _⟩, ⟨by (with_reducible repeat (first | refine blk_drewN ?_ _ | refine blk_drew ?_ | refine blk_alloc ?_ _)); exact BK280.out⟩, ⟨by repeat (first | (with_reducible first | exact HB.out | apply below_alloc | apply pw_below_drewN | apply below_drew1 | refine below_set ?_ GE280.out) | exact HB.out)⟩⟩
        · rw [if_neg c7] at H
          exact absurd H (by simp)
    · rw [if_neg c4] at H
      have c4b0 : (a0_0 == 5) = false := beq_eq_false_iff_ne.mpr c4
      have c4b1 : (a0_0 != 5) = true := bne_iff_ne.mpr c4
      (first | rw [c4b0] | (simp only [i64_w, i32_w]; rw [c4b0]) | skip)
      have H' := Aside0.mk H
      clear H
      have hcz10_0 : w3.cell? ⟨gb280, 0, none⟩ = some (.int .i64 a0_0) := (blk_cell BK280.out 0).trans rfl
      have hcz10_1 : w3.cell? ⟨gb280, 1, none⟩ = some (.string a0_1) := (blk_cell BK280.out 1).trans rfl
      have hcz10_2 : w3.cell? ⟨gb280, 2, none⟩ = some (.int .i64 a0_2) := (blk_cell BK280.out 2).trans rfl
      have hfz10_0 := blk_frozen BK280.out 0
      have hfz10_1 := blk_frozen BK280.out 1
      have hfz10_2 := blk_frozen BK280.out 2
      go_wp2
      go_meet
      case rel => exact ⟨_, (true), (by first | rfl | (simp; done) | (simp [*]; done)), H', ⟨by first | omega | exact Nat.le_refl _⟩, ⟨by (with_reducible repeat (first | refine blk_drewN ?_ _ | refine blk_drew ?_ | refine blk_alloc ?_ _)); exact BK280.out⟩, ⟨by repeat (first | (with_reducible first | exact HB.out | apply below_alloc | apply pw_below_drewN | apply below_drew1 | refine below_set ?_ GE280.out) | exact HB.out)⟩⟩
  case rest =>
    clear HC2
    try clear c2
    try clear p2
    try clear c4
    try clear c4b0
    try clear c4b1
    try clear c5
    try clear c5b0
    try clear c5b1
    try clear c7
    try clear c7b0
    try clear c7b1
    try clear p8
    try clear q8
    try clear hx8
    try clear qi8
    try clear hcz10_0
    try clear hcz10_1
    try clear hcz10_2
    try clear hcz6_0
    try clear hcz6_1
    try clear hcz6_2
    try clear hcz9_0
    try clear hcz9_1
    try clear hcz9_2
    try clear hfz10_0
    try clear hfz10_1
    try clear hfz10_2
    try clear hfz6_0
    try clear hfz6_1
    try clear hfz6_2
    try clear hfz9_0
    try clear hfz9_1
    try clear hfz9_2
    try clear p8
    try clear q8
    obtain ⟨kq, x19_1, rfl, HA, HJ1, BK280, HB⟩ := hcut
    cases kq with
    | zero => exact absurd HA.out (by simp [pontoonref05_param.j0])
    | succ kj1 =>
      have H := HA.out
      clear HA
      simp only [pontoonref05_param.j0] at H
      by_cases c11 : x19_1 = true
      · subst c11
        have H1 : (some (-1)) = some r := by rw [if_pos rfl] at H; exact H
        clear H
        have H := H1
        clear H1
        obtain rfl := Option.some.inj H
        go_wp2
        go_ret
        exact ⟨by first | rfl | (simp [errW_none, errW_some] <;> rfl) | (simp [*, errW_none, errW_some] <;> rfl), by repeat (first | (with_reducible first | exact HB.out | apply below_alloc | apply pw_below_drewN | apply below_drew1 | refine below_set ?_ GE280.out) | exact HB.out)⟩
      · replace c11 := Bool.eq_false_iff.mpr c11
        subst c11
        have H1 : (pontoonref05_param.l0 kj1 0 1 a0_0 a0_1 a0_2) = some r := by rw [if_neg (show ¬ (false = true) by decide)] at H; exact H
        clear H
        have H := H1
        clear H1
        have H' := Aside0.mk H
        clear H
        go_wp2
        go_loopg [3, 4] kj1 (fun kq v3 v4 w' => ∃ (x3_2 : Int) (x4_2 : Int), v3 = .int .i64 x3_2 ∧ v4 = .int .i64 x4_2 ∧ Aside0 (pontoonref05_param.l0 kq x3_2 x4_2 a0_0 a0_1 a0_2 = some r) ∧ Aside0 (kq ≤ kj1) ∧ Aside0 (w'.heap[gb280]? = some (.cells #[.int .i64 a0_0, .string a0_1, .int .i64 a0_2] 35 (0, 0))) ∧ Aside0 (Below w.heap.size w w'))
        case atStart => exact ⟨(0), (1), (by first | rfl | (simp; done) | (simp [*]; done)), (by first | rfl | (simp; done) | (simp [*]; done)), H', ⟨Nat.le_refl _⟩, ⟨by (with_reducible repeat (first | refine blk_drewN ?_ _ | refine blk_drew ?_ | refine blk_alloc ?_ _)); exact BK280.out⟩, ⟨by repeat (first | (with_reducible first | exact HB.out | apply below_alloc | apply pw_below_drewN | apply below_drew1 | refine below_set ?_ GE280.out) | exact HB.out)⟩⟩
        case round =>
          clear H'
          try clear c1
          try clear c2
          try clear p2
          try clear c4
          try clear c4b0
          try clear c4b1
          try clear c5
          try clear c5b0
          try clear c5b1
          try clear c7
          try clear c7b0
          try clear c7b1
          try clear p8
          try clear q8
          try clear hx8
          try clear qi8
          try clear c11
          try clear hcz10_0
          try clear hcz10_1
          try clear hcz10_2
          try clear hcz6_0
          try clear hcz6_1
          try clear hcz6_2
          try clear hcz9_0
          try clear hcz9_1
          try clear hcz9_2
          try clear hfz10_0
          try clear hfz10_1
          try clear hfz10_2
          try clear hfz6_0
          try clear hfz6_1
          try clear hfz6_2
          try clear hfz9_0
          try clear hfz9_1
          try clear hfz9_2
          try clear p2
          try clear p8
          try clear q8
          obtain ⟨x3_2, x4_2, rfl, rfl, HA, HK2, BK280, HB⟩ := hrel
          cases gk with
          | zero => exact absurd HA.out (by simp [pontoonref05_param.l0])
          | succ k2 =>
            have H := HA.out
            clear HA
            simp only [pontoonref05_param.l0] at H
            by_cases c12 : x4_2 < (a0_1.size : Int)
            · rw [if_pos c12] at H
              have c12b0 : decide (x4_2 < (a0_1.size : Int)) = true := decide_eq_true c12
              clear c12
              have HC13 := Aside0.mk H
              clear H
              have hcz14_0 : wr.cell? ⟨gb280, 0, none⟩ = some (.int .i64 a0_0) := (blk_cell BK280.out 0).trans rfl
              have hcz14_1 : wr.cell? ⟨gb280, 1, none⟩ = some (.string a0_1) := (blk_cell BK280.out 1).trans rfl
              have hcz14_2 : wr.cell? ⟨gb280, 2, none⟩ = some (.int .i64 a0_2) := (blk_cell BK280.out 2).trans rfl
              have hfz14_0 := blk_frozen BK280.out 0
              have hfz14_1 := blk_frozen BK280.out 1
              have hfz14_2 := blk_frozen BK280.out 2
              go_upto_region 7 with (fail)
              go_cut [38] (fun v38 wc => ∃ (kq : Nat) (x38_12 : Bool), v38 = .bool x38_12 ∧ Aside0 (pontoonref05_param.j2 kq x3_2 x4_2 x38_12 a0_0 a0_1 a0_2 = some r) ∧ Aside0 (kq ≤ k2) ∧ Aside0 (wc.heap[gb280]? = some (.cells #[.int .i64 a0_0, .string a0_1, .int .i64 a0_2] 35 (0, 0))) ∧ Aside0 (Below w.heap.size w wc))
              case first =>
                have H := HC13.out
                clear HC13
                by_cases c15 : 0 ≤ x4_2
                · rw [if_pos c15] at H
                  have c15b0 : decide (0 ≤ x4_2) = true := decide_eq_true c15
                  clear c15
                  (first | rw [c15b0] | (simp only [i64_w, i32_w]; rw [c15b0]) | skip)
                  by_cases c17 : (bt a0_1 x4_2) < 48
                  · rw [if_pos c17] at H
                    have c17b0 : decide ((bt a0_1 x4_2) < 48) = true := decide_eq_true c17
                    clear c17
                    have H' := Aside0.mk H
                    clear H
                    have hcz18_0 : wr.cell? ⟨gb280, 0, none⟩ = some (.int .i64 a0_0) := (blk_cell BK280.out 0).trans rfl
                    have hcz18_1 : wr.cell? ⟨gb280, 1, none⟩ = some (.string a0_1) := (blk_cell BK280.out 1).trans rfl
                    have hcz18_2 : wr.cell? ⟨gb280, 2, none⟩ = some (.int .i64 a0_2) := (blk_cell BK280.out 2).trans rfl
                    have hfz18_0 := blk_frozen BK280.out 0
                    have hfz18_1 := blk_frozen BK280.out 1
                    have hfz18_2 := blk_frozen BK280.out 2
                    have p16 : 0 ≤ (x4_2 : Int) := of_decide_eq_true (by first | (with_reducible assumption) | assumption)
                    have q16 : x4_2 < (a0_1.size : Int) := of_decide_eq_true (by first | (with_reducible assumption) | assumption)
                    have hx16 := bt_at a0_1 x4_2
                    have q16n := q16
                    replace p16 := eq_true p16
                    replace q16 := eq_true q16
                    go_wp2
                    go_meet
                    case rel => exact ⟨_, (true), (by first | rfl | (simp; done) | (simp [*]; done)), H', ⟨by have := HJ1.out; have := HK2.out; first | omega | exact Nat.le_refl _⟩, ⟨by (with_reducible repeat (first | refine blk_drewN ?_ _ | refine blk_drew ?_ | refine blk_alloc ?_ _)); exact BK280.out⟩, ⟨by repeat (first | (with_reducible first | exact HB.out | apply below_alloc | apply pw_below_drewN | apply below_drew1 | refine below_set ?_ GE280.out) | exact HB.out)⟩⟩
                  · rw [if_neg c17] at H
                    have c17b0 : decide ((bt a0_1 x4_2) < 48) = false := decide_eq_false c17
                    clear c17
                    have H' := Aside0.mk H
                    clear H
                    have hcz20_0 : wr.cell? ⟨gb280, 0, none⟩ = some (.int .i64 a0_0) := (blk_cell BK280.out 0).trans rfl
                    have hcz20_1 : wr.cell? ⟨gb280, 1, none⟩ = some (.string a0_1) := (blk_cell BK280.out 1).trans rfl
                    have hcz20_2 : wr.cell? ⟨gb280, 2, none⟩ = some (.int .i64 a0_2) := (blk_cell BK280.out 2).trans rfl
                    have hfz20_0 := blk_frozen BK280.out 0
                    have hfz20_1 := blk_frozen BK280.out 1
                    have hfz20_2 := blk_frozen BK280.out 2
                    have p16 : 0 ≤ (x4_2 : Int) := of_decide_eq_true (by first | (with_reducible assumption) | assumption)
                    have q16 : x4_2 < (a0_1.size : Int) := of_decide_eq_true (by first | (with_reducible assumption) | assumption)
                    have hx16 := bt_at a0_1 x4_2
                    have q16n := q16
                    replace p16 := eq_true p16
                    replace q16 := eq_true q16
                    have p19 : 0 ≤ (x4_2 : Int) := of_decide_eq_true (by first | (with_reducible assumption) | assumption)
                    have q19 : x4_2 < (a0_1.size : Int) := of_decide_eq_true (by first | (with_reducible assumption) | assumption)
                    have hx19 := bt_at a0_1 x4_2
                    have q19n := q19
                    replace p19 := eq_true p19
                    replace q19 := eq_true q19
                    go_wp2
                    go_meet
                    case rel => exact ⟨_, (decide ((bt a0_1 x4_2) > 57)), (by first | rfl | (simp; done) | (simp [*]; done)), H', ⟨by have := HJ1.out; have := HK2.out; first | omega | exact Nat.le_refl _⟩, ⟨by (with_reducible repeat (first | refine blk_drewN ?_ _ | refine blk_drew ?_ | refine blk_alloc ?_ _)); exact BK280.out⟩, ⟨by repeat (first | (with_reducible first | exact HB.out | apply below_alloc | apply pw_below_drewN | apply below_drew1 | refine below_set ?_ GE280.out) | exact HB.out)⟩⟩
                · rw [if_neg c15] at H
                  exact absurd H (by simp)
              case rest =>
                clear HC13
                try clear c1
                try clear p1
                try clear q1
                try clear hx1
                try clear c2
                try clear p2
                try clear c4
                try clear c4b0
                try clear c4b1
                try clear c5
                try clear c5b0
                try clear c5b1
                try clear c7
                try clear c7b0
                try clear c7b1
                try clear p8
                try clear q8
                try clear hx8
                try clear qi8
                try clear c11
                try clear c12
                try clear c12b0
                try clear c15
                try clear c15b0
                try clear p16
                try clear q16
                try clear hx16
                try clear c17
                try clear c17b0
                try clear p19
                try clear q19
                try clear hx19
                try clear hcz10_0
                try clear hcz10_1
                try clear hcz10_2
                try clear hcz14_0
                try clear hcz14_1
                try clear hcz14_2
                try clear hcz18_0
                try clear hcz18_1
                try clear hcz18_2
                try clear hcz20_0
                try clear hcz20_1
                try clear hcz20_2
                try clear hcz6_0
                try clear hcz6_1
                try clear hcz6_2
                try clear hcz9_0
                try clear hcz9_1
                try clear hcz9_2
                try clear hfz10_0
                try clear hfz10_1
                try clear hfz10_2
                try clear hfz14_0
                try clear hfz14_1
                try clear hfz14_2
                try clear hfz18_0
                try clear hfz18_1
                try clear hfz18_2
                try clear hfz20_0
                try clear hfz20_1
                try clear hfz20_2
                try clear hfz6_0
                try clear hfz6_1
                try clear hfz6_2
                try clear hfz9_0
                try clear hfz9_1
                try clear hfz9_2
                try clear p16
                try clear p19
                try clear p2
                try clear p8
                try clear q16
                try clear q19
                try clear q8
                obtain ⟨kq, x38_12, rfl, HA, HJ12, BK280, HB⟩ := hcut
                cases kq with
                | zero => exact absurd HA.out (by simp [pontoonref05_param.j2])
                | succ kj12 =>
                  have H := HA.out
                  clear HA
                  simp only [pontoonref05_param.j2] at H
                  by_cases c21 : x38_12 = true
                  · subst c21
                    have H1 : (some (-1)) = some r := by rw [if_pos rfl] at H; exact H
                    clear H
                    have H := H1
                    clear H1
                    obtain rfl := Option.some.inj H
                    go_wp2
                    go_ret
                    exact ⟨by first | rfl | (simp [errW_none, errW_some] <;> rfl) | (simp [*, errW_none, errW_some] <;> rfl), by repeat (first | (with_reducible first | exact HB.out | apply below_alloc | apply pw_below_drewN | apply below_drew1 | refine below_set ?_ GE280.out) | exact HB.out)⟩
                  · replace c21 := Bool.eq_false_iff.mpr c21
                    subst c21
                    have H1 : (if x4_2 ≤ 9 then (if 0 ≤ x4_2 then (if x4_2 < (a0_1.size : Int) then (pontoonref05_param.l0 kj12 (wrap64 ((wrap64 (10 * x3_2)) + (((bt a0_1 x4_2) - 48) % 256))) (wrap64 (x4_2 + 1)) a0_0 a0_1 a0_2) else (none)) else (none)) else (pontoonref05_param.l0 kj12 x3_2 (wrap64 (x4_2 + 1)) a0_0 a0_1 a0_2)) = some r := by rw [if_neg (show ¬ (false = true) by decide)] at H; exact H
                    clear H
                    have H := H1
                    clear H1
                    by_cases c22 : x4_2 ≤ 9
                    · rw [if_pos c22] at H
                      have c22b0 : decide (x4_2 ≤ 9) = true := decide_eq_true c22
                      clear c22
                      by_cases c23 : 0 ≤ x4_2
                      · rw [if_pos c23] at H
                        have c23b0 : decide (0 ≤ x4_2) = true := decide_eq_true c23
                        clear c23
                        by_cases c24 : x4_2 < (a0_1.size : Int)
                        · rw [if_pos c24] at H
                          have c24b0 : decide (x4_2 < (a0_1.size : Int)) = true := decide_eq_true c24
                          clear c24
                          have H' := Aside0.mk H
                          clear H
                          have hcz26_0 : wc.cell? ⟨gb280, 0, none⟩ = some (.int .i64 a0_0) := (blk_cell BK280.out 0).trans rfl
                          have hcz26_1 : wc.cell? ⟨gb280, 1, none⟩ = some (.string a0_1) := (blk_cell BK280.out 1).trans rfl
                          have hcz26_2 : wc.cell? ⟨gb280, 2, none⟩ = some (.int .i64 a0_2) := (blk_cell BK280.out 2).trans rfl
                          have hfz26_0 := blk_frozen BK280.out 0
                          have hfz26_1 := blk_frozen BK280.out 1
                          have hfz26_2 := blk_frozen BK280.out 2
                          have p25 : 0 ≤ (x4_2 : Int) := of_decide_eq_true (by first | (with_reducible assumption) | assumption)
                          have q25 : x4_2 < (a0_1.size : Int) := of_decide_eq_true (by first | (with_reducible assumption) | assumption)
                          have hx25 := bt_at a0_1 x4_2
                          have q25n := q25
                          replace p25 := eq_true p25
                          replace q25 := eq_true q25
                          go_wp2
                          go_roundg kj12
                          case measure => have := HJ1.out; have := HK2.out; have := HJ12.out; omega
                          case rel => exact ⟨(wrap64 ((wrap64 (10 * x3_2)) + (((bt a0_1 x4_2) - 48) % 256))), (wrap64 (x4_2 + 1)), (by first | rfl | (simp; done) | (simp [*]; done)), (by first | rfl | (simp; done) | (simp [*]; done)), H', ⟨by have := HJ1.out; have := HK2.out; have := HJ12.out; omega⟩, ⟨by (with_reducible repeat (first | refine blk_drewN ?_ _ | refine blk_drew ?_ | refine blk_alloc ?_ _)); exact BK280.out⟩, ⟨by repeat (first | (with_reducible first | exact HB.out | apply below_alloc | apply pw_below_drewN | apply below_drew1 | refine below_set ?_ GE280.out) | exact HB.out)⟩⟩
                        · rw [if_neg c24] at H
                          exact absurd H (by simp)
                      · rw [if_neg c23] at H
                        exact absurd H (by simp)
                    · rw [if_neg c22] at H
                      have c22b0 : decide (x4_2 ≤ 9) = false := decide_eq_false c22
                      clear c22
                      have H' := Aside0.mk H
                      clear H
                      go_wp2
                      go_roundg kj12
                      case measure => have := HJ1.out; have := HK2.out; have := HJ12.out; omega
                      case rel => exact ⟨(x3_2), (wrap64 (x4_2 + 1)), (by first | rfl | (simp; done) | (simp [*]; done)), (by first | rfl | (simp; done) | (simp [*]; done)), H', ⟨by have := HJ1.out; have := HK2.out; have := HJ12.out; omega⟩, ⟨by (with_reducible repeat (first | refine blk_drewN ?_ _ | refine blk_drew ?_ | refine blk_alloc ?_ _)); exact BK280.out⟩, ⟨by repeat (first | (with_reducible first | exact HB.out | apply below_alloc | apply pw_below_drewN | apply below_drew1 | refine below_set ?_ GE280.out) | exact HB.out)⟩⟩
            · rw [if_neg c12] at H
              have c12b0 : decide (x4_2 < (a0_1.size : Int)) = false := decide_eq_false c12
              clear c12
              by_cases c27 : (a0_1.size : Int) > 10
              · rw [if_pos c27] at H
                have c27b0 : decide (10 < (a0_1.size : Int)) = true := decide_eq_true c27
                have c27b1 : decide (10 < a0_1.size) = true := decide_eq_true (by omega)
                clear c27
                obtain rfl := Option.some.inj H
                have hcz28_0 : wr.cell? ⟨gb280, 0, none⟩ = some (.int .i64 a0_0) := (blk_cell BK280.out 0).trans rfl
                have hcz28_1 : wr.cell? ⟨gb280, 1, none⟩ = some (.string a0_1) := (blk_cell BK280.out 1).trans rfl
                have hcz28_2 : wr.cell? ⟨gb280, 2, none⟩ = some (.int .i64 a0_2) := (blk_cell BK280.out 2).trans rfl
                have hfz28_0 := blk_frozen BK280.out 0
                have hfz28_1 := blk_frozen BK280.out 1
                have hfz28_2 := blk_frozen BK280.out 2
                go_wp2
                go_ret
                exact ⟨by first | rfl | (simp [errW_none, errW_some] <;> rfl) | (simp [*, errW_none, errW_some] <;> rfl), by repeat (first | (with_reducible first | exact HB.out | apply below_alloc | apply pw_below_drewN | apply below_drew1 | refine below_set ?_ GE280.out) | exact HB.out)⟩
              · rw [if_neg c27] at H
                have c27b0 : decide (10 < (a0_1.size : Int)) = false := decide_eq_false c27
                have c27b1 : decide (10 < a0_1.size) = false := decide_eq_false (by omega)
                clear c27
                obtain rfl := Option.some.inj H
                have hcz29_0 : wr.cell? ⟨gb280, 0, none⟩ = some (.int .i64 a0_0) := (blk_cell BK280.out 0).trans rfl
                have hcz29_1 : wr.cell? ⟨gb280, 1, none⟩ = some (.string a0_1) := (blk_cell BK280.out 1).trans rfl
                have hcz29_2 : wr.cell? ⟨gb280, 2, none⟩ = some (.int .i64 a0_2) := (blk_cell BK280.out 2).trans rfl
                have hfz29_0 := blk_frozen BK280.out 0
                have hfz29_1 := blk_frozen BK280.out 1
                have hfz29_2 := blk_frozen BK280.out 2
                go_wp2
                go_ret
                exact ⟨by first | rfl | (simp [errW_none, errW_some] <;> rfl) | (simp [*, errW_none, errW_some] <;> rfl), by repeat (first | (with_reducible first | exact HB.out | apply below_alloc | apply pw_below_drewN | apply below_drew1 | refine below_set ?_ GE280.out) | exact HB.out)⟩

end Go.Proofs.Ytgfppniifjabdaa.Pb
