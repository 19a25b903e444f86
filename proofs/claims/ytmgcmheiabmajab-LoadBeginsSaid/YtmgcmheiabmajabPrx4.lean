-- Written by a program of this session's (wip/ext/run.py) over the kit's print, with contracts of its own.
import Derived.Test.YtmgcmheiabmajabPrx0
import Derived.Test.YtmgcmheiabmajabPrx3
namespace Go.Proofs.Ytmgcmheiabmajab.Pr
open Go Go.Proofs.Ytmgcmheiabmajab Go.RowKit Go.Proofs.YtmgcmheiabmajabW.PrintWords Go.Proofs.YtmgcmheiabmajabW.PrintLast Go.Proofs.YtmgcmheiabmajabW.PrintMore
attribute [local go_sem] max2_int min2_int max_two min_two max_three min_three max_four min_four   -- for this text's walks alone
set_option linter.unusedVariables false
set_option linter.unusedSimpArgs false

/-! ### pontoonref27_Right: function 16 -/
mutual
def pontoonref27_Right.j0 : Nat → Bool → Int → Int → ByteArray → ByteArray → Option (Bool)
  | 0, _, _, _, _, _ => none
  | k + 1, x31, x142000, x142001, x142002, x142003 => if x31 = true then (some false) else (if x142000 = 1 then ((pontoonref27_letters.f k x142002).bind fun t142 => (if t142 = true then ((pontoonref27_letters.f k x142003).bind fun t143 => (some t143)) else (some false))) else (if x142000 = 2 then (pontoonref27_Right.l0 k 0 x142000 x142001 x142002 x142003) else (if x142002.toList = ([] : List UInt8) then (some (x142003.toList == ([] : List UInt8))) else (some false))))
def pontoonref27_Right.l0 : Nat → Int → Int → Int → ByteArray → ByteArray → Option (Bool)
  | 0, _, _, _, _, _ => none
  | k + 1, x3, x142000, x142001, x142002, x142003 => if x3 < (x142002.size : Int) then (if 0 ≤ x3 then (if (bt x142002 x3) = 10 then (some false) else (pontoonref27_Right.l0 k (wrap64 (x3 + 1)) x142000 x142001 x142002 x142003)) else (none)) else (some (x142003.toList == ([] : List UInt8)))
end
def pontoonref27_Right.f (k : Nat) (a0_0 : Int) (a0_1 : Int) (a0_2 : ByteArray) (a0_3 : ByteArray) : Option (Bool) := if a0_0 < 1 then (pontoonref27_Right.j0 k true a0_0 a0_1 a0_2 a0_3) else (if a0_0 > 8 then (pontoonref27_Right.j0 k true a0_0 a0_1 a0_2 a0_3) else (if a0_1 < 0 then (pontoonref27_Right.j0 k true a0_0 a0_1 a0_2 a0_3) else (if a0_1 > 1099511627776 then (pontoonref27_Right.j0 k true a0_0 a0_1 a0_2 a0_3) else (if a0_0 = 8 then (pontoonref27_Right.j0 k (a0_1 != 0) a0_0 a0_1 a0_2 a0_3) else (pontoonref27_Right.j0 k false a0_0 a0_1 a0_2 a0_3)))))
theorem pontoonref27_Right.mono_l : ∀ k, (∀ y0 y1 y2 y3 y4, LeO (pontoonref27_Right.j0 k y0 y1 y2 y3 y4) (pontoonref27_Right.j0 (k + 1) y0 y1 y2 y3 y4)) ∧ (∀ y0 y1 y2 y3 y4, LeO (pontoonref27_Right.l0 k y0 y1 y2 y3 y4) (pontoonref27_Right.l0 (k + 1) y0 y1 y2 y3 y4))
  | 0 => ⟨fun _ _ _ _ _ r h => by simp [pontoonref27_Right.j0] at h, fun _ _ _ _ _ r h => by simp [pontoonref27_Right.l0] at h⟩
  | k + 1 => by
    obtain ⟨ih0, ih1⟩ := pontoonref27_Right.mono_l k
    refine ⟨?_, ?_⟩
    · intro y0 y1 y2 y3 y4
      unfold pontoonref27_Right.j0
      repeat' first
      | (with_reducible exact ih0 _ _ _ _ _)
      | (with_reducible exact ih1 _ _ _ _ _)
      | (with_reducible exact pontoonref27_letters.mono _ _)
      | (with_reducible exact LeO.refl _)
      | (with_reducible exact LeO.none _)
      | (with_reducible refine LeO.ite ?_ ?_)
      | (with_reducible refine LeO.bind ?_ (fun _ => ?_))
      | exact ih0 _ _ _ _ _
      | exact ih1 _ _ _ _ _
      | exact pontoonref27_letters.mono _ _
      | exact LeO.none _
      | refine LeO.ite ?_ ?_
      | refine LeO.bind ?_ (fun _ => ?_)
    · intro y0 y1 y2 y3 y4
      unfold pontoonref27_Right.l0
      repeat' first
      | (with_reducible exact ih0 _ _ _ _ _)
      | (with_reducible exact ih1 _ _ _ _ _)
      | (with_reducible exact pontoonref27_letters.mono _ _)
      | (with_reducible exact LeO.refl _)
      | (with_reducible exact LeO.none _)
      | (with_reducible refine LeO.ite ?_ ?_)
      | (with_reducible refine LeO.bind ?_ (fun _ => ?_))
      | exact ih0 _ _ _ _ _
      | exact ih1 _ _ _ _ _
      | exact pontoonref27_letters.mono _ _
      | exact LeO.none _
      | refine LeO.ite ?_ ?_
      | refine LeO.bind ?_ (fun _ => ?_)
theorem pontoonref27_Right.mono : ∀ a0 a1 a2 a3 k, LeO (pontoonref27_Right.f k a0 a1 a2 a3) (pontoonref27_Right.f (k + 1) a0 a1 a2 a3) := by
  intro a0 a1 a2 a3 k
  obtain ⟨ih0, ih1⟩ := pontoonref27_Right.mono_l k
  unfold pontoonref27_Right.f
  repeat' first
      | (with_reducible exact ih0 _ _ _ _ _)
      | (with_reducible exact ih1 _ _ _ _ _)
      | (with_reducible exact pontoonref27_letters.mono _ _)
      | (with_reducible exact LeO.refl _)
      | (with_reducible exact LeO.none _)
      | (with_reducible refine LeO.ite ?_ ?_)
      | (with_reducible refine LeO.bind ?_ (fun _ => ?_))
      | exact ih0 _ _ _ _ _
      | exact ih1 _ _ _ _ _
      | exact pontoonref27_letters.mono _ _
      | exact LeO.none _
      | refine LeO.ite ?_ ?_
      | refine LeO.bind ?_ (fun _ => ?_)
set_option maxHeartbeats 8000000 in
set_option maxRecDepth 100000 in
theorem pontoonref27_Right.calls (k : Nat) (a0_0 : Int) (a0_1 : Int) (a0_2 : ByteArray) (a0_3 : ByteArray) (r : Bool) (w : World) (h : pontoonref27_Right.f k a0_0 a0_1 a0_2 a0_3 = some r) :
    Calls Try.prog 16 #[.agg #[.int .i64 a0_0, .int .i64 a0_1, .string a0_2, .string a0_3]] w fun e w' => e = .returned (.bool r) ∧ Below w.heap.size w w' := by
  have hu35 := Try.underlying35
  have HB := Aside0.mk (Below.refl w.heap.size w)
  have H : (if a0_0 < 1 then (pontoonref27_Right.j0 k true a0_0 a0_1 a0_2 a0_3) else (if a0_0 > 8 then (pontoonref27_Right.j0 k true a0_0 a0_1 a0_2 a0_3) else (if a0_1 < 0 then (pontoonref27_Right.j0 k true a0_0 a0_1 a0_2 a0_3) else (if a0_1 > 1099511627776 then (pontoonref27_Right.j0 k true a0_0 a0_1 a0_2 a0_3) else (if a0_0 = 8 then (pontoonref27_Right.j0 k (a0_1 != 0) a0_0 a0_1 a0_2 a0_3) else (pontoonref27_Right.j0 k false a0_0 a0_1 a0_2 a0_3)))))) = some r := h
  clear h
  have HC2 := Aside0.mk H
  clear H
  go_enter Try.func16, Try.ntmps16
  go_upto_region 1 with (first | ((with_reducible refine gate_dst (N := 1) rfl ?_); refine box_event ?hg (N := 1) ?hd (cs := #[.int .i64 a0_0, .int .i64 a0_1, .string a0_2, .string a0_3]) (t := 35) ?hr ?_; (case hd => rfl); (case hg => rfl); (case hr => first | (go_simp; done) | (go_simp; rfl)); intro gb141 hg w3 hbox hb; have n0_ := Aside0.mk (below_step (by repeat (first | (with_reducible first | exact HB.out | apply below_alloc | apply pw_below_drewN | apply below_drew1) | exact HB.out)) hb); have n1_ := Aside0.mk (hbox); have n2_ := Aside0.mk ((by rw [hg]; exact (below_size (by repeat (first | (with_reducible first | exact HB.out | apply below_alloc | apply pw_below_drewN | apply below_drew1) | exact HB.out))) : w.heap.size ≤ gb141)); have n3_ := Aside0.mk ((by rw [hg]; exact (below_size (by repeat (first | (with_reducible first | exact HB.out | apply below_alloc | apply pw_below_drewN | apply below_drew1) | exact HB.out))) : w.heap.size ≤ gb141)); clear HB; have HB := n0_; have BK141 := n1_; have GW141 := n2_; have GE141 := n3_; clear n0_ n1_ n2_ n3_; clear hb hbox hg))
  (try simp only [Act.put, List.setIfInBounds_toArray, List.set_cons_zero, List.set_cons_succ])
  go_cut [31] (fun v31 wc => ∃ (kq : Nat) (x31_1 : Bool), v31 = .bool x31_1 ∧ Aside0 (pontoonref27_Right.j0 kq x31_1 a0_0 a0_1 a0_2 a0_3 = some r) ∧ Aside0 (kq ≤ k) ∧ Aside0 (wc.heap[gb141]? = some (.cells #[.int .i64 a0_0, .int .i64 a0_1, .string a0_2, .string a0_3] 35 (0, 0))) ∧ Aside0 (Below w.heap.size w wc))
  case first =>
    have H := HC2.out
    clear HC2
    by_cases c4 : a0_0 < 1
    · rw [if_pos c4] at H
      have c4b0 : decide (a0_0 < 1) = true := decide_eq_true c4
      clear c4
      (first | rw [c4b0] | (simp only [i64_w, i32_w]; rw [c4b0]) | skip)
      have H' := Aside0.mk H
      clear H
      have hcz5_0 : w3.cell? ⟨gb141, 0, none⟩ = some (.int .i64 a0_0) := (blk_cell BK141.out 0).trans rfl
      have hcz5_1 : w3.cell? ⟨gb141, 1, none⟩ = some (.int .i64 a0_1) := (blk_cell BK141.out 1).trans rfl
      have hcz5_2 : w3.cell? ⟨gb141, 2, none⟩ = some (.string a0_2) := (blk_cell BK141.out 2).trans rfl
      have hcz5_3 : w3.cell? ⟨gb141, 3, none⟩ = some (.string a0_3) := (blk_cell BK141.out 3).trans rfl
      have hfz5_0 := blk_frozen BK141.out 0
      have hfz5_1 := blk_frozen BK141.out 1
      have hfz5_2 := blk_frozen BK141.out 2
      have hfz5_3 := blk_frozen BK141.out 3
      go_wp2
      go_meet
      case rel => exact ⟨_, (true), (by first | rfl | (simp; done) | (simp [*]; done)), H', ⟨by first | omega | exact Nat.le_refl _⟩, ⟨by (with_reducible repeat (first | refine blk_drewN ?_ _ | refine blk_drew ?_ | refine blk_alloc ?_ _)); exact BK141.out⟩, ⟨by repeat (first | (with_reducible first | exact HB.out | apply below_alloc | apply pw_below_drewN | apply below_drew1 | refine below_set ?_ GE141.out) | exact HB.out)⟩⟩
    · rw [if_neg c4] at H
      have c4b0 : decide (a0_0 < 1) = false := decide_eq_false c4
      clear c4
      (first | rw [c4b0] | (simp only [i64_w, i32_w]; rw [c4b0]) | skip)
      by_cases c6 : a0_0 > 8
      · rw [if_pos c6] at H
        have c6b0 : decide (8 < a0_0) = true := decide_eq_true c6
        clear c6
        have H' := Aside0.mk H
        clear H
        have hcz7_0 : w3.cell? ⟨gb141, 0, none⟩ = some (.int .i64 a0_0) := (blk_cell BK141.out 0).trans rfl
        have hcz7_1 : w3.cell? ⟨gb141, 1, none⟩ = some (.int .i64 a0_1) := (blk_cell BK141.out 1).trans rfl
        have hcz7_2 : w3.cell? ⟨gb141, 2, none⟩ = some (.string a0_2) := (blk_cell BK141.out 2).trans rfl
        have hcz7_3 : w3.cell? ⟨gb141, 3, none⟩ = some (.string a0_3) := (blk_cell BK141.out 3).trans rfl
        have hfz7_0 := blk_frozen BK141.out 0
        have hfz7_1 := blk_frozen BK141.out 1
        have hfz7_2 := blk_frozen BK141.out 2
        have hfz7_3 := blk_frozen BK141.out 3
        go_wp2
        go_meet
        case rel => exact ⟨_, (true), (by first | rfl | (simp; done) | (simp [*]; done)), H', ⟨by first | omega | exact Nat.le_refl _⟩, ⟨by (with_reducible repeat (first | refine blk_drewN ?_ _ | refine blk_drew ?_ | refine blk_alloc ?_ _)); exact BK141.out⟩, ⟨by repeat (first | (with_reducible first | exact HB.out | apply below_alloc | apply pw_below_drewN | apply below_drew1 | refine below_set ?_ GE141.out) | exact HB.out)⟩⟩
      · rw [if_neg c6] at H
        have c6b0 : decide (8 < a0_0) = false := decide_eq_false c6
        clear c6
        by_cases c8 : a0_1 < 0
        · rw [if_pos c8] at H
          have c8b0 : decide (a0_1 < 0) = true := decide_eq_true c8
          clear c8
          have H' := Aside0.mk H
          clear H
          have hcz9_0 : w3.cell? ⟨gb141, 0, none⟩ = some (.int .i64 a0_0) := (blk_cell BK141.out 0).trans rfl
          have hcz9_1 : w3.cell? ⟨gb141, 1, none⟩ = some (.int .i64 a0_1) := (blk_cell BK141.out 1).trans rfl
          have hcz9_2 : w3.cell? ⟨gb141, 2, none⟩ = some (.string a0_2) := (blk_cell BK141.out 2).trans rfl
          have hcz9_3 : w3.cell? ⟨gb141, 3, none⟩ = some (.string a0_3) := (blk_cell BK141.out 3).trans rfl
          have hfz9_0 := blk_frozen BK141.out 0
          have hfz9_1 := blk_frozen BK141.out 1
          have hfz9_2 := blk_frozen BK141.out 2
          have hfz9_3 := blk_frozen BK141.out 3
          go_wp2
          go_meet
          case rel => exact ⟨_, (true), (by first | rfl | (simp; done) | (simp [*]; done)), H', ⟨by first | omega | exact Nat.le_refl _⟩, ⟨by (with_reducible repeat (first | refine blk_drewN ?_ _ | refine blk_drew ?_ | refine blk_alloc ?_ _)); exact BK141.out⟩, ⟨by repeat (first | (with_reducible first | exact HB.out | apply below_alloc | apply pw_below_drewN | apply below_drew1 | refine below_set ?_ GE141.out) | exact HB.out)⟩⟩
        · rw [if_neg c8] at H
          have c8b0 : decide (a0_1 < 0) = false := decide_eq_false c8
          clear c8
          by_cases c10 : a0_1 > 1099511627776
          · rw [if_pos c10] at H
            have c10b0 : decide (1099511627776 < a0_1) = true := decide_eq_true c10
            clear c10
            have H' := Aside0.mk H
            clear H
            have hcz11_0 : w3.cell? ⟨gb141, 0, none⟩ = some (.int .i64 a0_0) := (blk_cell BK141.out 0).trans rfl
            have hcz11_1 : w3.cell? ⟨gb141, 1, none⟩ = some (.int .i64 a0_1) := (blk_cell BK141.out 1).trans rfl
            have hcz11_2 : w3.cell? ⟨gb141, 2, none⟩ = some (.string a0_2) := (blk_cell BK141.out 2).trans rfl
            have hcz11_3 : w3.cell? ⟨gb141, 3, none⟩ = some (.string a0_3) := (blk_cell BK141.out 3).trans rfl
            have hfz11_0 := blk_frozen BK141.out 0
            have hfz11_1 := blk_frozen BK141.out 1
            have hfz11_2 := blk_frozen BK141.out 2
            have hfz11_3 := blk_frozen BK141.out 3
            go_wp2
            go_meet
            case rel => exact ⟨_, (true), (by first | rfl | (simp; done) | (simp [*]; done)), H', ⟨by first | omega | exact Nat.le_refl _⟩, ⟨by (with_reducible repeat (first | refine blk_drewN ?_ _ | refine blk_drew ?_ | refine blk_alloc ?_ _)); exact BK141.out⟩, ⟨by repeat (first | (with_reducible first | exact HB.out | apply below_alloc | apply pw_below_drewN | apply below_drew1 | refine below_set ?_ GE141.out) | exact HB.out)⟩⟩
          · rw [if_neg c10] at H
            have c10b0 : decide (1099511627776 < a0_1) = false := decide_eq_false c10
            clear c10
            by_cases c12 : a0_0 = 8
            · rw [if_pos c12] at H
              have c12b0 : (a0_0 == 8) = true := beq_iff_eq.mpr c12
              have c12b1 : (a0_0 != 8) = false := bne_eq_false_iff_eq.mpr c12
              clear c12
              have H' := Aside0.mk H
              clear H
              have hcz13_0 : w3.cell? ⟨gb141, 0, none⟩ = some (.int .i64 a0_0) := (blk_cell BK141.out 0).trans rfl
              have hcz13_1 : w3.cell? ⟨gb141, 1, none⟩ = some (.int .i64 a0_1) := (blk_cell BK141.out 1).trans rfl
              have hcz13_2 : w3.cell? ⟨gb141, 2, none⟩ = some (.string a0_2) := (blk_cell BK141.out 2).trans rfl
              have hcz13_3 : w3.cell? ⟨gb141, 3, none⟩ = some (.string a0_3) := (blk_cell BK141.out 3).trans rfl
              have hfz13_0 := blk_frozen BK141.out 0
              have hfz13_1 := blk_frozen BK141.out 1
              have hfz13_2 := blk_frozen BK141.out 2
              have hfz13_3 := blk_frozen BK141.out 3
              go_wp2
              go_meet
              case rel => exact ⟨_, ((a0_1 != 0)), (by first | rfl | (simp; done) | (simp [*]; done)), H', ⟨by first | omega | exact Nat.le_refl _⟩, ⟨by (with_reducible repeat (first | refine blk_drewN ?_ _ | refine blk_drew ?_ | refine blk_alloc ?_ _)); exact BK141.out⟩, ⟨by repeat (first | (with_reducible first | exact HB.out | apply below_alloc | apply pw_below_drewN | apply below_drew1 | refine below_set ?_ GE141.out) | exact HB.out)⟩⟩
            · rw [if_neg c12] at H
              have c12b0 : (a0_0 == 8) = false := beq_eq_false_iff_ne.mpr c12
              have c12b1 : (a0_0 != 8) = true := bne_iff_ne.mpr c12
              have H' := Aside0.mk H
              clear H
              have hcz14_0 : w3.cell? ⟨gb141, 0, none⟩ = some (.int .i64 a0_0) := (blk_cell BK141.out 0).trans rfl
              have hcz14_1 : w3.cell? ⟨gb141, 1, none⟩ = some (.int .i64 a0_1) := (blk_cell BK141.out 1).trans rfl
              have hcz14_2 : w3.cell? ⟨gb141, 2, none⟩ = some (.string a0_2) := (blk_cell BK141.out 2).trans rfl
              have hcz14_3 : w3.cell? ⟨gb141, 3, none⟩ = some (.string a0_3) := (blk_cell BK141.out 3).trans rfl
              have hfz14_0 := blk_frozen BK141.out 0
              have hfz14_1 := blk_frozen BK141.out 1
              have hfz14_2 := blk_frozen BK141.out 2
              have hfz14_3 := blk_frozen BK141.out 3
              go_wp2
              go_meet
              case rel => exact ⟨_, (false), (by first | rfl | (simp; done) | (simp [*]; done)), H', ⟨by first | omega | exact Nat.le_refl _⟩, ⟨by (with_reducible repeat (first | refine blk_drewN ?_ _ | refine blk_drew ?_ | refine blk_alloc ?_ _)); exact BK141.out⟩, ⟨by repeat (first | (with_reducible first | exact HB.out | apply below_alloc | apply pw_below_drewN | apply below_drew1 | refine below_set ?_ GE141.out) | exact HB.out)⟩⟩
  case rest =>
    clear HC2
    try clear c1
    try clear p2
    try clear c4
    try clear c4b0
    try clear c6
    try clear c6b0
    try clear c8
    try clear c8b0
    try clear c10
    try clear c10b0
    try clear c12
    try clear c12b0
    try clear c12b1
    try clear hcz11_0
    try clear hcz11_1
    try clear hcz11_2
    try clear hcz11_3
    try clear hcz13_0
    try clear hcz13_1
    try clear hcz13_2
    try clear hcz13_3
    try clear hcz14_0
    try clear hcz14_1
    try clear hcz14_2
    try clear hcz14_3
    try clear hcz5_0
    try clear hcz5_1
    try clear hcz5_2
    try clear hcz5_3
    try clear hcz7_0
    try clear hcz7_1
    try clear hcz7_2
    try clear hcz7_3
    try clear hcz9_0
    try clear hcz9_1
    try clear hcz9_2
    try clear hcz9_3
    try clear hfz11_0
    try clear hfz11_1
    try clear hfz11_2
    try clear hfz11_3
    try clear hfz13_0
    try clear hfz13_1
    try clear hfz13_2
    try clear hfz13_3
    try clear hfz14_0
    try clear hfz14_1
    try clear hfz14_2
    try clear hfz14_3
    try clear hfz5_0
    try clear hfz5_1
    try clear hfz5_2
    try clear hfz5_3
    try clear hfz7_0
    try clear hfz7_1
    try clear hfz7_2
    try clear hfz7_3
    try clear hfz9_0
    try clear hfz9_1
    try clear hfz9_2
    try clear hfz9_3
    obtain ⟨kq, x31_1, rfl, HA, HJ1, BK141, HB⟩ := hcut
    cases kq with
    | zero => exact absurd HA.out (by simp [pontoonref27_Right.j0])
    | succ kj1 =>
      have H := HA.out
      clear HA
      simp only [pontoonref27_Right.j0] at H
      by_cases c15 : x31_1 = true
      · subst c15
        have H1 : (some false) = some r := by rw [if_pos rfl] at H; exact H
        clear H
        have H := H1
        clear H1
        obtain rfl := Option.some.inj H
        go_wp2
        go_ret
        exact ⟨by first | rfl | (simp [errW_none, errW_some] <;> rfl) | (simp [*, errW_none, errW_some] <;> rfl), by repeat (first | (with_reducible first | exact HB.out | apply below_alloc | apply pw_below_drewN | apply below_drew1 | refine below_set ?_ GE141.out) | exact HB.out)⟩
      · replace c15 := Bool.eq_false_iff.mpr c15
        subst c15
        have H1 : (if a0_0 = 1 then ((pontoonref27_letters.f kj1 a0_2).bind fun t142 => (if t142 = true then ((pontoonref27_letters.f kj1 a0_3).bind fun t143 => (some t143)) else (some false))) else (if a0_0 = 2 then (pontoonref27_Right.l0 kj1 0 a0_0 a0_1 a0_2 a0_3) else (if a0_2.toList = ([] : List UInt8) then (some (a0_3.toList == ([] : List UInt8))) else (some false)))) = some r := by rw [if_neg (show ¬ (false = true) by decide)] at H; exact H
        clear H
        have H := H1
        clear H1
        by_cases c16 : a0_0 = 1
        · rw [if_pos c16] at H
          have c16b0 : (a0_0 == 1) = true := beq_iff_eq.mpr c16
          have c16b1 : (a0_0 != 1) = false := bne_eq_false_iff_eq.mpr c16
          clear c16
          replace H := Option.bind_eq_some_iff.mp H
          obtain ⟨t142, A170, H⟩ := H
          replace H : (if t142 = true then ((pontoonref27_letters.f kj1 a0_3).bind fun t143 => (some t143)) else (some false)) = some r := H
          have A17 := Aside0.mk A170
          clear A170
          by_cases c18 : t142 = true
          · subst c18
            have H1 : ((pontoonref27_letters.f kj1 a0_3).bind fun t143 => (some t143)) = some r := by rw [if_pos rfl] at H; exact H
            clear H
            have H := H1
            clear H1
            replace H := Option.bind_eq_some_iff.mp H
            obtain ⟨t143, A190, H⟩ := H
            replace H : (some t143) = some r := H
            have A19 := Aside0.mk A190
            clear A190
            obtain rfl := Option.some.inj H
            have hcz20_0 : wc.cell? ⟨gb141, 0, none⟩ = some (.int .i64 a0_0) := (blk_cell BK141.out 0).trans rfl
            have hcz20_1 : wc.cell? ⟨gb141, 1, none⟩ = some (.int .i64 a0_1) := (blk_cell BK141.out 1).trans rfl
            have hcz20_2 : wc.cell? ⟨gb141, 2, none⟩ = some (.string a0_2) := (blk_cell BK141.out 2).trans rfl
            have hcz20_3 : wc.cell? ⟨gb141, 3, none⟩ = some (.string a0_3) := (blk_cell BK141.out 3).trans rfl
            have hfz20_0 := blk_frozen BK141.out 0
            have hfz20_1 := blk_frozen BK141.out 1
            have hfz20_2 := blk_frozen BK141.out 2
            have hfz20_3 := blk_frozen BK141.out 3
            go_wp2_with (first | ((with_reducible refine gate_callee (f := 21) rfl ?_); refine goesL_ (some 38) rfl rfl Try.func21 (by kernel_rfl) rfl #[.string a0_2] rfl (by (try simp only [List.map_toArray, List.map_cons, List.map_nil]); first | done | rfl | (simp only [List.length_drop, List.length_take]; rfl)) ?_; (with_reducible refine (pontoonref27_letters.calls kj1 a0_2 true _ A17.out).mono ?_); rintro e w' ⟨rfl, ⟨nd, rfl⟩⟩; refine ⟨_, rfl, ?_⟩) | (go_at_call 21; (with_reducible refine (pontoonref27_letters.calls kj1 a0_3 t143 _ A19.out).mono ?_); rintro e w' ⟨rfl, ⟨nd, rfl⟩⟩))
            go_ret
            exact ⟨by first | rfl | (simp [errW_none, errW_some] <;> rfl) | (simp [*, errW_none, errW_some] <;> rfl), by repeat (first | (with_reducible first | exact HB.out | apply below_alloc | apply pw_below_drewN | apply below_drew1 | refine below_set ?_ GE141.out) | exact HB.out)⟩
          · replace c18 := Bool.eq_false_iff.mpr c18
            subst c18
            have H1 : (some false) = some r := by rw [if_neg (show ¬ (false = true) by decide)] at H; exact H
            clear H
            have H := H1
            clear H1
            obtain rfl := Option.some.inj H
            have hcz21_0 : wc.cell? ⟨gb141, 0, none⟩ = some (.int .i64 a0_0) := (blk_cell BK141.out 0).trans rfl
            have hcz21_1 : wc.cell? ⟨gb141, 1, none⟩ = some (.int .i64 a0_1) := (blk_cell BK141.out 1).trans rfl
            have hcz21_2 : wc.cell? ⟨gb141, 2, none⟩ = some (.string a0_2) := (blk_cell BK141.out 2).trans rfl
            have hcz21_3 : wc.cell? ⟨gb141, 3, none⟩ = some (.string a0_3) := (blk_cell BK141.out 3).trans rfl
            have hfz21_0 := blk_frozen BK141.out 0
            have hfz21_1 := blk_frozen BK141.out 1
            have hfz21_2 := blk_frozen BK141.out 2
            have hfz21_3 := blk_frozen BK141.out 3
            go_wp2_with (first | ((with_reducible refine gate_callee (f := 21) rfl ?_); refine goesL_ (some 38) rfl rfl Try.func21 (by kernel_rfl) rfl #[.string a0_2] rfl (by (try simp only [List.map_toArray, List.map_cons, List.map_nil]); first | done | rfl | (simp only [List.length_drop, List.length_take]; rfl)) ?_; (with_reducible refine (pontoonref27_letters.calls kj1 a0_2 false _ A17.out).mono ?_); rintro e w' ⟨rfl, ⟨nd, rfl⟩⟩; refine ⟨_, rfl, ?_⟩))
            go_ret
            exact ⟨by first | rfl | (simp [errW_none, errW_some] <;> rfl) | (simp [*, errW_none, errW_some] <;> rfl), by repeat (first | (with_reducible first | exact HB.out | apply below_alloc | apply pw_below_drewN | apply below_drew1 | refine below_set ?_ GE141.out) | exact HB.out)⟩
        · rw [if_neg c16] at H
          have c16b0 : (a0_0 == 1) = false := beq_eq_false_iff_ne.mpr c16
          have c16b1 : (a0_0 != 1) = true := bne_iff_ne.mpr c16
          by_cases c22 : a0_0 = 2
          · rw [if_pos c22] at H
            have c22b0 : (a0_0 == 2) = true := beq_iff_eq.mpr c22
            have c22b1 : (a0_0 != 2) = false := bne_eq_false_iff_eq.mpr c22
            clear c22
            have H' := Aside0.mk H
            clear H
            have hcz23_0 : wc.cell? ⟨gb141, 0, none⟩ = some (.int .i64 a0_0) := (blk_cell BK141.out 0).trans rfl
            have hcz23_1 : wc.cell? ⟨gb141, 1, none⟩ = some (.int .i64 a0_1) := (blk_cell BK141.out 1).trans rfl
            have hcz23_2 : wc.cell? ⟨gb141, 2, none⟩ = some (.string a0_2) := (blk_cell BK141.out 2).trans rfl
            have hcz23_3 : wc.cell? ⟨gb141, 3, none⟩ = some (.string a0_3) := (blk_cell BK141.out 3).trans rfl
            have hfz23_0 := blk_frozen BK141.out 0
            have hfz23_1 := blk_frozen BK141.out 1
            have hfz23_2 := blk_frozen BK141.out 2
            have hfz23_3 := blk_frozen BK141.out 3
            go_wp2
            go_loopg [3] kj1 (fun kq v3 w' => ∃ (x3_2 : Int), v3 = .int .i64 x3_2 ∧ Aside0 (pontoonref27_Right.l0 kq x3_2 a0_0 a0_1 a0_2 a0_3 = some r) ∧ Aside0 (kq ≤ kj1) ∧ Aside0 (w'.heap[gb141]? = some (.cells #[.int .i64 a0_0, .int .i64 a0_1, .string a0_2, .string a0_3] 35 (0, 0))) ∧ Aside0 (Below w.heap.size w w'))
            case atStart => exact ⟨(0), (by first | rfl | (simp; done) | (simp [*]; done)), H', ⟨Nat.le_refl _⟩, ⟨by (with_reducible repeat (first | refine blk_drewN ?_ _ | refine blk_drew ?_ | refine blk_alloc ?_ _)); exact BK141.out⟩, ⟨by repeat (first | (with_reducible first | exact HB.out | apply below_alloc | apply pw_below_drewN | apply below_drew1 | refine below_set ?_ GE141.out) | exact HB.out)⟩⟩
            case round =>
              clear H'
              try clear c1
              try clear c2
              try clear p2
              try clear c4
              try clear c4b0
              try clear c6
              try clear c6b0
              try clear c8
              try clear c8b0
              try clear c10
              try clear c10b0
              try clear c12
              try clear c12b0
              try clear c12b1
              try clear c15
              try clear c16
              try clear c16b0
              try clear c16b1
              try clear c18
              try clear c21
              try clear c22
              try clear c22b0
              try clear c22b1
              try clear hcz11_0
              try clear hcz11_1
              try clear hcz11_2
              try clear hcz11_3
              try clear hcz13_0
              try clear hcz13_1
              try clear hcz13_2
              try clear hcz13_3
              try clear hcz14_0
              try clear hcz14_1
              try clear hcz14_2
              try clear hcz14_3
              try clear hcz20_0
              try clear hcz20_1
              try clear hcz20_2
              try clear hcz20_3
              try clear hcz21_0
              try clear hcz21_1
              try clear hcz21_2
              try clear hcz21_3
              try clear hcz23_0
              try clear hcz23_1
              try clear hcz23_2
              try clear hcz23_3
              try clear hcz5_0
              try clear hcz5_1
              try clear hcz5_2
              try clear hcz5_3
              try clear hcz7_0
              try clear hcz7_1
              try clear hcz7_2
              try clear hcz7_3
              try clear hcz9_0
              try clear hcz9_1
              try clear hcz9_2
              try clear hcz9_3
              try clear hfz11_0
              try clear hfz11_1
              try clear hfz11_2
              try clear hfz11_3
              try clear hfz13_0
              try clear hfz13_1
              try clear hfz13_2
              try clear hfz13_3
              try clear hfz14_0
              try clear hfz14_1
              try clear hfz14_2
              try clear hfz14_3
              try clear hfz20_0
              try clear hfz20_1
              try clear hfz20_2
              try clear hfz20_3
              try clear hfz21_0
              try clear hfz21_1
              try clear hfz21_2
              try clear hfz21_3
              try clear hfz23_0
              try clear hfz23_1
              try clear hfz23_2
              try clear hfz23_3
              try clear hfz5_0
              try clear hfz5_1
              try clear hfz5_2
              try clear hfz5_3
              try clear hfz7_0
              try clear hfz7_1
              try clear hfz7_2
              try clear hfz7_3
              try clear hfz9_0
              try clear hfz9_1
              try clear hfz9_2
              try clear hfz9_3
              try clear p2
              obtain ⟨x3_2, rfl, HA, HK2, BK141, HB⟩ := hrel
              cases gk with
              | zero => exact absurd HA.out (by simp [pontoonref27_Right.l0])
              | succ k2 =>
                have H := HA.out
                clear HA
                simp only [pontoonref27_Right.l0] at H
                by_cases c24 : x3_2 < (a0_2.size : Int)
                · rw [if_pos c24] at H
                  have c24b0 : decide (x3_2 < (a0_2.size : Int)) = true := decide_eq_true c24
                  clear c24
                  by_cases c25 : 0 ≤ x3_2
                  · rw [if_pos c25] at H
                    have c25b0 : decide (0 ≤ x3_2) = true := decide_eq_true c25
                    clear c25
                    by_cases c27 : (bt a0_2 x3_2) = 10
                    · rw [if_pos c27] at H
                      have c27b0 : ((bt a0_2 x3_2) == 10) = true := beq_iff_eq.mpr c27
                      have c27b1 : ((bt a0_2 x3_2) != 10) = false := bne_eq_false_iff_eq.mpr c27
                      clear c27
                      obtain rfl := Option.some.inj H
                      have hcz28_0 : wr.cell? ⟨gb141, 0, none⟩ = some (.int .i64 a0_0) := (blk_cell BK141.out 0).trans rfl
                      have hcz28_1 : wr.cell? ⟨gb141, 1, none⟩ = some (.int .i64 a0_1) := (blk_cell BK141.out 1).trans rfl
                      have hcz28_2 : wr.cell? ⟨gb141, 2, none⟩ = some (.string a0_2) := (blk_cell BK141.out 2).trans rfl
                      have hcz28_3 : wr.cell? ⟨gb141, 3, none⟩ = some (.string a0_3) := (blk_cell BK141.out 3).trans rfl
                      have hfz28_0 := blk_frozen BK141.out 0
                      have hfz28_1 := blk_frozen BK141.out 1
                      have hfz28_2 := blk_frozen BK141.out 2
                      have hfz28_3 := blk_frozen BK141.out 3
                      have p26 : 0 ≤ (x3_2 : Int) := of_decide_eq_true (by first | (with_reducible assumption) | assumption)
                      have q26 : x3_2 < (a0_2.size : Int) := of_decide_eq_true (by first | (with_reducible assumption) | assumption)
                      have hx26 := bt_at a0_2 x3_2
                      replace p26 := eq_true p26
                      replace q26 := eq_true q26
                      go_wp2
                      go_ret
                      exact ⟨by first | rfl | (simp [errW_none, errW_some] <;> rfl) | (simp [*, errW_none, errW_some] <;> rfl), by repeat (first | (with_reducible first | exact HB.out | apply below_alloc | apply pw_below_drewN | apply below_drew1 | refine below_set ?_ GE141.out) | exact HB.out)⟩
                    · rw [if_neg c27] at H
                      have c27b0 : ((bt a0_2 x3_2) == 10) = false := beq_eq_false_iff_ne.mpr c27
                      have c27b1 : ((bt a0_2 x3_2) != 10) = true := bne_iff_ne.mpr c27
                      have H' := Aside0.mk H
                      clear H
                      have hcz29_0 : wr.cell? ⟨gb141, 0, none⟩ = some (.int .i64 a0_0) := (blk_cell BK141.out 0).trans rfl
                      have hcz29_1 : wr.cell? ⟨gb141, 1, none⟩ = some (.int .i64 a0_1) := (blk_cell BK141.out 1).trans rfl
                      have hcz29_2 : wr.cell? ⟨gb141, 2, none⟩ = some (.string a0_2) := (blk_cell BK141.out 2).trans rfl
                      have hcz29_3 : wr.cell? ⟨gb141, 3, none⟩ = some (.string a0_3) := (blk_cell BK141.out 3).trans rfl
                      have hfz29_0 := blk_frozen BK141.out 0
                      have hfz29_1 := blk_frozen BK141.out 1
                      have hfz29_2 := blk_frozen BK141.out 2
                      have hfz29_3 := blk_frozen BK141.out 3
                      have p26 : 0 ≤ (x3_2 : Int) := of_decide_eq_true (by first | (with_reducible assumption) | assumption)
                      have q26 : x3_2 < (a0_2.size : Int) := of_decide_eq_true (by first | (with_reducible assumption) | assumption)
                      have hx26 := bt_at a0_2 x3_2
                      replace p26 := eq_true p26
                      replace q26 := eq_true q26
                      go_wp2
                      go_roundg k2
                      case measure => have := HJ1.out; have := HK2.out; omega
                      case rel => exact ⟨(wrap64 (x3_2 + 1)), (by first | rfl | (simp; done) | (simp [*]; done)), H', ⟨by have := HJ1.out; have := HK2.out; omega⟩, ⟨by (with_reducible repeat (first | refine blk_drewN ?_ _ | refine blk_drew ?_ | refine blk_alloc ?_ _)); exact BK141.out⟩, ⟨by repeat (first | (with_reducible first | exact HB.out | apply below_alloc | apply pw_below_drewN | apply below_drew1 | refine below_set ?_ GE141.out) | exact HB.out)⟩⟩
                  · rw [if_neg c25] at H
                    exact absurd H (by simp)
                · rw [if_neg c24] at H
                  have c24b0 : decide (x3_2 < (a0_2.size : Int)) = false := decide_eq_false c24
                  clear c24
                  obtain rfl := Option.some.inj H
                  have hcz30_0 : wr.cell? ⟨gb141, 0, none⟩ = some (.int .i64 a0_0) := (blk_cell BK141.out 0).trans rfl
                  have hcz30_1 : wr.cell? ⟨gb141, 1, none⟩ = some (.int .i64 a0_1) := (blk_cell BK141.out 1).trans rfl
                  have hcz30_2 : wr.cell? ⟨gb141, 2, none⟩ = some (.string a0_2) := (blk_cell BK141.out 2).trans rfl
                  have hcz30_3 : wr.cell? ⟨gb141, 3, none⟩ = some (.string a0_3) := (blk_cell BK141.out 3).trans rfl
                  have hfz30_0 := blk_frozen BK141.out 0
                  have hfz30_1 := blk_frozen BK141.out 1
                  have hfz30_2 := blk_frozen BK141.out 2
                  have hfz30_3 := blk_frozen BK141.out 3
                  go_wp2
                  go_ret
                  exact ⟨by first | rfl | (simp [errW_none, errW_some] <;> rfl) | (simp [*, errW_none, errW_some] <;> rfl), by repeat (first | (with_reducible first | exact HB.out | apply below_alloc | apply pw_below_drewN | apply below_drew1 | refine below_set ?_ GE141.out) | exact HB.out)⟩
          · rw [if_neg c22] at H
            have c22b0 : (a0_0 == 2) = false := beq_eq_false_iff_ne.mpr c22
            have c22b1 : (a0_0 != 2) = true := bne_iff_ne.mpr c22
            by_cases c31 : a0_2.toList = ([] : List UInt8)
            · rw [if_pos c31] at H
              have c31b0 : (a0_2.toList == ([] : List UInt8)) = true := beq_iff_eq.mpr c31
              have c31b1 : (a0_2.toList != ([] : List UInt8)) = false := bne_eq_false_iff_eq.mpr c31
              clear c31
              obtain rfl := Option.some.inj H
              have hcz32_0 : wc.cell? ⟨gb141, 0, none⟩ = some (.int .i64 a0_0) := (blk_cell BK141.out 0).trans rfl
              have hcz32_1 : wc.cell? ⟨gb141, 1, none⟩ = some (.int .i64 a0_1) := (blk_cell BK141.out 1).trans rfl
              have hcz32_2 : wc.cell? ⟨gb141, 2, none⟩ = some (.string a0_2) := (blk_cell BK141.out 2).trans rfl
              have hcz32_3 : wc.cell? ⟨gb141, 3, none⟩ = some (.string a0_3) := (blk_cell BK141.out 3).trans rfl
              have hfz32_0 := blk_frozen BK141.out 0
              have hfz32_1 := blk_frozen BK141.out 1
              have hfz32_2 := blk_frozen BK141.out 2
              have hfz32_3 := blk_frozen BK141.out 3
              go_wp2
              go_ret
              exact ⟨by first | rfl | (simp [errW_none, errW_some] <;> rfl) | (simp [*, errW_none, errW_some] <;> rfl), by repeat (first | (with_reducible first | exact HB.out | apply below_alloc | apply pw_below_drewN | apply below_drew1 | refine below_set ?_ GE141.out) | exact HB.out)⟩
            · rw [if_neg c31] at H
              have c31b0 : (a0_2.toList == ([] : List UInt8)) = false := beq_eq_false_iff_ne.mpr c31
              have c31b1 : (a0_2.toList != ([] : List UInt8)) = true := bne_iff_ne.mpr c31
              obtain rfl := Option.some.inj H
              have hcz33_0 : wc.cell? ⟨gb141, 0, none⟩ = some (.int .i64 a0_0) := (blk_cell BK141.out 0).trans rfl
              have hcz33_1 : wc.cell? ⟨gb141, 1, none⟩ = some (.int .i64 a0_1) := (blk_cell BK141.out 1).trans rfl
              have hcz33_2 : wc.cell? ⟨gb141, 2, none⟩ = some (.string a0_2) := (blk_cell BK141.out 2).trans rfl
              have hcz33_3 : wc.cell? ⟨gb141, 3, none⟩ = some (.string a0_3) := (blk_cell BK141.out 3).trans rfl
              have hfz33_0 := blk_frozen BK141.out 0
              have hfz33_1 := blk_frozen BK141.out 1
              have hfz33_2 := blk_frozen BK141.out 2
              have hfz33_3 := blk_frozen BK141.out 3
              go_wp2
              go_ret
              exact ⟨by first | rfl | (simp [errW_none, errW_some] <;> rfl) | (simp [*, errW_none, errW_some] <;> rfl), by repeat (first | (with_reducible first | exact HB.out | apply below_alloc | apply pw_below_drewN | apply below_drew1 | refine below_set ?_ GE141.out) | exact HB.out)⟩

-- NOT PRINTED: function 37 (pontoonref27_words)


theorem digits_f : ∀ (k n : Nat), n < 10 ^ (k + 1) → k ≤ 16 → Pb.pontoonref01_Digits.f (k + 1) n = some (digB n) ∧ (digB n).size ≤ k + 1 := by
  intro k
  induction k with
  | zero =>
    intro n h _
    have h10 : n < 10 := by simpa using h
    refine ⟨?_, by rw [digB_small h10]; exact Nat.le_refl _⟩
    rw [Pb.pontoonref01_Digits.f, if_neg (by omega), if_pos (by omega), dec_one n h10]
  | succ k ih =>
    intro n h hk
    by_cases h10 : n < 10
    · refine ⟨?_, by rw [digB_small h10]; show 1 ≤ _; omega⟩
      rw [Pb.pontoonref01_Digits.f, if_neg (by omega), if_pos (by omega), dec_one n h10]
    · have hp : n / 10 < 10 ^ (k + 1) := by
        rw [Nat.div_lt_iff_lt_mul (by decide)]
        rwa [Nat.pow_succ] at h
      obtain ⟨i1, i2⟩ := ih (n / 10) hp (by omega)
      have hb : n < 1000000000000000000 := Nat.lt_of_lt_of_le h (Nat.pow_le_pow_right (n := 10) (by decide) (show k + 1 + 1 ≤ 18 by omega))
      have e1 : wrap64 (Int.tdiv n 10) = ((n / 10 : Nat) : Int) := by rw [Int.tdiv_eq_ediv_of_nonneg (by omega), IntWalk.wrap64_in _ (by omega)]; omega
      have e2 : Int.tmod n 10 = ((n % 10 : Nat) : Int) := by rw [Int.tmod_eq_emod_of_nonneg (by omega)]; omega
      have e3 : strOfNums [wrap64 (48 + Int.tmod n 10) % 256] = ⟨#[UInt8.ofNat (48 + n % 10)]⟩ := by
        rw [e2, IntWalk.wrap64_in _ (by omega), show (48 + ((n % 10 : Nat) : Int)) % 256 = ((48 + n % 10 : Nat) : Int) by omega]
        rfl
      refine ⟨?_, by rw [digB_big h10, ByteArray.size_append]; show _ + 1 ≤ _; omega⟩
      rw [Pb.pontoonref01_Digits.f, if_neg (by omega), if_neg (by omega), e1, i1, Option.bind_some, Option.bind_some, e3, if_pos (by show _ + 1 ≤ _; omega), digB_big h10]
theorem digits_few (n : Nat) (h : n ≤ 1000) (w : World) : Calls Try.prog 29 #[.int .i64 n] w fun e w' => e = .returned (.string (digB n)) ∧ Touch [] w w' :=
  (Pb.pontoonref01_Digits.calls 4 n _ w (digits_f 3 n (by omega) (by omega)).1).mono fun _ _ ⟨he, hb⟩ => ⟨he, Touch.of_below hb⟩
theorem rwords_any (w : World) : Calls Try.prog 37 #[] w fun e w' => e = .returned (.slice (some ⟨w.heap.size, 0, none⟩) 9 9) ∧ Touch [] w w' ∧ ∀ k, k < 9 → w'.cell? ⟨w.heap.size, k, none⟩ = some (.string (wordK k)) := by
  have K : Hid (Touch [] w (w.alloc wordsO) ∧ ∀ k, k < 9 → (w.alloc wordsO).cell? ⟨w.heap.size, k, none⟩ = some (.string (wordK k))) := Lib.hid (by
    refine ⟨(Touch.refl _ _).alloc _, fun k hk => ?_⟩
    have hb := heap_alloc_new w wordsO
    unfold wordsO at hb ⊢
    rw [cell_of hb]
    match k, hk with
    | 0, _ => rfl
    | 1, _ => rfl
    | 2, _ => rfl
    | 3, _ => rfl
    | 4, _ => rfl
    | 5, _ => rfl
    | 6, _ => rfl
    | 7, _ => rfl
    | 8, _ => rfl)
  unfold wordsO at K
  go_enter Try.func37, Try.ntmps37
  go_wp2_with fail
  go_ret
  exact ⟨rfl, K.out⟩

def lineB (o : OpL) : ByteArray :=
  wordK o.kind.toNat ++ (if o.kind = 1 then ⟨#[32]⟩ ++ digB o.n.toNat ++ ⟨#[32]⟩ ++ o.s ++ ⟨#[32]⟩ ++ o.r else if o.kind = 2 then ⟨#[32]⟩ ++ digB o.n.toNat ++ ⟨#[32]⟩ ++ o.s else if o.kind = 8 then ⟨#[]⟩ else ⟨#[32]⟩ ++ digB o.n.toNat)
theorem lineM_eq (o : OpL) : lineM o = lineB o ++ ⟨#[10]⟩ := rfl
set_option maxRecDepth 100000 in
set_option maxHeartbeats 4000000 in
theorem rline_good (o : OpL) (hg : GoodOp o) (w : World) : Calls Try.prog 34 #[.agg #[.int .i64 o.kind, .int .i64 o.n, .string o.s, .string o.r]] w fun e w' => e = .returned (.string (lineB o)) ∧ Touch [] w w' := by
  obtain ⟨kd, m, hkd, hm, hkd1, hkd8, hm1, hos, hor⟩ := good_nat hg
  have hwz := wordK_size kd
  have hdz := digB_few m hm1
  obtain ⟨okd, om, os, or'⟩ := o
  dsimp only at hkd hm hos hor
  subst hkd hm
  dsimp only
  have HB := Lib.hid (And.intro hkd1 (And.intro hkd8 (And.intro hm1 (And.intro hos (And.intro hor (And.intro hwz hdz))))))
  have DEC := Lib.hid (digits_few m hm1)
  have hb5 := heap_alloc_new w (.cells #[.int .i64 (kd : Int), .int .i64 (m : Int), .string os, .string or'] 35)
  have t5 : Touch [] w (w.alloc (.cells #[.int .i64 (kd : Int), .int .i64 (m : Int), .string os, .string or'] 35)) := (Touch.refl _ _).alloc _
  have T5 := Lib.hid t5
  have LM : Hid (lineB ⟨kd, m, os, or'⟩ = wordK kd ++ (if (kd : Int) = 1 then ⟨#[32]⟩ ++ digB m ++ ⟨#[32]⟩ ++ os ++ ⟨#[32]⟩ ++ or' else if (kd : Int) = 2 then ⟨#[32]⟩ ++ digB m ++ ⟨#[32]⟩ ++ os else if (kd : Int) = 8 then ⟨#[]⟩ else ⟨#[32]⟩ ++ digB m)) := Lib.hid rfl
  clear t5 hkd1 hm1 hos hor hwz hdz hg
  go_enter Try.func34, Try.ntmps34
  go_upto_region 1 with fail
  generalize (w.alloc (.cells #[.int .i64 (kd : Int), .int .i64 (m : Int), .string os, .string or'] 35)) = W5 at *
  generalize w.heap.size = g5 at *
  have y0 : W5.cell? ⟨g5, 0, none⟩ = some (.int .i64 kd) := by rw [cell_of hb5]; rfl
  have y1 : W5.cell? ⟨g5, 1, none⟩ = some (.int .i64 m) := by rw [cell_of hb5]; rfl
  have y2 : W5.cell? ⟨g5, 2, none⟩ = some (.string os) := by rw [cell_of hb5]; rfl
  have y3 : W5.cell? ⟨g5, 3, none⟩ = some (.string or') := by rw [cell_of hb5]; rfl
  have d0 : W5.drew.cell? ⟨g5, 0, none⟩ = some (.int .i64 kd) := y0
  have d1 : W5.drew.cell? ⟨g5, 1, none⟩ = some (.int .i64 m) := y1
  have d2 : W5.drew.cell? ⟨g5, 2, none⟩ = some (.string os) := y2
  have d3 : W5.drew.cell? ⟨g5, 3, none⟩ = some (.string or') := y3
  have q0 : (0 : Int) ≤ kd := by omega
  have q1 : (kd : Int) < 9 := by omega
  have hkd8' := hkd8
  clear hb5 hkd8
  go_region_with
    (first | (go_at_call 37; refine (rwords_any _).mono ?_; rintro e w7 ⟨rfl, t7, hw7⟩; have z0 := t7.cell d0 (by simp); have z1 := t7.cell d1 (by simp); have z2 := t7.cell d2 (by simp); have z3 := t7.cell d3 (by simp); have T7 := Lib.hid ((T5.out.drew).trans t7 (by simp)); have u0 : w7.cell? ⟨W5.heap.size, kd, none⟩ = some (.string (wordK kd)) := hw7 kd (by omega); clear t7 hw7))
  all_goals
    clear d0 d1 d2 d3 y0 y1 y2 y3
    have hms := HB.out
    generalize digB m = dm at *
    generalize wordK kd = s1 at *
    have b1 : s1.size + 1 ≤ 9223372036854775807 := by omega
    have b2 : s1.size + 1 + dm.size ≤ 9223372036854775807 := by omega
    have b3 : s1.size + 1 + dm.size + 1 ≤ 9223372036854775807 := by omega
    have b4 : s1.size + 1 + dm.size + 1 + os.size ≤ 9223372036854775807 := by omega
    have b5 : s1.size + 1 + dm.size + 1 + os.size + 1 ≤ 9223372036854775807 := by omega
    have b6 : s1.size + 1 + dm.size + 1 + os.size + 1 + or'.size ≤ 9223372036854775807 := by omega
    clear hms
    have hkk : kd = 1 ∨ kd = 2 ∨ kd = 8 ∨ (3 ≤ kd ∧ kd ≤ 7) := by have := HB.out; omega
    rcases hkk with hkk | hkk | hkk | ⟨hk3, hk7⟩
    · have HX := Lib.hid (LM.out.trans (by rw [if_pos (by omega)]))
      have e1 : ((kd : Int) == 1) = true := by rw [beq_iff_eq]; omega
      have e2 : ((kd : Int) == 2) = false := by rw [beq_eq_false_iff_ne]; omega
      have e8 : ((kd : Int) != 8) = true := by rw [bne_iff_ne]; omega
      clear hkk LM
      go_wp2_with (go_at_call 29; refine (DEC.out _).mono ?_; rintro e w8 ⟨rfl, t8⟩; have a0 := t8.cell z0 (by simp); have a2 := t8.cell z2 (by simp); have a3 := t8.cell z3 (by simp); have TF := Lib.hid (T7.out.trans t8 (by simp)); clear t8)
      go_ret
      exact ⟨by rw [HX.out]; simp only [ByteArray.append_assoc]; rfl, TF.out⟩
    · have HX := Lib.hid (LM.out.trans (by rw [if_neg (by omega), if_pos (by omega)]))
      have e1 : ((kd : Int) == 1) = false := by rw [beq_eq_false_iff_ne]; omega
      have e2 : ((kd : Int) == 2) = true := by rw [beq_iff_eq]; omega
      have e8 : ((kd : Int) != 8) = true := by rw [bne_iff_ne]; omega
      clear hkk LM
      go_wp2_with (go_at_call 29; refine (DEC.out _).mono ?_; rintro e w8 ⟨rfl, t8⟩; have a0 := t8.cell z0 (by simp); have a2 := t8.cell z2 (by simp); have a3 := t8.cell z3 (by simp); have TF := Lib.hid (T7.out.trans t8 (by simp)); clear t8)
      go_ret
      exact ⟨by rw [HX.out]; simp only [ByteArray.append_assoc]; rfl, TF.out⟩
    · have HX := Lib.hid (LM.out.trans (by rw [if_neg (by omega), if_neg (by omega), if_pos (by omega)]))
      have e1 : ((kd : Int) == 1) = false := by rw [beq_eq_false_iff_ne]; omega
      have e2 : ((kd : Int) == 2) = false := by rw [beq_eq_false_iff_ne]; omega
      have e8 : ((kd : Int) != 8) = false := by rw [bne_eq_false_iff_eq]; omega
      clear hkk LM
      go_wp2_with fail
      go_ret
      exact ⟨by rw [HX.out, show (⟨#[]⟩ : ByteArray) = ByteArray.empty from rfl, ByteArray.append_empty]; rfl, T7.out⟩
    · have HX := Lib.hid (LM.out.trans (by rw [if_neg (by omega), if_neg (by omega), if_neg (by omega)]))
      have e1 : ((kd : Int) == 1) = false := by rw [beq_eq_false_iff_ne]; omega
      have e2 : ((kd : Int) == 2) = false := by rw [beq_eq_false_iff_ne]; omega
      have e8 : ((kd : Int) != 8) = true := by rw [bne_iff_ne]; omega
      clear hk3 hk7 LM
      go_wp2_with (go_at_call 29; refine (DEC.out _).mono ?_; rintro e w8 ⟨rfl, t8⟩; have a0 := t8.cell z0 (by simp); have a2 := t8.cell z2 (by simp); have a3 := t8.cell z3 (by simp); have TF := Lib.hid (T7.out.trans t8 (by simp)); clear t8)
      go_ret
      exact ⟨by rw [HX.out]; simp only [ByteArray.append_assoc]; rfl, TF.out⟩
/-! ### pontoonref27_line: function 34, by hand -/
def pontoonref27_line.f (a0_0 : Int) (a0_1 : Int) (a0_2 : ByteArray) (a0_3 : ByteArray) : Option (ByteArray) := if GoodOp ⟨a0_0, a0_1, a0_2, a0_3⟩ then some (lineB ⟨a0_0, a0_1, a0_2, a0_3⟩) else none
theorem pontoonref27_line.calls (a0_0 : Int) (a0_1 : Int) (a0_2 : ByteArray) (a0_3 : ByteArray) (r : ByteArray) (w : World) (h : pontoonref27_line.f a0_0 a0_1 a0_2 a0_3 = some r) :
    Calls Try.prog 34 #[.agg #[.int .i64 a0_0, .int .i64 a0_1, .string a0_2, .string a0_3]] w fun e w' => e = .returned (.string r) ∧ Below w.heap.size w w' := by
  unfold pontoonref27_line.f at h
  split at h
  · rename_i hc
    simp only [Option.some.injEq] at h
    subst h
    exact (rline_good ⟨a0_0, a0_1, a0_2, a0_3⟩ hc w).mono fun _ _ ⟨he, ht⟩ => ⟨he, ht.below (Nat.le_refl _) (by simp)⟩
  · cases h

/-! ### pontoonref27_Show: function 20 -/
def pontoonref27_Show.l0 : Nat → List (S35) → ByteArray → Int → Option (ByteArray)
  | 0, _, _, _ => none
  | k + 1, x0, x3, x4 => if x4 < (x0.length : Int) then (if 0 ≤ x4 then ((pontoonref27_Right.f k ((rd_T35 x0 x4).f0) ((rd_T35 x0 x4).f1) ((rd_T35 x0 x4).f2) ((rd_T35 x0 x4).f3)).bind fun t145 => (if t145 = true then ((pontoonref27_line.f ((rd_T35 x0 x4).f0) ((rd_T35 x0 x4).f1) ((rd_T35 x0 x4).f2) ((rd_T35 x0 x4).f3)).bind fun t147 => (if x3.size + t147.size ≤ 9223372036854775807 then (if (x3 ++ t147).size + 1 ≤ 9223372036854775807 then (pontoonref27_Show.l0 k x0 ((x3 ++ t147) ++ (⟨#[10]⟩ : ByteArray)) (wrap64 (x4 + 1))) else (none)) else (none))) else (some (⟨#[]⟩ : ByteArray)))) else (none)) else (some x3)
def pontoonref27_Show.f (k : Nat) (l0 : List (S35)) : Option (ByteArray) := pontoonref27_Show.l0 k l0 (⟨#[]⟩ : ByteArray) 0
theorem pontoonref27_Show.mono_l : ∀ k, (∀ y0 y1 y2, LeO (pontoonref27_Show.l0 k y0 y1 y2) (pontoonref27_Show.l0 (k + 1) y0 y1 y2))
  | 0 => fun _ _ _ r h => by simp [pontoonref27_Show.l0] at h
  | k + 1 => by
    have ih0 := pontoonref27_Show.mono_l k
    · intro y0 y1 y2
      unfold pontoonref27_Show.l0
      repeat' first
      | (with_reducible exact ih0 _ _ _)
      | (with_reducible exact pontoonref27_Right.mono _ _ _ _ _)
      | (with_reducible exact LeO.refl _)
      | (with_reducible exact LeO.none _)
      | (with_reducible refine LeO.ite ?_ ?_)
      | (with_reducible refine LeO.bind ?_ (fun _ => ?_))
      | exact ih0 _ _ _
      | exact pontoonref27_Right.mono _ _ _ _ _
      | exact LeO.none _
      | refine LeO.ite ?_ ?_
      | refine LeO.bind ?_ (fun _ => ?_)
theorem pontoonref27_Show.mono : ∀ a0 k, LeO (pontoonref27_Show.f k a0) (pontoonref27_Show.f (k + 1) a0) := by
  intro a0 k
  have ih0 := pontoonref27_Show.mono_l k
  unfold pontoonref27_Show.f
  repeat' first
      | (with_reducible exact ih0 _ _ _)
      | (with_reducible exact pontoonref27_Right.mono _ _ _ _ _)
      | (with_reducible exact LeO.refl _)
      | (with_reducible exact LeO.none _)
      | (with_reducible refine LeO.ite ?_ ?_)
      | (with_reducible refine LeO.bind ?_ (fun _ => ?_))
      | exact ih0 _ _ _
      | exact pontoonref27_Right.mono _ _ _ _ _
      | exact LeO.none _
      | refine LeO.ite ?_ ?_
      | refine LeO.bind ?_ (fun _ => ?_)
set_option maxHeartbeats 8000000 in
set_option maxRecDepth 100000 in
theorem pontoonref27_Show.calls (k : Nat) (A0 : Option Addr) (c0 : Nat) (l0 : List (S35)) (r : ByteArray) (w : World) (hr0 : Kd.C k35 w A0 l0.length l0) (hc0 : l0.length ≤ c0) (h : pontoonref27_Show.f k l0 = some r) :
    Calls Try.prog 20 #[.slice A0 l0.length c0] w fun e w' => e = .returned (.string r) ∧ Below w.heap.size w w' := by
  have hu35 := Try.underlying35
  have HR0 := Aside0.mk hr0
  have HC0 := Aside0.mk hc0
  clear hr0 hc0
  have HB := Aside0.mk (Below.refl w.heap.size w)
  have H : (pontoonref27_Show.l0 k l0 (⟨#[]⟩ : ByteArray) 0) = some r := h
  clear h
  have H' := Aside0.mk H
  clear H
  go_enter Try.func20, Try.ntmps20
  go_wp2
  go_loopg [3, 4] k (fun kq v3 v4 w' => ∃ (x3_1 : ByteArray) (x4_1 : Int), v3 = .string x3_1 ∧ v4 = .int .i64 x4_1 ∧ Aside0 (pontoonref27_Show.l0 kq l0 x3_1 x4_1 = some r) ∧ Aside0 (kq ≤ k) ∧ Aside0 (Below w.heap.size w w'))
  case atStart => exact ⟨((⟨#[]⟩ : ByteArray)), (0), (by first | rfl | (simp; done) | (simp [*]; done)), (by first | rfl | (simp; done) | (simp [*]; done)), H', ⟨Nat.le_refl _⟩, ⟨by repeat (first | (with_reducible first | exact HB.out | apply below_alloc | apply pw_below_drewN | apply below_drew1) | exact HB.out)⟩⟩
  case round =>
    clear H'
    obtain ⟨x3_1, x4_1, rfl, rfl, HA, HK1, HB⟩ := hrel
    cases gk with
    | zero => exact absurd HA.out (by simp [pontoonref27_Show.l0])
    | succ k1 =>
      have H := HA.out
      clear HA
      simp only [pontoonref27_Show.l0] at H
      by_cases c2 : x4_1 < (l0.length : Int)
      · rw [if_pos c2] at H
        have c2b0 : decide (x4_1 < (l0.length : Int)) = true := decide_eq_true c2
        clear c2
        by_cases c3 : 0 ≤ x4_1
        · rw [if_pos c3] at H
          have c3b0 : decide (0 ≤ x4_1) = true := decide_eq_true c3
          clear c3
          replace H := Option.bind_eq_some_iff.mp H
          obtain ⟨t145, A40, H⟩ := H
          replace H : (if t145 = true then ((pontoonref27_line.f ((rd_T35 l0 x4_1).f0) ((rd_T35 l0 x4_1).f1) ((rd_T35 l0 x4_1).f2) ((rd_T35 l0 x4_1).f3)).bind fun t147 => (if x3_1.size + t147.size ≤ 9223372036854775807 then (if (x3_1 ++ t147).size + 1 ≤ 9223372036854775807 then (pontoonref27_Show.l0 k1 l0 ((x3_1 ++ t147) ++ (⟨#[10]⟩ : ByteArray)) (wrap64 (x4_1 + 1))) else (none)) else (none))) else (some (⟨#[]⟩ : ByteArray))) = some r := H
          have A4 := Aside0.mk A40
          clear A40
          by_cases c5 : t145 = true
          · subst c5
            have H1 : ((pontoonref27_line.f ((rd_T35 l0 x4_1).f0) ((rd_T35 l0 x4_1).f1) ((rd_T35 l0 x4_1).f2) ((rd_T35 l0 x4_1).f3)).bind fun t147 => (if x3_1.size + t147.size ≤ 9223372036854775807 then (if (x3_1 ++ t147).size + 1 ≤ 9223372036854775807 then (pontoonref27_Show.l0 k1 l0 ((x3_1 ++ t147) ++ (⟨#[10]⟩ : ByteArray)) (wrap64 (x4_1 + 1))) else (none)) else (none))) = some r := by rw [if_pos rfl] at H; exact H
            clear H
            have H := H1
            clear H1
            replace H := Option.bind_eq_some_iff.mp H
            obtain ⟨t147, A60, H⟩ := H
            replace H : (if x3_1.size + t147.size ≤ 9223372036854775807 then (if (x3_1 ++ t147).size + 1 ≤ 9223372036854775807 then (pontoonref27_Show.l0 k1 l0 ((x3_1 ++ t147) ++ (⟨#[10]⟩ : ByteArray)) (wrap64 (x4_1 + 1))) else (none)) else (none)) = some r := H
            have A6 := Aside0.mk A60
            clear A60
            by_cases c7 : x3_1.size + t147.size ≤ 9223372036854775807
            · rw [if_pos c7] at H
              have c7b0 := eq_true c7
              have c7b1 : decide (x3_1.size + t147.size ≤ 9223372036854775807) = true := decide_eq_true c7
              try have c7b2 : (9223372036854775807 < x3_1.size + t147.size) = False := eq_false (Nat.not_lt.2 c7)
              try (have c7b3 := c7; simp [ByteArray.size_extract] at c7b3)
              by_cases c8 : (x3_1 ++ t147).size + 1 ≤ 9223372036854775807
              · rw [if_pos c8] at H
                have c8b0 := eq_true c8
                have c8b1 : decide ((x3_1 ++ t147).size + 1 ≤ 9223372036854775807) = true := decide_eq_true c8
                try have c8b2 : (9223372036854775807 < (x3_1 ++ t147).size + 1) = False := eq_false (Nat.not_lt.2 c8)
                try (have c8b3 := c8; simp [ByteArray.size_extract] at c8b3)
                have H' := Aside0.mk H
                clear H
                have p144 : 0 ≤ (x4_1 : Int) := of_decide_eq_true (by first | (with_reducible assumption) | assumption)
                have q144 : x4_1 < (l0.length : Int) := of_decide_eq_true (by first | (with_reducible assumption) | assumption)
                obtain ⟨ad144, e144, hx144_0, hx144_1, hx144_2, hx144_3⟩ := at_T35 HR0.out x4_1 p144 q144
                cases e144
                replace hx144_0 := (HB.out.cell (World.block_lt_of_cell? w _ hx144_0)).trans hx144_0
                replace hx144_1 := (HB.out.cell (World.block_lt_of_cell? w _ hx144_1)).trans hx144_1
                replace hx144_2 := (HB.out.cell (World.block_lt_of_cell? w _ hx144_2)).trans hx144_2
                replace hx144_3 := (HB.out.cell (World.block_lt_of_cell? w _ hx144_3)).trans hx144_3
                replace p144 := eq_true p144
                replace q144 := eq_true q144
                go_wp2_with (first | ((with_reducible refine gate_callee (f := 16) rfl ?_); refine goesL_ (some 15) rfl rfl Try.func16 (by kernel_rfl) rfl #[.agg #[.int .i64 ((rd_T35 l0 x4_1).f0), .int .i64 ((rd_T35 l0 x4_1).f1), .string ((rd_T35 l0 x4_1).f2), .string ((rd_T35 l0 x4_1).f3)]] rfl (by (try simp only [List.map_toArray, List.map_cons, List.map_nil]); first | done | rfl | (simp only [List.length_drop, List.length_take]; rfl)) ?_; (with_reducible refine (pontoonref27_Right.calls k1 ((rd_T35 l0 x4_1).f0) ((rd_T35 l0 x4_1).f1) ((rd_T35 l0 x4_1).f2) ((rd_T35 l0 x4_1).f3) true _ A4.out).mono ?_); rintro e w9 ⟨rfl, hb⟩; refine ⟨_, rfl, ?_⟩; have n0_ := Aside0.mk (below_step (by repeat (first | (with_reducible first | exact HB.out | apply below_alloc | apply pw_below_drewN | apply below_drew1) | exact HB.out)) hb); clear HB; have HB := n0_; clear n0_; (try clear hb); (try clear hb2); (try clear hk); (try clear hi); have p146 : 0 ≤ (x4_1 : Int) := of_decide_eq_true (by first | (with_reducible assumption) | assumption); have q146 : x4_1 < (l0.length : Int) := of_decide_eq_true (by first | (with_reducible assumption) | assumption); obtain ⟨ad146, e146, hx146_0, hx146_1, hx146_2, hx146_3⟩ := at_T35 HR0.out x4_1 p146 q146; obtain rfl : ad144 = ad146 := (by injection e146); replace hx146_0 := (HB.out.cell (World.block_lt_of_cell? w _ hx146_0)).trans hx146_0; replace hx146_1 := (HB.out.cell (World.block_lt_of_cell? w _ hx146_1)).trans hx146_1; replace hx146_2 := (HB.out.cell (World.block_lt_of_cell? w _ hx146_2)).trans hx146_2; replace hx146_3 := (HB.out.cell (World.block_lt_of_cell? w _ hx146_3)).trans hx146_3; replace p146 := eq_true p146; replace q146 := eq_true q146) | ((with_reducible refine gate_callee (f := 34) rfl ?_); refine goesL_ (some 22) rfl rfl Try.func34 (by kernel_rfl) rfl #[.agg #[.int .i64 ((rd_T35 l0 x4_1).f0), .int .i64 ((rd_T35 l0 x4_1).f1), .string ((rd_T35 l0 x4_1).f2), .string ((rd_T35 l0 x4_1).f3)]] rfl (by (try simp only [List.map_toArray, List.map_cons, List.map_nil]); first | done | rfl | (simp only [List.length_drop, List.length_take]; rfl)) ?_; (with_reducible refine (pontoonref27_line.calls ((rd_T35 l0 x4_1).f0) ((rd_T35 l0 x4_1).f1) ((rd_T35 l0 x4_1).f2) ((rd_T35 l0 x4_1).f3) t147 _ A6.out).mono ?_); rintro e w10 ⟨rfl, hb⟩; refine ⟨_, rfl, ?_⟩; have n0_ := Aside0.mk (below_step (by repeat (first | (with_reducible first | exact HB.out | apply below_alloc | apply pw_below_drewN | apply below_drew1) | exact HB.out)) hb); clear HB; have HB := n0_; clear n0_; (try clear hb); (try clear hb2); (try clear hk); (try clear hi)))
                go_roundg k1
                case measure => have := HK1.out; omega
                case rel => exact ⟨((x3_1 ++ t147) ++ (⟨#[10]⟩ : ByteArray)), (wrap64 (x4_1 + 1)), (by first | rfl | (simp; done) | (simp [*]; done)), (by first | rfl | (simp; done) | (simp [*]; done)), H', ⟨by have := HK1.out; omega⟩, ⟨by repeat (first | (with_reducible first | exact HB.out | apply below_alloc | apply pw_below_drewN | apply below_drew1) | exact HB.out)⟩⟩
              · rw [if_neg c8] at H
                exact absurd H (by simp)
            · rw [if_neg c7] at H
              exact absurd H (by simp)
          · replace c5 := Bool.eq_false_iff.mpr c5
            subst c5
            have H1 : (some (⟨#[]⟩ : ByteArray)) = some r := by rw [if_neg (show ¬ (false = true) by decide)] at H; exact H
            clear H
            have H := H1
            clear H1
            obtain rfl := Option.some.inj H
            have p144 : 0 ≤ (x4_1 : Int) := of_decide_eq_true (by first | (with_reducible assumption) | assumption)
            have q144 : x4_1 < (l0.length : Int) := of_decide_eq_true (by first | (with_reducible assumption) | assumption)
            obtain ⟨ad144, e144, hx144_0, hx144_1, hx144_2, hx144_3⟩ := at_T35 HR0.out x4_1 p144 q144
            cases e144
            replace hx144_0 := (HB.out.cell (World.block_lt_of_cell? w _ hx144_0)).trans hx144_0
            replace hx144_1 := (HB.out.cell (World.block_lt_of_cell? w _ hx144_1)).trans hx144_1
            replace hx144_2 := (HB.out.cell (World.block_lt_of_cell? w _ hx144_2)).trans hx144_2
            replace hx144_3 := (HB.out.cell (World.block_lt_of_cell? w _ hx144_3)).trans hx144_3
            replace p144 := eq_true p144
            replace q144 := eq_true q144
            go_wp2_with (first | ((with_reducible refine gate_callee (f := 16) rfl ?_); refine goesL_ (some 15) rfl rfl Try.func16 (by kernel_rfl) rfl #[.agg #[.int .i64 ((rd_T35 l0 x4_1).f0), .int .i64 ((rd_T35 l0 x4_1).f1), .string ((rd_T35 l0 x4_1).f2), .string ((rd_T35 l0 x4_1).f3)]] rfl (by (try simp only [List.map_toArray, List.map_cons, List.map_nil]); first | done | rfl | (simp only [List.length_drop, List.length_take]; rfl)) ?_; (with_reducible refine (pontoonref27_Right.calls k1 ((rd_T35 l0 x4_1).f0) ((rd_T35 l0 x4_1).f1) ((rd_T35 l0 x4_1).f2) ((rd_T35 l0 x4_1).f3) false _ A4.out).mono ?_); rintro e w11 ⟨rfl, hb⟩; refine ⟨_, rfl, ?_⟩; have n0_ := Aside0.mk (below_step (by repeat (first | (with_reducible first | exact HB.out | apply below_alloc | apply pw_below_drewN | apply below_drew1) | exact HB.out)) hb); clear HB; have HB := n0_; clear n0_; (try clear hb); (try clear hb2); (try clear hk); (try clear hi)))
            go_ret
            exact ⟨by first | rfl | (simp [errW_none, errW_some] <;> rfl) | (simp [*, errW_none, errW_some] <;> rfl), by repeat (first | (with_reducible first | exact HB.out | apply below_alloc | apply pw_below_drewN | apply below_drew1) | exact HB.out)⟩
        · rw [if_neg c3] at H
          exact absurd H (by simp)
      · rw [if_neg c2] at H
        have c2b0 : decide (x4_1 < (l0.length : Int)) = false := decide_eq_false c2
        clear c2
        obtain rfl := Option.some.inj H
        go_wp2
        go_ret
        exact ⟨by first | rfl | (simp [errW_none, errW_some] <;> rfl) | (simp [*, errW_none, errW_some] <;> rfl), by repeat (first | (with_reducible first | exact HB.out | apply below_alloc | apply pw_below_drewN | apply below_drew1) | exact HB.out)⟩

/-! ### pontoonref30_Text: function 15 -/
def pontoonref30_Text.f (k : Nat) (a0 : Int) (a1 : Int) (a2 : Int) : Option (ByteArray) := (pontoonref30_Make.f a0 a1 a2).bind fun t148 => ((pontoonref27_Show.f k t148).bind fun t151 => (some t151))
theorem pontoonref30_Text.mono : ∀ a0 a1 a2 k, LeO (pontoonref30_Text.f k a0 a1 a2) (pontoonref30_Text.f (k + 1) a0 a1 a2) := by
  intro a0 a1 a2 k
  unfold pontoonref30_Text.f
  repeat' first
      | (with_reducible exact pontoonref27_Show.mono _ _)
      | (with_reducible exact LeO.refl _)
      | (with_reducible exact LeO.none _)
      | (with_reducible refine LeO.ite ?_ ?_)
      | (with_reducible refine LeO.bind ?_ (fun _ => ?_))
      | exact pontoonref27_Show.mono _ _
      | exact LeO.none _
      | refine LeO.ite ?_ ?_
      | refine LeO.bind ?_ (fun _ => ?_)
set_option maxHeartbeats 8000000 in
set_option maxRecDepth 100000 in
theorem pontoonref30_Text.calls (k : Nat) (a0 : Int) (a1 : Int) (a2 : Int) (r : ByteArray) (w : World) (h : pontoonref30_Text.f k a0 a1 a2 = some r) :
    Calls Try.prog 15 #[.int .u64 a0, .int .i64 a1, .int .i64 a2] w fun e w' => e = .returned (.string r) ∧ Below w.heap.size w w' := by
  have HB := Aside0.mk (Below.refl w.heap.size w)
  have H : ((pontoonref30_Make.f a0 a1 a2).bind fun t148 => ((pontoonref27_Show.f k t148).bind fun t151 => (some t151))) = some r := h
  clear h
  replace H := Option.bind_eq_some_iff.mp H
  obtain ⟨t148, A40, H⟩ := H
  replace H : ((pontoonref27_Show.f k t148).bind fun t151 => (some t151)) = some r := H
  have A4 := Aside0.mk A40
  clear A40
  replace H := Option.bind_eq_some_iff.mp H
  obtain ⟨t151, A50, H⟩ := H
  replace H : (some t151) = some r := H
  have A5 := Aside0.mk A50
  clear A50
  obtain rfl := Option.some.inj H
  go_enter Try.func15, Try.ntmps15
  go_wp2_with (first | ((with_reducible refine gate_callee (f := 13) rfl ?_); refine goesL_ (some 10) rfl rfl Try.func13 (by kernel_rfl) rfl #[.int .u64 a0, .int .i64 a1, .int .i64 a2] rfl (by (try simp only [List.map_toArray, List.map_cons, List.map_nil]); first | done | rfl | (simp only [List.length_drop, List.length_take]; rfl)) ?_; (with_reducible refine (pontoonref30_Make.calls a0 a1 a2 t148 _ A4.out).mono ?_); rintro e w6 ⟨v149, rfl, ho0, hb⟩; refine ⟨_, rfl, ?_⟩; have n0_ := Aside0.mk (Kd.R_lower ho0 (below_size (by repeat (first | (with_reducible first | exact HB.out | apply below_alloc | apply pw_below_drewN | apply below_drew1) | exact HB.out)))); have n1_ := Aside0.mk (below_step (by repeat (first | (with_reducible first | exact HB.out | apply below_alloc | apply pw_below_drewN | apply below_drew1) | exact HB.out)) hb); clear HB; have HO150 := n0_; have HB := n1_; clear n0_ n1_; (try clear hb); (try clear hb2); (try clear hk); (try clear hi); (try clear ho0); obtain ⟨Ao7, co7, eo7⟩ := Kd.R_slice HO150.out; subst eo7) | ((with_reducible refine gate_callee (f := 20) rfl ?_); refine goesL_ (some 11) rfl rfl Try.func20 (by kernel_rfl) rfl #[.slice Ao7 t148.length co7] rfl (by (try simp only [List.map_toArray, List.map_cons, List.map_nil]); first | done | rfl | (simp only [List.length_drop, List.length_take]; rfl)) ?_; (with_reducible refine (pontoonref27_Show.calls k _ _ t148 t151 _ ?side1 ?side2 A5.out).mono ?_); (case side1 => repeat (first | exact (Kd.R_reads' HO150.out).2.2 | (with_reducible refine Kd.C_alloc ?_ _) | (with_reducible refine Kd.C_drewN ?_ _) | (with_reducible refine Kd.C_drew ?_))); (case side2 => exact (Kd.R_reads' HO150.out).2.1); rintro e w8 ⟨rfl, hb⟩; refine ⟨_, rfl, ?_⟩; have n0_ := Aside0.mk (Kd.R_below (by (with_reducible repeat (first | apply Kd.R_alloc | apply Kd.R_drewN | apply Kd.R_drew)); exact HO150.out) hb); have n1_ := Aside0.mk (below_step (by repeat (first | (with_reducible first | exact HB.out | apply below_alloc | apply pw_below_drewN | apply below_drew1) | exact HB.out)) hb); clear HO150; clear HB; have HO150 := n0_; have HB := n1_; clear n0_ n1_; (try clear hb); (try clear hb2); (try clear hk); (try clear hi)))
  go_ret
  exact ⟨by first | rfl | (simp [errW_none, errW_some] <;> rfl) | (simp [*, errW_none, errW_some] <;> rfl), by repeat (first | (with_reducible first | exact HB.out | apply below_alloc | apply pw_below_drewN | apply below_drew1) | exact HB.out)⟩

end Go.Proofs.Ytmgcmheiabmajab.Pr
