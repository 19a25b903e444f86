-- Written by a program of this session's (wip/ext/run.py) over the kit's print, with contracts of its own.
import Derived.Test.YthfchnoebncpfaaPux0
import Derived.Test.YthfchnoebncpfaaPux1
import Derived.Test.YthfchnoebncpfaaPux3
import Derived.Test.YthfchnoebncpfaaPux4
import Derived.Test.YthfchnoebncpfaaPux6
namespace Go.Proofs.Ythfchnoebncpfaa.Pu
open Go Go.Maps Go.Proofs.Ythfchnoebncpfaa Go.RowKit Go.Proofs.YthfchnoebncpfaaW.PrintWords Go.Proofs.YthfchnoebncpfaaW.PrintLast Go.Proofs.YthfchnoebncpfaaW.PrintMore
attribute [local go_sem] max2_int min2_int max_two min_two max_three min_three max_four min_four   -- for this text's walks alone
set_option linter.unusedVariables false
set_option linter.unusedSimpArgs false

/-! ### pontoonref04_Scan: function 28 -/
mutual
def pontoonref04_Scan.l0 : Nat → ByteArray → List (S33) → Int → Bool → Option ((List (S33)) × Int × Int)
  | 0, _, _, _, _ => none
  | k + 1, x0, x5, x6, x7 => if x6 < (x0.size : Int) then (pontoonref04_Scan.j1 k x0 x5 x6 x7 (!x7)) else (pontoonref04_Scan.j1 k x0 x5 x6 x7 false)
def pontoonref04_Scan.j1 : Nat → ByteArray → List (S33) → Int → Bool → Bool → Option ((List (S33)) × Int × Int)
  | 0, _, _, _, _, _ => none
  | k + 1, x0, x5, x6, x7, x28 => if x28 = true then ((pontoonref04_one.f k x0 x6).bind fun bt158 => (if bt158.2.2.2.2 = 0 then (if x5.length < 4398046511104 then ((pontoonref04_gap.f k x0 bt158.2.2.2.1).bind fun bt167 => (pontoonref04_Scan.l0 k x0 (x5 ++ [(⟨bt158.1, bt158.2.1, bt158.2.2.1⟩ : S33)]) bt167.1 bt167.2)) else (none)) else (some (([] : List (S33)), bt158.2.2.2.2, x6)))) else (if x7 = true then (some (([] : List (S33)), 6, x6)) else (some (x5, 0, 0)))
end
def pontoonref04_Scan.f (k : Nat) (a0 : ByteArray) : Option ((List (S33)) × Int × Int) := if (a0.size : Int) > 2000 then (some (([] : List (S33)), 2, 2000)) else ((pontoonref04_gap.f k a0 0).bind fun bt156 => (pontoonref04_Scan.l0 k a0 ([] : List (S33)) bt156.1 bt156.2))
theorem pontoonref04_Scan.mono_l : ∀ k, (∀ y0 y1 y2 y3, LeO (pontoonref04_Scan.l0 k y0 y1 y2 y3) (pontoonref04_Scan.l0 (k + 1) y0 y1 y2 y3)) ∧ (∀ y0 y1 y2 y3 y4, LeO (pontoonref04_Scan.j1 k y0 y1 y2 y3 y4) (pontoonref04_Scan.j1 (k + 1) y0 y1 y2 y3 y4))
  | 0 => ⟨fun _ _ _ _ r h => by simp [pontoonref04_Scan.l0] at h, fun _ _ _ _ _ r h => by simp [pontoonref04_Scan.j1] at h⟩
  | k + 1 => by
    obtain ⟨ih0, ih1⟩ := pontoonref04_Scan.mono_l k
    refine ⟨?_, ?_⟩
    · intro y0 y1 y2 y3
      unfold pontoonref04_Scan.l0
      repeat' first
      | (with_reducible exact ih0 _ _ _ _)
      | (with_reducible exact ih1 _ _ _ _ _)
      | (with_reducible exact pontoonref04_gap.mono _ _ _)
      | (with_reducible exact pontoonref04_one.mono _ _ _)
      | (with_reducible exact LeO.refl _)
      | (with_reducible exact LeO.none _)
      | (with_reducible refine LeO.ite ?_ ?_)
      | (with_reducible refine LeO.bind ?_ (fun _ => ?_))
      | exact ih0 _ _ _ _
      | exact ih1 _ _ _ _ _
      | exact pontoonref04_gap.mono _ _ _
      | exact pontoonref04_one.mono _ _ _
      | exact LeO.none _
      | refine LeO.ite ?_ ?_
      | refine LeO.bind ?_ (fun _ => ?_)
    · intro y0 y1 y2 y3 y4
      unfold pontoonref04_Scan.j1
      repeat' first
      | (with_reducible exact ih0 _ _ _ _)
      | (with_reducible exact ih1 _ _ _ _ _)
      | (with_reducible exact pontoonref04_gap.mono _ _ _)
      | (with_reducible exact pontoonref04_one.mono _ _ _)
      | (with_reducible exact LeO.refl _)
      | (with_reducible exact LeO.none _)
      | (with_reducible refine LeO.ite ?_ ?_)
      | (with_reducible refine LeO.bind ?_ (fun _ => ?_))
      | exact ih0 _ _ _ _
      | exact ih1 _ _ _ _ _
      | exact pontoonref04_gap.mono _ _ _
      | exact pontoonref04_one.mono _ _ _
      | exact LeO.none _
      | refine LeO.ite ?_ ?_
      | refine LeO.bind ?_ (fun _ => ?_)
theorem pontoonref04_Scan.mono : ∀ a0 k, LeO (pontoonref04_Scan.f k a0) (pontoonref04_Scan.f (k + 1) a0) := by
  intro a0 k
  obtain ⟨ih0, ih1⟩ := pontoonref04_Scan.mono_l k
  unfold pontoonref04_Scan.f
  repeat' first
      | (with_reducible exact ih0 _ _ _ _)
      | (with_reducible exact ih1 _ _ _ _ _)
      | (with_reducible exact pontoonref04_gap.mono _ _ _)
      | (with_reducible exact pontoonref04_one.mono _ _ _)
      | (with_reducible exact LeO.refl _)
      | (with_reducible exact LeO.none _)
      | (with_reducible refine LeO.ite ?_ ?_)
      | (with_reducible refine LeO.bind ?_ (fun _ => ?_))
      | exact ih0 _ _ _ _
      | exact ih1 _ _ _ _ _
      | exact pontoonref04_gap.mono _ _ _
      | exact pontoonref04_one.mono _ _ _
      | exact LeO.none _
      | refine LeO.ite ?_ ?_
      | refine LeO.bind ?_ (fun _ => ?_)
set_option maxHeartbeats 8000000 in
set_option maxRecDepth 100000 in
theorem pontoonref04_Scan.calls (k : Nat) (a0 : ByteArray) (r1 : List (S33)) (r2 : Int) (r3 : Int) (w : World) (h : pontoonref04_Scan.f k a0 = some (r1, r2, r3)) :
    Calls Try.prog 28 #[.string a0] w fun e w' => ∃ v0_ : Value, e = .returned (.tuple #[v0_, .int .i64 r2, .int .i64 r3]) ∧ Kd.R k33 33 w' w.heap.size (fun _ => True) v0_ r1 ∧ Below w.heap.size w w' := by
  have hu33 := Try.underlying33
  have HB := Aside0.mk (Below.refl w.heap.size w)
  have H : (if (a0.size : Int) > 2000 then (some (([] : List (S33)), 2, 2000)) else ((pontoonref04_gap.f k a0 0).bind fun bt156 => (pontoonref04_Scan.l0 k a0 ([] : List (S33)) bt156.1 bt156.2))) = some (r1, r2, r3) := h
  clear h
  by_cases c2 : (a0.size : Int) > 2000
  · rw [if_pos c2] at H
    have c2b0 : decide (2000 < (a0.size : Int)) = true := decide_eq_true c2
    have c2b1 : decide (2000 < a0.size) = true := decide_eq_true (by omega)
    clear c2
    simp only [Option.some.injEq, Prod.mk.injEq] at H
    obtain ⟨rfl, rfl, rfl⟩ := H
    go_enter Try.func28, Try.ntmps28
    go_wp2
    go_ret3
    exact ⟨_, by first | rfl | (simp [errW_none, errW_some] <;> rfl) | (simp [*, errW_none, errW_some] <;> rfl), by first | exact Kd.R_nil _ _ _ _ _ | exact Kd.N_nil _ _ _ _ _ | exact Kd.V_nil _ _ _ _ _ | exact Kd.Q_nil _ _ _ _ _ | exact Kd.S_nil _ _ _ _ _, by repeat (first | (with_reducible first | exact HB.out | apply below_alloc | apply pw_below_drewN | apply below_drew1) | exact HB.out)⟩
  · rw [if_neg c2] at H
    have c2b0 : decide (2000 < (a0.size : Int)) = false := decide_eq_false c2
    have c2b1 : decide (2000 < a0.size) = false := decide_eq_false (by omega)
    clear c2
    replace H := Option.bind_eq_some_iff.mp H
    obtain ⟨⟨t156, t157⟩, A30, H⟩ := H
    replace H : (pontoonref04_Scan.l0 k a0 ([] : List (S33)) t156 t157) = some (r1, r2, r3) := H
    have A3 := Aside0.mk A30
    clear A30
    have H' := Aside0.mk H
    clear H
    go_enter Try.func28, Try.ntmps28
    go_wp2_with (first | ((with_reducible refine gate_callee (f := 35) rfl ?_); refine goesL_ (some 18) rfl rfl Try.func35 (by kernel_rfl) rfl #[.string a0, .int .i64 0] rfl (by (try simp only [List.map_toArray, List.map_cons, List.map_nil]); first | done | rfl | (simp only [List.length_drop, List.length_take]; rfl)) ?_; (with_reducible refine (pontoonref04_gap.calls k a0 0 t156 t157 _ A3.out).mono ?_); rintro e w' ⟨rfl, ⟨nd, rfl⟩⟩; refine ⟨_, rfl, ?_⟩))
    go_loopg [5, 6, 7] k (fun kq v5 v6 v7 w' => ∃ (x5_1 : List (S33)) (x6_1 : Int) (x7_1 : Bool), v6 = .int .i64 x6_1 ∧ v7 = .bool x7_1 ∧ Aside0 (pontoonref04_Scan.l0 kq a0 x5_1 x6_1 x7_1 = some (r1, r2, r3)) ∧ Aside0 (kq ≤ k) ∧ Aside0 (Kd.R k33 33 w' w.heap.size (fun _ => True) v5 x5_1) ∧ Aside0 (Below w.heap.size w w'))
    case atStart => exact ⟨(([] : List (S33))), (t156), (t157), (by first | rfl | (simp; done) | (simp [*]; done)), (by first | rfl | (simp; done) | (simp [*]; done)), H', ⟨Nat.le_refl _⟩, ⟨by first | exact Kd.R_nil _ _ _ _ _ | exact Kd.N_nil _ _ _ _ _ | exact Kd.V_nil _ _ _ _ _ | exact Kd.Q_nil _ _ _ _ _ | exact Kd.S_nil _ _ _ _ _⟩, ⟨by repeat (first | (with_reducible first | exact HB.out | apply below_alloc | apply pw_below_drewN | apply below_drew1) | exact HB.out)⟩⟩
    case round =>
      clear H'
      try clear c2
      try clear c2b0
      try clear c2b1
      try clear p2
      try clear c3
      obtain ⟨x5_1, x6_1, x7_1, rfl, rfl, HA, HK1, HO_5, HB⟩ := hrel
      cases gk with
      | zero => exact absurd HA.out (by simp [pontoonref04_Scan.l0])
      | succ k1 =>
        have H := HA.out
        clear HA
        simp only [pontoonref04_Scan.l0] at H
        have HC4 := Aside0.mk H
        clear H
        go_upto_region 5 with (fail)
        go_cut [28] (fun v28 wc => ∃ (kq : Nat) (x28_3 : Bool), v28 = .bool x28_3 ∧ Aside0 (pontoonref04_Scan.j1 kq a0 x5_1 x6_1 x7_1 x28_3 = some (r1, r2, r3)) ∧ Aside0 (kq ≤ k1) ∧ Aside0 (Kd.R k33 33 wc w.heap.size (fun _ => True) u5 x5_1) ∧ Aside0 (Below w.heap.size w wc))
        case first =>
          have H := HC4.out
          clear HC4
          by_cases c5 : x6_1 < (a0.size : Int)
          · rw [if_pos c5] at H
            have c5b0 : decide (x6_1 < (a0.size : Int)) = true := decide_eq_true c5
            clear c5
            (first | rw [c5b0] | (simp only [i64_w, i32_w]; rw [c5b0]) | skip)
            have H' := Aside0.mk H
            clear H
            go_wp2
            go_meet
            case rel => exact ⟨_, (!x7_1), (by first | rfl | (simp; done) | (simp [*]; done)), H', ⟨by have := HK1.out; first | omega | exact Nat.le_refl _⟩, ⟨by (with_reducible repeat (first | apply Kd.R_alloc | apply Kd.R_drewN | apply Kd.R_drew)); exact HO_5.out⟩, ⟨by repeat (first | (with_reducible first | exact HB.out | apply below_alloc | apply pw_below_drewN | apply below_drew1) | exact HB.out)⟩⟩
          · rw [if_neg c5] at H
            have c5b0 : decide (x6_1 < (a0.size : Int)) = false := decide_eq_false c5
            clear c5
            (first | rw [c5b0] | (simp only [i64_w, i32_w]; rw [c5b0]) | skip)
            have H' := Aside0.mk H
            clear H
            go_wp2
            go_meet
            case rel => exact ⟨_, (false), (by first | rfl | (simp; done) | (simp [*]; done)), H', ⟨by have := HK1.out; first | omega | exact Nat.le_refl _⟩, ⟨by (with_reducible repeat (first | apply Kd.R_alloc | apply Kd.R_drewN | apply Kd.R_drew)); exact HO_5.out⟩, ⟨by repeat (first | (with_reducible first | exact HB.out | apply below_alloc | apply pw_below_drewN | apply below_drew1) | exact HB.out)⟩⟩
        case rest =>
          clear HC4
          try clear c2
          try clear c2b0
          try clear c2b1
          try clear p2
          try clear c3
          try clear c5
          try clear c5b0
          try clear p2
          obtain ⟨kq, x28_3, rfl, HA, HJ3, HO_5, HB⟩ := hcut
          cases kq with
          | zero => exact absurd HA.out (by simp [pontoonref04_Scan.j1])
          | succ kj3 =>
            have H := HA.out
            clear HA
            simp only [pontoonref04_Scan.j1] at H
            by_cases c6 : x28_3 = true
            · subst c6
              have H1 : ((pontoonref04_one.f kj3 a0 x6_1).bind fun bt158 => (if bt158.2.2.2.2 = 0 then (if x5_1.length < 4398046511104 then ((pontoonref04_gap.f kj3 a0 bt158.2.2.2.1).bind fun bt167 => (pontoonref04_Scan.l0 kj3 a0 (x5_1 ++ [(⟨bt158.1, bt158.2.1, bt158.2.2.1⟩ : S33)]) bt167.1 bt167.2)) else (none)) else (some (([] : List (S33)), bt158.2.2.2.2, x6_1)))) = some (r1, r2, r3) := by rw [if_pos rfl] at H; exact H
              clear H
              have H := H1
              clear H1
              replace H := Option.bind_eq_some_iff.mp H
              obtain ⟨⟨t158, t159, t160, t161, t162⟩, A70, H⟩ := H
              replace H : (if t162 = 0 then (if x5_1.length < 4398046511104 then ((pontoonref04_gap.f kj3 a0 t161).bind fun bt167 => (pontoonref04_Scan.l0 kj3 a0 (x5_1 ++ [(⟨t158, t159, t160⟩ : S33)]) bt167.1 bt167.2)) else (none)) else (some (([] : List (S33)), t162, x6_1))) = some (r1, r2, r3) := H
              have A7 := Aside0.mk A70
              clear A70
              by_cases c8 : t162 = 0
              · rw [if_pos c8] at H
                have c8b0 : (t162 == 0) = true := beq_iff_eq.mpr c8
                have c8b1 : (t162 != 0) = false := bne_eq_false_iff_eq.mpr c8
                clear c8
                by_cases c9 : x5_1.length < 4398046511104
                · rw [if_pos c9] at H
                  have LMc9 := Aside0.mk c9
                  clear c9
                  obtain ⟨y164, hy164⟩ : ∃ y_ : List (S33), y_ = (x5_1 ++ [(⟨t158, t159, t160⟩ : S33)]) := ⟨_, rfl⟩
                  replace H : ((pontoonref04_gap.f kj3 a0 t161).bind fun bt167 => (pontoonref04_Scan.l0 kj3 a0 y164 bt167.1 bt167.2)) = some (r1, r2, r3) := by first | (rw [hy164]; with_reducible exact H) | (have H2_ := (Option.bind_some _ _).symm.trans H; rw [hy164]; with_reducible exact H2_) | (have H2_ := (Option.bind_some _ _).symm.trans H; with_reducible exact H2_) | with_reducible exact H | (rw [hy164]; exact H) | exact H
                  have Ny164 := Aside0.mk hy164
                  clear hy164
                  replace H := Option.bind_eq_some_iff.mp H
                  obtain ⟨⟨t167, t168⟩, A100, H⟩ := H
                  replace H : (pontoonref04_Scan.l0 kj3 a0 y164 t167 t168) = some (r1, r2, r3) := H
                  have A10 := Aside0.mk A100
                  clear A100
                  have H' := Aside0.mk H
                  clear H
                  go_wp2_with (first | ((with_reducible refine gate_callee (f := 36) rfl ?_); refine goesL_ (some 32) rfl rfl Try.func36 (by kernel_rfl) rfl #[.string a0, .int .i64 x6_1] rfl (by (try simp only [List.map_toArray, List.map_cons, List.map_nil]); first | done | rfl | (simp only [List.length_drop, List.length_take]; rfl)) ?_; (with_reducible refine (pontoonref04_one.calls kj3 a0 x6_1 t158 t159 t160 t161 t162 _ A7.out).mono ?_); rintro e w11 ⟨rfl, hb⟩; refine ⟨_, rfl, ?_⟩; have n0_ := Aside0.mk (Kd.R_below (by (with_reducible repeat (first | apply Kd.R_alloc | apply Kd.R_drewN | apply Kd.R_drew)); exact HO_5.out) hb); have n1_ := Aside0.mk (below_step (by repeat (first | (with_reducible first | exact HB.out | apply below_alloc | apply pw_below_drewN | apply below_drew1) | exact HB.out)) hb); clear HO_5; clear HB; have HO_5 := n0_; have HB := n1_; clear n0_ n1_; (try clear hb); (try clear hb2); (try clear hk); (try clear hi)) | ((with_reducible refine gate_dst (N := 8) rfl ?_); refine box_event ?hg (N := 8) ?hd (cs := #[.int .i64 0, .string (⟨#[]⟩ : ByteArray), .int .i64 0]) (t := 33) ?hr ?_; (case hd => rfl); (case hg => rfl); (case hr => first | (go_simp; done) | (go_simp; rfl)); intro gb163 hg w12 hbox hb; have n0_ := Aside0.mk (Kd.R_below (Kd.R_elderB (by (with_reducible repeat (first | apply Kd.R_alloc | apply Kd.R_drewN | apply Kd.R_drew)); exact HO_5.out) gb163 (Nat.le_of_eq hg.symm)) hb); have n1_ := Aside0.mk (below_step (by repeat (first | (with_reducible first | exact HB.out | apply below_alloc | apply pw_below_drewN | apply below_drew1) | exact HB.out)) hb); have n2_ := Aside0.mk (hbox); have n3_ := Aside0.mk ((by rw [hg]; exact (below_size (by repeat (first | (with_reducible first | exact HB.out | apply below_alloc | apply pw_below_drewN | apply below_drew1) | exact HB.out))) : w.heap.size ≤ gb163)); have n4_ := Aside0.mk ((by rw [hg]; exact (below_size (by repeat (first | (with_reducible first | exact HB.out | apply below_alloc | apply pw_below_drewN | apply below_drew1) | exact HB.out))) : w.heap.size ≤ gb163)); clear HO_5; clear HB; have HO_5 := n0_; have HB := n1_; have BK163 := n2_; have GW163 := n3_; have GE163 := n4_; clear n0_ n1_ n2_ n3_ n4_; clear hb hbox hg; have hcz13_0 : w12.cell? ⟨gb163, 0, none⟩ = some (.int .i64 0) := (blk_cell BK163.out 0).trans rfl; have hcz13_1 : w12.cell? ⟨gb163, 1, none⟩ = some (.string (⟨#[]⟩ : ByteArray)) := (blk_cell BK163.out 1).trans rfl; have hcz13_2 : w12.cell? ⟨gb163, 2, none⟩ = some (.int .i64 0) := (blk_cell BK163.out 2).trans rfl; have hfz13_0 := blk_frozen BK163.out 0; have hfz13_1 := blk_frozen BK163.out 1; have hfz13_2 := blk_frozen BK163.out 2) | ((with_reducible refine gate_builtin (b := .append) (xs := #[.tmp 40, .tmp 42]) rfl ?_); at_builtin; refine Kd.R_append k33 (w0 := w) w.heap.size rfl (.tmp 40) (.tmp 42) 22 33 (.agg #[(.int .i64 0), (.string ⟨#[]⟩), (.int .i64 0)]) 32 rfl Try.underlying22 info33 rfl (by decide) (by omega) u5 x5_1 (⟨t158, t159, t160⟩ : S33) [.int .i64 t158, .string t159, .int .i64 t160] (fun k_ => k_ ≠ gb163) (fun _ => False) rfl (by first | (go_simp; done) | (go_simp; rfl)) ?aP (fun _ hk => hk.elim) ?aF ?aO ?aB ?aS ?aL ?_; (case aP => exact k33_mkM _ _ _ (⟨t158, t159, t160⟩ : S33)); (case aB => exact (by repeat (first | (with_reducible first | exact HB.out | apply below_alloc | apply pw_below_drewN | apply below_drew1 | refine below_set ?_ GE163.out) | exact HB.out))); (case aF => exact (fun k_ hk => Kd.freshB (g := gb163) (o := .cells #[.int .i64 t158, .string t159, .int .i64 t160] 33 (0, 0)) (by (with_reducible repeat (first | refine blk_drewN ?_ _ | refine blk_drew ?_ | refine blk_alloc ?_ _)); refine blk_put (cs := #[.int .i64 t158, .string t159, .int .i64 0]) ?_ 2 _ rfl; (with_reducible repeat (first | refine blk_drewN ?_ _ | refine blk_drew ?_ | refine blk_alloc ?_ _)); refine blk_put (cs := #[.int .i64 t158, .string (⟨#[]⟩ : ByteArray), .int .i64 0]) ?_ 1 _ rfl; (with_reducible repeat (first | refine blk_drewN ?_ _ | refine blk_drew ?_ | refine blk_alloc ?_ _)); refine blk_put (cs := #[.int .i64 0, .string (⟨#[]⟩ : ByteArray), .int .i64 0]) ?_ 0 _ rfl; (with_reducible repeat (first | refine blk_drewN ?_ _ | refine blk_drew ?_ | refine blk_alloc ?_ _)); exact BK163.out) k_ hk)); (case aO => exact (by (with_reducible repeat (first | apply Kd.R_alloc | apply Kd.R_drewN | apply Kd.R_drew)); exact Kd.R_mono (Kd.R_far (p := ⟨gb163, 2, none⟩) (Kd.R_far (p := ⟨gb163, 1, none⟩) (Kd.R_far (p := ⟨gb163, 0, none⟩) (Kd.R_mono HO_5.out (fun k_ hk => (⟨hk, hk.2⟩ : _ ∧ k_ ≠ gb163))) (fun _ hk => hk.2) (.int .i64 t158)) (fun _ hk => hk.2) (.string t159)) (fun _ hk => hk.2) (.int .i64 t160)) (fun _ hk => hk.1.2))); (case aS => exact (below_size (by repeat (first | (with_reducible first | exact HB.out | apply below_alloc | apply pw_below_drewN | apply below_drew1 | refine below_set ?_ GE163.out) | exact HB.out)))); (case aL => have := LMc9.out; omega); intro v165 w14 ho hb hg hat; rw [← Ny164.out] at ho; have n0_ := Aside0.mk (blk_grown (g := gb163) (o := .cells #[.int .i64 t158, .string t159, .int .i64 t160] 33 (0, 0)) (by (with_reducible repeat (first | refine blk_drewN ?_ _ | refine blk_drew ?_ | refine blk_alloc ?_ _)); refine blk_put (cs := #[.int .i64 t158, .string t159, .int .i64 0]) ?_ 2 _ rfl; (with_reducible repeat (first | refine blk_drewN ?_ _ | refine blk_drew ?_ | refine blk_alloc ?_ _)); refine blk_put (cs := #[.int .i64 t158, .string (⟨#[]⟩ : ByteArray), .int .i64 0]) ?_ 1 _ rfl; (with_reducible repeat (first | refine blk_drewN ?_ _ | refine blk_drew ?_ | refine blk_alloc ?_ _)); refine blk_put (cs := #[.int .i64 0, .string (⟨#[]⟩ : ByteArray), .int .i64 0]) ?_ 0 _ rfl; (with_reducible repeat (first | refine blk_drewN ?_ _ | refine blk_drew ?_ | refine blk_alloc ?_ _)); exact BK163.out) hg (Kd.R_away HO_5.out (fun _ hk => hk.2))); have n1_ := Aside0.mk (hb); have n2_ := Aside0.mk (ho); clear BK163; clear HB; clear HO_5; have BK163 := n0_; have HB := n1_; have HO166 := n2_; clear n0_ n1_ n2_; clear ho hb hg hat) | ((with_reducible refine gate_callee (f := 35) rfl ?_); refine goesL_ (some 47) rfl rfl Try.func35 (by kernel_rfl) rfl #[.string a0, .int .i64 t161] rfl (by (try simp only [List.map_toArray, List.map_cons, List.map_nil]); first | done | rfl | (simp only [List.length_drop, List.length_take]; rfl)) ?_; (with_reducible refine (pontoonref04_gap.calls kj3 a0 t161 t167 t168 _ A10.out).mono ?_); rintro e w' ⟨rfl, ⟨nd, rfl⟩⟩; refine ⟨_, rfl, ?_⟩))
                  go_roundg kj3
                  case measure => have := HK1.out; have := HJ3.out; omega
                  case rel => exact ⟨(y164), (t167), (t168), (by first | rfl | (simp; done) | (simp [*]; done)), (by first | rfl | (simp; done) | (simp [*]; done)), H', ⟨by have := HK1.out; have := HJ3.out; omega⟩, ⟨by (with_reducible repeat (first | apply Kd.R_alloc | apply Kd.R_drewN | apply Kd.R_drew)); exact Kd.R_mono HO166.out (fun _ hk => trivial)⟩, ⟨by repeat (first | (with_reducible first | exact HB.out | apply below_alloc | apply pw_below_drewN | apply below_drew1 | refine below_set ?_ GE163.out) | exact HB.out)⟩⟩
                · rw [if_neg c9] at H
                  exact absurd H (by simp)
              · rw [if_neg c8] at H
                have c8b0 : (t162 == 0) = false := beq_eq_false_iff_ne.mpr c8
                have c8b1 : (t162 != 0) = true := bne_iff_ne.mpr c8
                simp only [Option.some.injEq, Prod.mk.injEq] at H
                obtain ⟨rfl, rfl, rfl⟩ := H
                go_wp2_with (first | ((with_reducible refine gate_callee (f := 36) rfl ?_); refine goesL_ (some 32) rfl rfl Try.func36 (by kernel_rfl) rfl #[.string a0, .int .i64 x6_1] rfl (by (try simp only [List.map_toArray, List.map_cons, List.map_nil]); first | done | rfl | (simp only [List.length_drop, List.length_take]; rfl)) ?_; (with_reducible refine (pontoonref04_one.calls kj3 a0 x6_1 t158 t159 t160 t161 t162 _ A7.out).mono ?_); rintro e w15 ⟨rfl, hb⟩; refine ⟨_, rfl, ?_⟩; have n0_ := Aside0.mk (Kd.R_below (by (with_reducible repeat (first | apply Kd.R_alloc | apply Kd.R_drewN | apply Kd.R_drew)); exact HO_5.out) hb); have n1_ := Aside0.mk (below_step (by repeat (first | (with_reducible first | exact HB.out | apply below_alloc | apply pw_below_drewN | apply below_drew1) | exact HB.out)) hb); clear HO_5; clear HB; have HO_5 := n0_; have HB := n1_; clear n0_ n1_; (try clear hb); (try clear hb2); (try clear hk); (try clear hi)) | ((with_reducible refine gate_dst (N := 8) rfl ?_); refine box_event ?hg (N := 8) ?hd (cs := #[.int .i64 0, .string (⟨#[]⟩ : ByteArray), .int .i64 0]) (t := 33) ?hr ?_; (case hd => rfl); (case hg => rfl); (case hr => first | (go_simp; done) | (go_simp; rfl)); intro gb163 hg w16 hbox hb; have n0_ := Aside0.mk (Kd.R_below (Kd.R_elderB (by (with_reducible repeat (first | apply Kd.R_alloc | apply Kd.R_drewN | apply Kd.R_drew)); exact HO_5.out) gb163 (Nat.le_of_eq hg.symm)) hb); have n1_ := Aside0.mk (below_step (by repeat (first | (with_reducible first | exact HB.out | apply below_alloc | apply pw_below_drewN | apply below_drew1) | exact HB.out)) hb); have n2_ := Aside0.mk (hbox); have n3_ := Aside0.mk ((by rw [hg]; exact (below_size (by repeat (first | (with_reducible first | exact HB.out | apply below_alloc | apply pw_below_drewN | apply below_drew1) | exact HB.out))) : w.heap.size ≤ gb163)); have n4_ := Aside0.mk ((by rw [hg]; exact (below_size (by repeat (first | (with_reducible first | exact HB.out | apply below_alloc | apply pw_below_drewN | apply below_drew1) | exact HB.out))) : w.heap.size ≤ gb163)); clear HO_5; clear HB; have HO_5 := n0_; have HB := n1_; have BK163 := n2_; have GW163 := n3_; have GE163 := n4_; clear n0_ n1_ n2_ n3_ n4_; clear hb hbox hg; have hcz17_0 : w16.cell? ⟨gb163, 0, none⟩ = some (.int .i64 0) := (blk_cell BK163.out 0).trans rfl; have hcz17_1 : w16.cell? ⟨gb163, 1, none⟩ = some (.string (⟨#[]⟩ : ByteArray)) := (blk_cell BK163.out 1).trans rfl; have hcz17_2 : w16.cell? ⟨gb163, 2, none⟩ = some (.int .i64 0) := (blk_cell BK163.out 2).trans rfl; have hfz17_0 := blk_frozen BK163.out 0; have hfz17_1 := blk_frozen BK163.out 1; have hfz17_2 := blk_frozen BK163.out 2))
                go_ret3
                exact ⟨_, by first | rfl | (simp [errW_none, errW_some] <;> rfl) | (simp [*, errW_none, errW_some] <;> rfl), by first | exact Kd.R_nil _ _ _ _ _ | exact Kd.N_nil _ _ _ _ _ | exact Kd.V_nil _ _ _ _ _ | exact Kd.Q_nil _ _ _ _ _ | exact Kd.S_nil _ _ _ _ _, by repeat (first | (with_reducible first | exact HB.out | apply below_alloc | apply pw_below_drewN | apply below_drew1 | refine below_set ?_ GE163.out) | exact HB.out)⟩
            · replace c6 := Bool.eq_false_iff.mpr c6
              subst c6
              have H1 : (if x7_1 = true then (some (([] : List (S33)), 6, x6_1)) else (some (x5_1, 0, 0))) = some (r1, r2, r3) := by rw [if_neg (show ¬ (false = true) by decide)] at H; exact H
              clear H
              have H := H1
              clear H1
              by_cases c18 : x7_1 = true
              · subst c18
                have H1 : (some (([] : List (S33)), 6, x6_1)) = some (r1, r2, r3) := by rw [if_pos rfl] at H; exact H
                clear H
                have H := H1
                clear H1
                simp only [Option.some.injEq, Prod.mk.injEq] at H
                obtain ⟨rfl, rfl, rfl⟩ := H
                go_wp2
                go_ret3
                exact ⟨_, by first | rfl | (simp [errW_none, errW_some] <;> rfl) | (simp [*, errW_none, errW_some] <;> rfl), by first | exact Kd.R_nil _ _ _ _ _ | exact Kd.N_nil _ _ _ _ _ | exact Kd.V_nil _ _ _ _ _ | exact Kd.Q_nil _ _ _ _ _ | exact Kd.S_nil _ _ _ _ _, by repeat (first | (with_reducible first | exact HB.out | apply below_alloc | apply pw_below_drewN | apply below_drew1) | exact HB.out)⟩
              · replace c18 := Bool.eq_false_iff.mpr c18
                subst c18
                have H1 : (some (x5_1, 0, 0)) = some (r1, r2, r3) := by rw [if_neg (show ¬ (false = true) by decide)] at H; exact H
                clear H
                have H := H1
                clear H1
                simp only [Option.some.injEq, Prod.mk.injEq] at H
                obtain ⟨rfl, rfl, rfl⟩ := H
                go_wp2
                go_ret3
                exact ⟨_, by first | rfl | (simp [errW_none, errW_some] <;> rfl) | (simp [*, errW_none, errW_some] <;> rfl), by (with_reducible repeat (first | apply Kd.R_alloc | apply Kd.R_drewN | apply Kd.R_drew)); exact HO_5.out, by repeat (first | (with_reducible first | exact HB.out | apply below_alloc | apply pw_below_drewN | apply below_drew1) | exact HB.out)⟩

/-! ### pontoonlaw06_tokens: function 12 -/
def pontoonlaw06_tokens.f (k : Nat) (a0 : ByteArray) : Option ((List (S33))) := (pontoonref04_Scan.f k a0).bind fun bt169 => (some bt169.1)
theorem pontoonlaw06_tokens.mono : ∀ a0 k, LeO (pontoonlaw06_tokens.f k a0) (pontoonlaw06_tokens.f (k + 1) a0) := by
  intro a0 k
  unfold pontoonlaw06_tokens.f
  repeat' first
      | (with_reducible exact pontoonref04_Scan.mono _ _)
      | (with_reducible exact LeO.refl _)
      | (with_reducible exact LeO.none _)
      | (with_reducible refine LeO.ite ?_ ?_)
      | (with_reducible refine LeO.bind ?_ (fun _ => ?_))
      | exact pontoonref04_Scan.mono _ _
      | exact LeO.none _
      | refine LeO.ite ?_ ?_
      | refine LeO.bind ?_ (fun _ => ?_)
set_option maxHeartbeats 8000000 in
set_option maxRecDepth 100000 in
theorem pontoonlaw06_tokens.calls (k : Nat) (a0 : ByteArray) (r : List (S33)) (w : World) (h : pontoonlaw06_tokens.f k a0 = some r) :
    Calls Try.prog 12 #[.string a0] w fun e w' => ∃ v0_ : Value, e = .returned (v0_) ∧ Kd.R k33 33 w' w.heap.size (fun _ => True) v0_ r ∧ Below w.heap.size w w' := by
  have HB := Aside0.mk (Below.refl w.heap.size w)
  have H : ((pontoonref04_Scan.f k a0).bind fun bt169 => (some bt169.1)) = some r := h
  clear h
  replace H := Option.bind_eq_some_iff.mp H
  obtain ⟨⟨t169, t170, t171⟩, A20, H⟩ := H
  replace H : (some t169) = some r := H
  have A2 := Aside0.mk A20
  clear A20
  obtain rfl := Option.some.inj H
  go_enter Try.func12, Try.ntmps12
  go_wp2_with (first | ((with_reducible refine gate_callee (f := 28) rfl ?_); refine goesL_ (some 8) rfl rfl Try.func28 (by kernel_rfl) rfl #[.string a0] rfl (by (try simp only [List.map_toArray, List.map_cons, List.map_nil]); first | done | rfl | (simp only [List.length_drop, List.length_take]; rfl)) ?_; (with_reducible refine (pontoonref04_Scan.calls k a0 t169 t170 t171 _ A2.out).mono ?_); rintro e w3 ⟨v172, rfl, ho0, hb⟩; refine ⟨_, rfl, ?_⟩; have n0_ := Aside0.mk (Kd.R_lower ho0 (below_size (by repeat (first | (with_reducible first | exact HB.out | apply below_alloc | apply pw_below_drewN | apply below_drew1) | exact HB.out)))); have n1_ := Aside0.mk (below_step (by repeat (first | (with_reducible first | exact HB.out | apply below_alloc | apply pw_below_drewN | apply below_drew1) | exact HB.out)) hb); clear HB; have HO173 := n0_; have HB := n1_; clear n0_ n1_; (try clear hb); (try clear hb2); (try clear hk); (try clear hi); (try clear ho0)))
  go_ret
  exact ⟨_, by first | rfl | (simp [errW_none, errW_some] <;> rfl) | (simp [*, errW_none, errW_some] <;> rfl), by (with_reducible repeat (first | apply Kd.R_alloc | apply Kd.R_drewN | apply Kd.R_drew)); exact HO173.out, by repeat (first | (with_reducible first | exact HB.out | apply below_alloc | apply pw_below_drewN | apply below_drew1) | exact HB.out)⟩

/-! ### class_Has: function 13 -/
def class_Has.l0 : Nat → List ByteArray → List (S33) → Int → Int → Option (Bool)
  | 0, _, _, _, _ => none
  | k + 1, x1, x7, x8, x9 => if x9 < x8 then (if 0 ≤ x9 then (if x9 < (x7.length : Int) then (if ((rd_T33 x7 x9).f0) = 1 then ((class_in.f k ((rd_T33 x7 x9).f1) x1).bind fun t176 => (if t176 = true then (some true) else (class_Has.l0 k x1 x7 x8 (wrap64 (x9 + 1))))) else (class_Has.l0 k x1 x7 x8 (wrap64 (x9 + 1)))) else (none)) else (none)) else (some false)
def class_Has.f (k : Nat) (l0 : List (S33)) (l1 : List ByteArray) : Option (Bool) := class_Has.l0 k l1 l0 (l0.length : Int) 0
theorem class_Has.mono_l : ∀ k, (∀ y0 y1 y2 y3, LeO (class_Has.l0 k y0 y1 y2 y3) (class_Has.l0 (k + 1) y0 y1 y2 y3))
  | 0 => fun _ _ _ _ r h => by simp [class_Has.l0] at h
  | k + 1 => by
    have ih0 := class_Has.mono_l k
    · intro y0 y1 y2 y3
      unfold class_Has.l0
      repeat' first
      | (with_reducible exact ih0 _ _ _ _)
      | (with_reducible exact class_in.mono _ _ _)
      | (with_reducible exact LeO.refl _)
      | (with_reducible exact LeO.none _)
      | (with_reducible refine LeO.ite ?_ ?_)
      | (with_reducible refine LeO.bind ?_ (fun _ => ?_))
      | exact ih0 _ _ _ _
      | exact class_in.mono _ _ _
      | exact LeO.none _
      | refine LeO.ite ?_ ?_
      | refine LeO.bind ?_ (fun _ => ?_)
theorem class_Has.mono : ∀ a0 a1 k, LeO (class_Has.f k a0 a1) (class_Has.f (k + 1) a0 a1) := by
  intro a0 a1 k
  have ih0 := class_Has.mono_l k
  unfold class_Has.f
  repeat' first
      | (with_reducible exact ih0 _ _ _ _)
      | (with_reducible exact class_in.mono _ _ _)
      | (with_reducible exact LeO.refl _)
      | (with_reducible exact LeO.none _)
      | (with_reducible refine LeO.ite ?_ ?_)
      | (with_reducible refine LeO.bind ?_ (fun _ => ?_))
      | exact ih0 _ _ _ _
      | exact class_in.mono _ _ _
      | exact LeO.none _
      | refine LeO.ite ?_ ?_
      | refine LeO.bind ?_ (fun _ => ?_)
set_option maxHeartbeats 8000000 in
set_option maxRecDepth 100000 in
theorem class_Has.calls (k : Nat) (A0 : Option Addr) (c0 : Nat) (l0 : List (S33)) (A1 : Option Addr) (c1 : Nat) (l1 : List ByteArray) (r : Bool) (w : World) (hr0 : Kd.C k33 w A0 l0.length l0) (hc0 : l0.length ≤ c0) (hr1 : Kd.C Kd.string w A1 l1.length l1) (hc1 : l1.length ≤ c1) (h : class_Has.f k l0 l1 = some r) :
    Calls Try.prog 13 #[.slice A0 l0.length c0, .slice A1 l1.length c1] w fun e w' => e = .returned (.bool r) ∧ Below w.heap.size w w' := by
  have hu33 := Try.underlying33
  have HR0 := Aside0.mk hr0
  have HC0 := Aside0.mk hc0
  clear hr0 hc0
  have HR1 := Aside0.mk hr1
  have HC1 := Aside0.mk hc1
  clear hr1 hc1
  have HB := Aside0.mk (Below.refl w.heap.size w)
  have H : (class_Has.l0 k l1 l0 (l0.length : Int) 0) = some r := h
  clear h
  have H' := Aside0.mk H
  clear H
  go_enter Try.func13, Try.ntmps13
  go_wp2
  go_loopg [9] k (fun kq v9 w' => ∃ (x9_1 : Int), v9 = .int .i64 x9_1 ∧ Aside0 (class_Has.l0 kq l1 l0 (l0.length : Int) x9_1 = some r) ∧ Aside0 (kq ≤ k) ∧ Aside0 (Below w.heap.size w w'))
  case atStart => exact ⟨(0), (by first | rfl | (simp; done) | (simp [*]; done)), H', ⟨Nat.le_refl _⟩, ⟨by repeat (first | (with_reducible first | exact HB.out | apply below_alloc | apply pw_below_drewN | apply below_drew1) | exact HB.out)⟩⟩
  case round =>
    clear H'
    try clear c1
    try clear p2
    obtain ⟨x9_1, rfl, HA, HK1, HB⟩ := hrel
    cases gk with
    | zero => exact absurd HA.out (by simp [class_Has.l0])
    | succ k1 =>
      have H := HA.out
      clear HA
      simp only [class_Has.l0] at H
      by_cases c3 : x9_1 < (l0.length : Int)
      · rw [if_pos c3] at H
        have c3b0 : decide (x9_1 < (l0.length : Int)) = true := decide_eq_true c3
        clear c3
        by_cases c4 : 0 ≤ x9_1
        · rw [if_pos c4] at H
          have c4b0 : decide (0 ≤ x9_1) = true := decide_eq_true c4
          clear c4
          by_cases c5 : x9_1 < (l0.length : Int)
          · rw [if_pos c5] at H
            have c5b0 : decide (x9_1 < (l0.length : Int)) = true := decide_eq_true c5
            clear c5
            by_cases c6 : ((rd_T33 l0 x9_1).f0) = 1
            · rw [if_pos c6] at H
              have c6b0 : (((rd_T33 l0 x9_1).f0) == 1) = true := beq_iff_eq.mpr c6
              have c6b1 : (((rd_T33 l0 x9_1).f0) != 1) = false := bne_eq_false_iff_eq.mpr c6
              clear c6
              replace H := Option.bind_eq_some_iff.mp H
              obtain ⟨t176, A70, H⟩ := H
              replace H : (if t176 = true then (some true) else (class_Has.l0 k1 l1 l0 (l0.length : Int) (wrap64 (x9_1 + 1)))) = some r := H
              have A7 := Aside0.mk A70
              clear A70
              by_cases c8 : t176 = true
              · subst c8
                have H1 : (some true) = some r := by rw [if_pos rfl] at H; exact H
                clear H
                have H := H1
                clear H1
                obtain rfl := Option.some.inj H
                have p174 : 0 ≤ (x9_1 : Int) := of_decide_eq_true (by first | (with_reducible assumption) | assumption)
                have q174 : x9_1 < (l0.length : Int) := of_decide_eq_true (by first | (with_reducible assumption) | assumption)
                obtain ⟨ad174, e174, hx174_0, hx174_1, hx174_2⟩ := at_T33 HR0.out x9_1 p174 q174
                cases e174
                replace hx174_0 := (HB.out.cell (World.block_lt_of_cell? w _ hx174_0)).trans hx174_0
                replace hx174_1 := (HB.out.cell (World.block_lt_of_cell? w _ hx174_1)).trans hx174_1
                replace hx174_2 := (HB.out.cell (World.block_lt_of_cell? w _ hx174_2)).trans hx174_2
                have q174n := q174
                replace p174 := eq_true p174
                replace q174 := eq_true q174
                go_wp2_with (first | ((with_reducible refine gate_dst (N := 6) rfl ?_); refine box_event ?hg (N := 6) ?hd (cs := #[.int .i64 0, .string (⟨#[]⟩ : ByteArray), .int .i64 0]) (t := 33) ?hr ?_; (case hd => rfl); (case hg => rfl); (case hr => first | (go_simp; done) | (go_simp; rfl)); intro gb175 hg w9 hbox hb; have n0_ := Aside0.mk (below_step (by repeat (first | (with_reducible first | exact HB.out | apply below_alloc | apply pw_below_drewN | apply below_drew1) | exact HB.out)) hb); have n1_ := Aside0.mk (hbox); have n2_ := Aside0.mk ((by rw [hg]; exact (below_size (by repeat (first | (with_reducible first | exact HB.out | apply below_alloc | apply pw_below_drewN | apply below_drew1) | exact HB.out))) : w.heap.size ≤ gb175)); have n3_ := Aside0.mk ((by rw [hg]; exact (below_size (by repeat (first | (with_reducible first | exact HB.out | apply below_alloc | apply pw_below_drewN | apply below_drew1) | exact HB.out))) : w.heap.size ≤ gb175)); clear HB; have HB := n0_; have BK175 := n1_; have GW175 := n2_; have GE175 := n3_; clear n0_ n1_ n2_ n3_; clear hb hbox hg; have hcz10_0 : w9.cell? ⟨gb175, 0, none⟩ = some (.int .i64 0) := (blk_cell BK175.out 0).trans rfl; have hcz10_1 : w9.cell? ⟨gb175, 1, none⟩ = some (.string (⟨#[]⟩ : ByteArray)) := (blk_cell BK175.out 1).trans rfl; have hcz10_2 : w9.cell? ⟨gb175, 2, none⟩ = some (.int .i64 0) := (blk_cell BK175.out 2).trans rfl; have hfz10_0 := blk_frozen BK175.out 0; have hfz10_1 := blk_frozen BK175.out 1; have hfz10_2 := blk_frozen BK175.out 2) | (go_at_call 23; (with_reducible refine (class_in.calls k1 ((rd_T33 l0 x9_1).f1) _ _ l1 true _ ?side1 ?side2 A7.out).mono ?_); (case side1 => exact Kd.C_below HR1.out (by repeat (first | (with_reducible first | exact HB.out | apply below_alloc | apply pw_below_drewN | apply below_drew1 | refine below_set ?_ GE175.out) | exact HB.out))); (case side2 => exact HC1.out); rintro e w' ⟨rfl, ⟨nd, rfl⟩⟩))
                go_ret
                exact ⟨by first | rfl | (simp [errW_none, errW_some] <;> rfl) | (simp [*, errW_none, errW_some] <;> rfl), by repeat (first | (with_reducible first | exact HB.out | apply below_alloc | apply pw_below_drewN | apply below_drew1 | refine below_set ?_ GE175.out) | exact HB.out)⟩
              · replace c8 := Bool.eq_false_iff.mpr c8
                subst c8
                have H1 : (class_Has.l0 k1 l1 l0 (l0.length : Int) (wrap64 (x9_1 + 1))) = some r := by rw [if_neg (show ¬ (false = true) by decide)] at H; exact H
                clear H
                have H := H1
                clear H1
                have H' := Aside0.mk H
                clear H
                have p174 : 0 ≤ (x9_1 : Int) := of_decide_eq_true (by first | (with_reducible assumption) | assumption)
                have q174 : x9_1 < (l0.length : Int) := of_decide_eq_true (by first | (with_reducible assumption) | assumption)
                obtain ⟨ad174, e174, hx174_0, hx174_1, hx174_2⟩ := at_T33 HR0.out x9_1 p174 q174
                cases e174
                replace hx174_0 := (HB.out.cell (World.block_lt_of_cell? w _ hx174_0)).trans hx174_0
                replace hx174_1 := (HB.out.cell (World.block_lt_of_cell? w _ hx174_1)).trans hx174_1
                replace hx174_2 := (HB.out.cell (World.block_lt_of_cell? w _ hx174_2)).trans hx174_2
                have q174n := q174
                replace p174 := eq_true p174
                replace q174 := eq_true q174
                go_wp2_with (first | ((with_reducible refine gate_dst (N := 6) rfl ?_); refine box_event ?hg (N := 6) ?hd (cs := #[.int .i64 0, .string (⟨#[]⟩ : ByteArray), .int .i64 0]) (t := 33) ?hr ?_; (case hd => rfl); (case hg => rfl); (case hr => first | (go_simp; done) | (go_simp; rfl)); intro gb175 hg w11 hbox hb; have n0_ := Aside0.mk (below_step (by repeat (first | (with_reducible first | exact HB.out | apply below_alloc | apply pw_below_drewN | apply below_drew1) | exact HB.out)) hb); have n1_ := Aside0.mk (hbox); have n2_ := Aside0.mk ((by rw [hg]; exact (below_size (by repeat (first | (with_reducible first | exact HB.out | apply below_alloc | apply pw_below_drewN | apply below_drew1) | exact HB.out))) : w.heap.size ≤ gb175)); have n3_ := Aside0.mk ((by rw [hg]; exact (below_size (by repeat (first | (with_reducible first | exact HB.out | apply below_alloc | apply pw_below_drewN | apply below_drew1) | exact HB.out))) : w.heap.size ≤ gb175)); clear HB; have HB := n0_; have BK175 := n1_; have GW175 := n2_; have GE175 := n3_; clear n0_ n1_ n2_ n3_; clear hb hbox hg; have hcz12_0 : w11.cell? ⟨gb175, 0, none⟩ = some (.int .i64 0) := (blk_cell BK175.out 0).trans rfl; have hcz12_1 : w11.cell? ⟨gb175, 1, none⟩ = some (.string (⟨#[]⟩ : ByteArray)) := (blk_cell BK175.out 1).trans rfl; have hcz12_2 : w11.cell? ⟨gb175, 2, none⟩ = some (.int .i64 0) := (blk_cell BK175.out 2).trans rfl; have hfz12_0 := blk_frozen BK175.out 0; have hfz12_1 := blk_frozen BK175.out 1; have hfz12_2 := blk_frozen BK175.out 2) | (go_at_call 23; (with_reducible refine (class_in.calls k1 ((rd_T33 l0 x9_1).f1) _ _ l1 false _ ?side1 ?side2 A7.out).mono ?_); (case side1 => exact Kd.C_below HR1.out (by repeat (first | (with_reducible first | exact HB.out | apply below_alloc | apply pw_below_drewN | apply below_drew1 | refine below_set ?_ GE175.out) | exact HB.out))); (case side2 => exact HC1.out); rintro e w' ⟨rfl, ⟨nd, rfl⟩⟩))
                go_roundg k1
                case measure => have := HK1.out; omega
                case rel => exact ⟨(wrap64 (x9_1 + 1)), (by first | rfl | (simp; done) | (simp [*]; done)), H', ⟨by have := HK1.out; omega⟩, ⟨by repeat (first | (with_reducible first | exact HB.out | apply below_alloc | apply pw_below_drewN | apply below_drew1 | refine below_set ?_ GE175.out) | exact HB.out)⟩⟩
            · rw [if_neg c6] at H
              have c6b0 : (((rd_T33 l0 x9_1).f0) == 1) = false := beq_eq_false_iff_ne.mpr c6
              have c6b1 : (((rd_T33 l0 x9_1).f0) != 1) = true := bne_iff_ne.mpr c6
              have H' := Aside0.mk H
              clear H
              have p174 : 0 ≤ (x9_1 : Int) := of_decide_eq_true (by first | (with_reducible assumption) | assumption)
              have q174 : x9_1 < (l0.length : Int) := of_decide_eq_true (by first | (with_reducible assumption) | assumption)
              obtain ⟨ad174, e174, hx174_0, hx174_1, hx174_2⟩ := at_T33 HR0.out x9_1 p174 q174
              cases e174
              replace hx174_0 := (HB.out.cell (World.block_lt_of_cell? w _ hx174_0)).trans hx174_0
              replace hx174_1 := (HB.out.cell (World.block_lt_of_cell? w _ hx174_1)).trans hx174_1
              replace hx174_2 := (HB.out.cell (World.block_lt_of_cell? w _ hx174_2)).trans hx174_2
              have q174n := q174
              replace p174 := eq_true p174
              replace q174 := eq_true q174
              go_wp2_with (first | ((with_reducible refine gate_dst (N := 6) rfl ?_); refine box_event ?hg (N := 6) ?hd (cs := #[.int .i64 0, .string (⟨#[]⟩ : ByteArray), .int .i64 0]) (t := 33) ?hr ?_; (case hd => rfl); (case hg => rfl); (case hr => first | (go_simp; done) | (go_simp; rfl)); intro gb175 hg w13 hbox hb; have n0_ := Aside0.mk (below_step (by repeat (first | (with_reducible first | exact HB.out | apply below_alloc | apply pw_below_drewN | apply below_drew1) | exact HB.out)) hb); have n1_ := Aside0.mk (hbox); have n2_ := Aside0.mk ((by rw [hg]; exact (below_size (by repeat (first | (with_reducible first | exact HB.out | apply below_alloc | apply pw_below_drewN | apply below_drew1) | exact HB.out))) : w.heap.size ≤ gb175)); have n3_ := Aside0.mk ((by rw [hg]; exact (below_size (by repeat (first | (with_reducible first | exact HB.out | apply below_alloc | apply pw_below_drewN | apply below_drew1) | exact HB.out))) : w.heap.size ≤ gb175)); clear HB; have HB := n0_; have BK175 := n1_; have GW175 := n2_; have GE175 := n3_; clear n0_ n1_ n2_ n3_; clear hb hbox hg; have hcz14_0 : w13.cell? ⟨gb175, 0, none⟩ = some (.int .i64 0) := (blk_cell BK175.out 0).trans rfl; have hcz14_1 : w13.cell? ⟨gb175, 1, none⟩ = some (.string (⟨#[]⟩ : ByteArray)) := (blk_cell BK175.out 1).trans rfl; have hcz14_2 : w13.cell? ⟨gb175, 2, none⟩ = some (.int .i64 0) := (blk_cell BK175.out 2).trans rfl; have hfz14_0 := blk_frozen BK175.out 0; have hfz14_1 := blk_frozen BK175.out 1; have hfz14_2 := blk_frozen BK175.out 2))
              go_roundg k1
              case measure => have := HK1.out; omega
              case rel => exact ⟨(wrap64 (x9_1 + 1)), (by first | rfl | (simp; done) | (simp [*]; done)), H', ⟨by have := HK1.out; omega⟩, ⟨by repeat (first | (with_reducible first | exact HB.out | apply below_alloc | apply pw_below_drewN | apply below_drew1 | refine below_set ?_ GE175.out) | exact HB.out)⟩⟩
          · rw [if_neg c5] at H
            exact absurd H (by simp)
        · rw [if_neg c4] at H
          exact absurd H (by simp)
      · rw [if_neg c3] at H
        have c3b0 : decide (x9_1 < (l0.length : Int)) = false := decide_eq_false c3
        clear c3
        obtain rfl := Option.some.inj H
        go_wp2
        go_ret
        exact ⟨by first | rfl | (simp [errW_none, errW_some] <;> rfl) | (simp [*, errW_none, errW_some] <;> rfl), by repeat (first | (with_reducible first | exact HB.out | apply below_alloc | apply pw_below_drewN | apply below_drew1) | exact HB.out)⟩

/-! ### class_Calls: function 15, by hand -/
def class_Calls.f (l0 : List (S33)) (l1 : List ByteArray) : Option (Bool) := if l0.length ≤ 140737488351232 ∧ l1.length ≤ 140737488351232 then some (callsF (fun s => inF s l1) (l0.map tokOf)) else none
theorem class_Calls.calls (A0 : Option Addr) (c0 : Nat) (l0 : List (S33)) (A1 : Option Addr) (c1 : Nat) (l1 : List ByteArray) (r : Bool) (w : World) (hr0 : Kd.C k33 w A0 l0.length l0) (_hc0 : l0.length ≤ c0) (hr1 : Kd.C Kd.string w A1 l1.length l1) (hc1 : l1.length ≤ c1) (h : class_Calls.f l0 l1 = some r) :
    Calls Try.prog 15 #[.slice A0 l0.length c0, .slice A1 l1.length c1] w fun e w' => e = .returned (.bool r) ∧ Below w.heap.size w w' := by
  unfold class_Calls.f at h
  split at h
  · rename_i hc
    simp only [Option.some.injEq] at h
    subst h
    exact Calls_any A0 c0 l0 A1 c1 l1 w hr0 hc.1 hr1 hc1 hc.2
  · cases h

/-! ### class_Name: function 19 -/
def class_Name.f (a0 : Int) : Option (ByteArray) := (some (([(⟨#[101, 109, 112, 116, 121]⟩ : ByteArray), (⟨#[114, 101, 97, 100]⟩ : ByteArray), (⟨#[119, 114, 105, 116, 101]⟩ : ByteArray), (⟨#[98, 101, 103, 105, 110]⟩ : ByteArray), (⟨#[99, 111, 109, 109, 105, 116]⟩ : ByteArray), (⟨#[114, 111, 108, 108, 98, 97, 99, 107]⟩ : ByteArray), (⟨#[115, 116, 97, 116, 101]⟩ : ByteArray), (⟨#[118, 111, 108, 97, 116, 105, 108, 101]⟩ : ByteArray), (⟨#[117, 110, 107, 110, 111, 119, 110]⟩ : ByteArray)] : List ByteArray) : List ByteArray)).bind fun y177 => (if a0 < 0 then (some (⟨#[]⟩ : ByteArray)) else (if a0 ≥ (y177.length : Int) then (some (⟨#[]⟩ : ByteArray)) else (if 0 ≤ a0 then (if a0 < (y177.length : Int) then (some (rdOf ByteArray.empty y177 a0)) else (none)) else (none))))
set_option maxHeartbeats 8000000 in
set_option maxRecDepth 100000 in
theorem class_Name.calls (a0 : Int) (r : ByteArray) (w : World) (h : class_Name.f a0 = some r) :
    Calls Try.prog 19 #[.int .i64 a0] w fun e w' => e = .returned (.string r) ∧ Below w.heap.size w w' := by
  have HB := Aside0.mk (Below.refl w.heap.size w)
  have H : ((some (([(⟨#[101, 109, 112, 116, 121]⟩ : ByteArray), (⟨#[114, 101, 97, 100]⟩ : ByteArray), (⟨#[119, 114, 105, 116, 101]⟩ : ByteArray), (⟨#[98, 101, 103, 105, 110]⟩ : ByteArray), (⟨#[99, 111, 109, 109, 105, 116]⟩ : ByteArray), (⟨#[114, 111, 108, 108, 98, 97, 99, 107]⟩ : ByteArray), (⟨#[115, 116, 97, 116, 101]⟩ : ByteArray), (⟨#[118, 111, 108, 97, 116, 105, 108, 101]⟩ : ByteArray), (⟨#[117, 110, 107, 110, 111, 119, 110]⟩ : ByteArray)] : List ByteArray) : List ByteArray)).bind fun y177 => (if a0 < 0 then (some (⟨#[]⟩ : ByteArray)) else (if a0 ≥ (y177.length : Int) then (some (⟨#[]⟩ : ByteArray)) else (if 0 ≤ a0 then (if a0 < (y177.length : Int) then (some (rdOf ByteArray.empty y177 a0)) else (none)) else (none))))) = some r := h
  clear h
  obtain ⟨y177, hy177⟩ : ∃ y_ : List ByteArray, y_ = (([(⟨#[101, 109, 112, 116, 121]⟩ : ByteArray), (⟨#[114, 101, 97, 100]⟩ : ByteArray), (⟨#[119, 114, 105, 116, 101]⟩ : ByteArray), (⟨#[98, 101, 103, 105, 110]⟩ : ByteArray), (⟨#[99, 111, 109, 109, 105, 116]⟩ : ByteArray), (⟨#[114, 111, 108, 108, 98, 97, 99, 107]⟩ : ByteArray), (⟨#[115, 116, 97, 116, 101]⟩ : ByteArray), (⟨#[118, 111, 108, 97, 116, 105, 108, 101]⟩ : ByteArray), (⟨#[117, 110, 107, 110, 111, 119, 110]⟩ : ByteArray)] : List ByteArray)) := ⟨_, rfl⟩
  replace H : (if a0 < 0 then (some (⟨#[]⟩ : ByteArray)) else (if a0 ≥ (y177.length : Int) then (some (⟨#[]⟩ : ByteArray)) else (if 0 ≤ a0 then (if a0 < (y177.length : Int) then (some (rdOf ByteArray.empty y177 a0)) else (none)) else (none)))) = some r := by first | (rw [hy177]; with_reducible exact H) | (have H2_ := (Option.bind_some _ _).symm.trans H; rw [hy177]; with_reducible exact H2_) | (have H2_ := (Option.bind_some _ _).symm.trans H; with_reducible exact H2_) | with_reducible exact H | (rw [hy177]; exact H) | exact H
  have Ny177 := Aside0.mk hy177
  clear hy177
  by_cases c2 : a0 < 0
  · rw [if_pos c2] at H
    have c2b0 : decide (a0 < 0) = true := decide_eq_true c2
    clear c2
    obtain rfl := Option.some.inj H
    go_enter Try.func19, Try.ntmps19
    go_wp2_with (first | ((with_reducible refine gate_dst (N := 4) rfl ?_); (try (refine gate_guard (by rfl) ?_; dsimp only)); refine Kd.R_lit Kd.string _ 9 ?hg (N := 4) ?hd (xs := ([(⟨#[101, 109, 112, 116, 121]⟩ : ByteArray), (⟨#[114, 101, 97, 100]⟩ : ByteArray), (⟨#[119, 114, 105, 116, 101]⟩ : ByteArray), (⟨#[98, 101, 103, 105, 110]⟩ : ByteArray), (⟨#[99, 111, 109, 109, 105, 116]⟩ : ByteArray), (⟨#[114, 111, 108, 108, 98, 97, 99, 107]⟩ : ByteArray), (⟨#[115, 116, 97, 116, 101]⟩ : ByteArray), (⟨#[118, 111, 108, 97, 116, 105, 108, 101]⟩ : ByteArray), (⟨#[117, 110, 107, 110, 111, 119, 110]⟩ : ByteArray)] : List ByteArray)) (inner := [.string (⟨#[101, 109, 112, 116, 121]⟩ : ByteArray), .string (⟨#[114, 101, 97, 100]⟩ : ByteArray), .string (⟨#[119, 114, 105, 116, 101]⟩ : ByteArray), .string (⟨#[98, 101, 103, 105, 110]⟩ : ByteArray), .string (⟨#[99, 111, 109, 109, 105, 116]⟩ : ByteArray), .string (⟨#[114, 111, 108, 108, 98, 97, 99, 107]⟩ : ByteArray), .string (⟨#[115, 116, 97, 116, 101]⟩ : ByteArray), .string (⟨#[118, 111, 108, 97, 116, 105, 108, 101]⟩ : ByteArray), .string (⟨#[117, 110, 107, 110, 111, 119, 110]⟩ : ByteArray)]) (ok := fun _ => True) (okp := fun _ => True) ?hr ?hp (fun _ hk => hk) trivial (Below.refl _ _) (Nat.le_refl _) (by simp) ?_; (case hd => rfl); (case hg => rfl); (case hr => first | (go_simp; done) | (go_simp; rfl)); (case hp => exact (Reps.one (show Kd.M Kd.string _ _ _ (⟨#[101, 109, 112, 116, 121]⟩ : ByteArray) [.string (⟨#[101, 109, 112, 116, 121]⟩ : ByteArray)] from rfl) (Reps.one (show Kd.M Kd.string _ _ _ (⟨#[114, 101, 97, 100]⟩ : ByteArray) [.string (⟨#[114, 101, 97, 100]⟩ : ByteArray)] from rfl) (Reps.one (show Kd.M Kd.string _ _ _ (⟨#[119, 114, 105, 116, 101]⟩ : ByteArray) [.string (⟨#[119, 114, 105, 116, 101]⟩ : ByteArray)] from rfl) (Reps.one (show Kd.M Kd.string _ _ _ (⟨#[98, 101, 103, 105, 110]⟩ : ByteArray) [.string (⟨#[98, 101, 103, 105, 110]⟩ : ByteArray)] from rfl) (Reps.one (show Kd.M Kd.string _ _ _ (⟨#[99, 111, 109, 109, 105, 116]⟩ : ByteArray) [.string (⟨#[99, 111, 109, 109, 105, 116]⟩ : ByteArray)] from rfl) (Reps.one (show Kd.M Kd.string _ _ _ (⟨#[114, 111, 108, 108, 98, 97, 99, 107]⟩ : ByteArray) [.string (⟨#[114, 111, 108, 108, 98, 97, 99, 107]⟩ : ByteArray)] from rfl) (Reps.one (show Kd.M Kd.string _ _ _ (⟨#[115, 116, 97, 116, 101]⟩ : ByteArray) [.string (⟨#[115, 116, 97, 116, 101]⟩ : ByteArray)] from rfl) (Reps.one (show Kd.M Kd.string _ _ _ (⟨#[118, 111, 108, 97, 116, 105, 108, 101]⟩ : ByteArray) [.string (⟨#[118, 111, 108, 97, 116, 105, 108, 101]⟩ : ByteArray)] from rfl) (Reps.one (show Kd.M Kd.string _ _ _ (⟨#[117, 110, 107, 110, 111, 119, 110]⟩ : ByteArray) [.string (⟨#[117, 110, 107, 110, 111, 119, 110]⟩ : ByteArray)] from rfl) (Reps.none _ _))))))))))); intro v178 w3 ho4 hb hg_ hnew_; clear hg_ hnew_; (first | rw [← Ny177.out] at ho4 | (simp only [Int.reduceToNat] at ho4; rw [← Ny177.out] at ho4)); have n0_ := Aside0.mk (Kd.R_lower ho4 (below_size (by repeat (first | (with_reducible first | exact HB.out | apply below_alloc | apply pw_below_drewN | apply below_drew1) | exact HB.out)))); have n1_ := Aside0.mk (below_step (by repeat (first | (with_reducible first | exact HB.out | apply below_alloc | apply pw_below_drewN | apply below_drew1) | exact HB.out)) hb); clear HB; have HO179 := n0_; have HB := n1_; clear n0_ n1_; clear hb ho4))
    go_ret
    exact ⟨by first | rfl | (simp [errW_none, errW_some] <;> rfl) | (simp [*, errW_none, errW_some] <;> rfl), by repeat (first | (with_reducible first | exact HB.out | apply below_alloc | apply pw_below_drewN | apply below_drew1) | exact HB.out)⟩
  · rw [if_neg c2] at H
    have c2b0 : decide (a0 < 0) = false := decide_eq_false c2
    clear c2
    by_cases c5 : a0 ≥ (y177.length : Int)
    · rw [if_pos c5] at H
      have c5b0 : decide ((y177.length : Int) ≤ a0) = true := decide_eq_true c5
      clear c5
      obtain rfl := Option.some.inj H
      go_enter Try.func19, Try.ntmps19
      go_wp2_with (first | ((with_reducible refine gate_dst (N := 4) rfl ?_); (try (refine gate_guard (by rfl) ?_; dsimp only)); refine Kd.R_lit Kd.string _ 9 ?hg (N := 4) ?hd (xs := ([(⟨#[101, 109, 112, 116, 121]⟩ : ByteArray), (⟨#[114, 101, 97, 100]⟩ : ByteArray), (⟨#[119, 114, 105, 116, 101]⟩ : ByteArray), (⟨#[98, 101, 103, 105, 110]⟩ : ByteArray), (⟨#[99, 111, 109, 109, 105, 116]⟩ : ByteArray), (⟨#[114, 111, 108, 108, 98, 97, 99, 107]⟩ : ByteArray), (⟨#[115, 116, 97, 116, 101]⟩ : ByteArray), (⟨#[118, 111, 108, 97, 116, 105, 108, 101]⟩ : ByteArray), (⟨#[117, 110, 107, 110, 111, 119, 110]⟩ : ByteArray)] : List ByteArray)) (inner := [.string (⟨#[101, 109, 112, 116, 121]⟩ : ByteArray), .string (⟨#[114, 101, 97, 100]⟩ : ByteArray), .string (⟨#[119, 114, 105, 116, 101]⟩ : ByteArray), .string (⟨#[98, 101, 103, 105, 110]⟩ : ByteArray), .string (⟨#[99, 111, 109, 109, 105, 116]⟩ : ByteArray), .string (⟨#[114, 111, 108, 108, 98, 97, 99, 107]⟩ : ByteArray), .string (⟨#[115, 116, 97, 116, 101]⟩ : ByteArray), .string (⟨#[118, 111, 108, 97, 116, 105, 108, 101]⟩ : ByteArray), .string (⟨#[117, 110, 107, 110, 111, 119, 110]⟩ : ByteArray)]) (ok := fun _ => True) (okp := fun _ => True) ?hr ?hp (fun _ hk => hk) trivial (Below.refl _ _) (Nat.le_refl _) (by simp) ?_; (case hd => rfl); (case hg => rfl); (case hr => first | (go_simp; done) | (go_simp; rfl)); (case hp => exact (Reps.one (show Kd.M Kd.string _ _ _ (⟨#[101, 109, 112, 116, 121]⟩ : ByteArray) [.string (⟨#[101, 109, 112, 116, 121]⟩ : ByteArray)] from rfl) (Reps.one (show Kd.M Kd.string _ _ _ (⟨#[114, 101, 97, 100]⟩ : ByteArray) [.string (⟨#[114, 101, 97, 100]⟩ : ByteArray)] from rfl) (Reps.one (show Kd.M Kd.string _ _ _ (⟨#[119, 114, 105, 116, 101]⟩ : ByteArray) [.string (⟨#[119, 114, 105, 116, 101]⟩ : ByteArray)] from rfl) (Reps.one (show Kd.M Kd.string _ _ _ (⟨#[98, 101, 103, 105, 110]⟩ : ByteArray) [.string (⟨#[98, 101, 103, 105, 110]⟩ : ByteArray)] from rfl) (Reps.one (show Kd.M Kd.string _ _ _ (⟨#[99, 111, 109, 109, 105, 116]⟩ : ByteArray) [.string (⟨#[99, 111, 109, 109, 105, 116]⟩ : ByteArray)] from rfl) (Reps.one (show Kd.M Kd.string _ _ _ (⟨#[114, 111, 108, 108, 98, 97, 99, 107]⟩ : ByteArray) [.string (⟨#[114, 111, 108, 108, 98, 97, 99, 107]⟩ : ByteArray)] from rfl) (Reps.one (show Kd.M Kd.string _ _ _ (⟨#[115, 116, 97, 116, 101]⟩ : ByteArray) [.string (⟨#[115, 116, 97, 116, 101]⟩ : ByteArray)] from rfl) (Reps.one (show Kd.M Kd.string _ _ _ (⟨#[118, 111, 108, 97, 116, 105, 108, 101]⟩ : ByteArray) [.string (⟨#[118, 111, 108, 97, 116, 105, 108, 101]⟩ : ByteArray)] from rfl) (Reps.one (show Kd.M Kd.string _ _ _ (⟨#[117, 110, 107, 110, 111, 119, 110]⟩ : ByteArray) [.string (⟨#[117, 110, 107, 110, 111, 119, 110]⟩ : ByteArray)] from rfl) (Reps.none _ _))))))))))); intro v178 w6 ho7 hb hg_ hnew_; clear hg_ hnew_; (first | rw [← Ny177.out] at ho7 | (simp only [Int.reduceToNat] at ho7; rw [← Ny177.out] at ho7)); have n0_ := Aside0.mk (Kd.R_lower ho7 (below_size (by repeat (first | (with_reducible first | exact HB.out | apply below_alloc | apply pw_below_drewN | apply below_drew1) | exact HB.out)))); have n1_ := Aside0.mk (below_step (by repeat (first | (with_reducible first | exact HB.out | apply below_alloc | apply pw_below_drewN | apply below_drew1) | exact HB.out)) hb); clear HB; have HO179 := n0_; have HB := n1_; clear n0_ n1_; clear hb ho7; obtain ⟨Ao8, co8, eo8⟩ := Kd.R_slice HO179.out; subst eo8))
      go_ret
      exact ⟨by first | rfl | (simp [errW_none, errW_some] <;> rfl) | (simp [*, errW_none, errW_some] <;> rfl), by repeat (first | (with_reducible first | exact HB.out | apply below_alloc | apply pw_below_drewN | apply below_drew1) | exact HB.out)⟩
    · rw [if_neg c5] at H
      have c5b0 : decide ((y177.length : Int) ≤ a0) = false := decide_eq_false c5
      clear c5
      by_cases c9 : 0 ≤ a0
      · rw [if_pos c9] at H
        have c9b0 : decide (0 ≤ a0) = true := decide_eq_true c9
        clear c9
        by_cases c10 : a0 < (y177.length : Int)
        · rw [if_pos c10] at H
          have c10b0 : decide (a0 < (y177.length : Int)) = true := decide_eq_true c10
          clear c10
          obtain rfl := Option.some.inj H
          go_enter Try.func19, Try.ntmps19
          go_wp2_with (first | ((with_reducible refine gate_dst (N := 4) rfl ?_); (try (refine gate_guard (by rfl) ?_; dsimp only)); refine Kd.R_lit Kd.string _ 9 ?hg (N := 4) ?hd (xs := ([(⟨#[101, 109, 112, 116, 121]⟩ : ByteArray), (⟨#[114, 101, 97, 100]⟩ : ByteArray), (⟨#[119, 114, 105, 116, 101]⟩ : ByteArray), (⟨#[98, 101, 103, 105, 110]⟩ : ByteArray), (⟨#[99, 111, 109, 109, 105, 116]⟩ : ByteArray), (⟨#[114, 111, 108, 108, 98, 97, 99, 107]⟩ : ByteArray), (⟨#[115, 116, 97, 116, 101]⟩ : ByteArray), (⟨#[118, 111, 108, 97, 116, 105, 108, 101]⟩ : ByteArray), (⟨#[117, 110, 107, 110, 111, 119, 110]⟩ : ByteArray)] : List ByteArray)) (inner := [.string (⟨#[101, 109, 112, 116, 121]⟩ : ByteArray), .string (⟨#[114, 101, 97, 100]⟩ : ByteArray), .string (⟨#[119, 114, 105, 116, 101]⟩ : ByteArray), .string (⟨#[98, 101, 103, 105, 110]⟩ : ByteArray), .string (⟨#[99, 111, 109, 109, 105, 116]⟩ : ByteArray), .string (⟨#[114, 111, 108, 108, 98, 97, 99, 107]⟩ : ByteArray), .string (⟨#[115, 116, 97, 116, 101]⟩ : ByteArray), .string (⟨#[118, 111, 108, 97, 116, 105, 108, 101]⟩ : ByteArray), .string (⟨#[117, 110, 107, 110, 111, 119, 110]⟩ : ByteArray)]) (ok := fun _ => True) (okp := fun _ => True) ?hr ?hp (fun _ hk => hk) trivial (Below.refl _ _) (Nat.le_refl _) (by simp) ?_; (case hd => rfl); (case hg => rfl); (case hr => first | (go_simp; done) | (go_simp; rfl)); (case hp => exact (Reps.one (show Kd.M Kd.string _ _ _ (⟨#[101, 109, 112, 116, 121]⟩ : ByteArray) [.string (⟨#[101, 109, 112, 116, 121]⟩ : ByteArray)] from rfl) (Reps.one (show Kd.M Kd.string _ _ _ (⟨#[114, 101, 97, 100]⟩ : ByteArray) [.string (⟨#[114, 101, 97, 100]⟩ : ByteArray)] from rfl) (Reps.one (show Kd.M Kd.string _ _ _ (⟨#[119, 114, 105, 116, 101]⟩ : ByteArray) [.string (⟨#[119, 114, 105, 116, 101]⟩ : ByteArray)] from rfl) (Reps.one (show Kd.M Kd.string _ _ _ (⟨#[98, 101, 103, 105, 110]⟩ : ByteArray) [.string (⟨#[98, 101, 103, 105, 110]⟩ : ByteArray)] from rfl) (Reps.one (show Kd.M Kd.string _ _ _ (⟨#[99, 111, 109, 109, 105, 116]⟩ : ByteArray) [.string (⟨#[99, 111, 109, 109, 105, 116]⟩ : ByteArray)] from rfl) (Reps.one (show Kd.M Kd.string _ _ _ (⟨#[114, 111, 108, 108, 98, 97, 99, 107]⟩ : ByteArray) [.string (⟨#[114, 111, 108, 108, 98, 97, 99, 107]⟩ : ByteArray)] from rfl) (Reps.one (show Kd.M Kd.string _ _ _ (⟨#[115, 116, 97, 116, 101]⟩ : ByteArray) [.string (⟨#[115, 116, 97, 116, 101]⟩ : ByteArray)] from rfl) (Reps.one (show Kd.M Kd.string _ _ _ (⟨#[118, 111, 108, 97, 116, 105, 108, 101]⟩ : ByteArray) [.string (⟨#[118, 111, 108, 97, 116, 105, 108, 101]⟩ : ByteArray)] from rfl) (Reps.one (show Kd.M Kd.string _ _ _ (⟨#[117, 110, 107, 110, 111, 119, 110]⟩ : ByteArray) [.string (⟨#[117, 110, 107, 110, 111, 119, 110]⟩ : ByteArray)] from rfl) (Reps.none _ _))))))))))); intro v178 w11 ho12 hb hg_ hnew_; clear hg_ hnew_; (first | rw [← Ny177.out] at ho12 | (simp only [Int.reduceToNat] at ho12; rw [← Ny177.out] at ho12)); have n0_ := Aside0.mk (Kd.R_lower ho12 (below_size (by repeat (first | (with_reducible first | exact HB.out | apply below_alloc | apply pw_below_drewN | apply below_drew1) | exact HB.out)))); have n1_ := Aside0.mk (below_step (by repeat (first | (with_reducible first | exact HB.out | apply below_alloc | apply pw_below_drewN | apply below_drew1) | exact HB.out)) hb); clear HB; have HO179 := n0_; have HB := n1_; clear n0_ n1_; clear hb ho12; obtain ⟨Ao13, co13, eo13⟩ := Kd.R_slice HO179.out; subst eo13; have p180 : 0 ≤ (a0 : Int) := of_decide_eq_true (by first | (with_reducible assumption) | assumption); have q180 : a0 < (y177.length : Int) := of_decide_eq_true (by first | (with_reducible assumption) | assumption); obtain ⟨ad180, e180, hx180_0⟩ := Kd.at_string (Kd.R_reads' HO179.out).2.2 a0 p180 q180; cases e180; have q180n := q180; replace p180 := eq_true p180; replace q180 := eq_true q180))
          go_ret
          exact ⟨by first | rfl | (simp [errW_none, errW_some] <;> rfl) | (simp [*, errW_none, errW_some] <;> rfl), by repeat (first | (with_reducible first | exact HB.out | apply below_alloc | apply pw_below_drewN | apply below_drew1) | exact HB.out)⟩
        · rw [if_neg c10] at H
          exact absurd H (by simp)
      · rw [if_neg c9] at H
        exact absurd H (by simp)


theorem tk (s : ByteArray) (k : Nat) (L : List S33) (h : pontoonlaw06_tokens.f k s = some L) (w : World) : Calls Try.prog 12 #[.string s] w fun e w' => ∃ A c, e = .returned (.slice A L.length c) ∧ Kd.C k33 w' A L.length L ∧ L.length ≤ c ∧ Below w.heap.size w w' := by
  refine (pontoonlaw06_tokens.calls k s L w h).mono ?_
  rintro e w' ⟨v, rfl, hR, hb⟩
  obtain ⟨A, c, rfl⟩ := Kd.R_slice hR
  obtain ⟨_, hc, hC⟩ := Kd.R_reads' hR
  exact ⟨A, c, rfl, hC, hc, hb⟩
theorem lit1 (w : World) (s : ByteArray) (t : TypeId) : Kd.C Kd.string (w.alloc (.cells #[.string s] t)) (some ⟨w.heap.size, 0, none⟩) 1 [s] := Kd.C_of_reads (d := ByteArray.empty) ⟨rfl, by omega, fun _ => ⟨_, rfl, fun j hj => by
  obtain rfl : j = 0 := by omega
  have hadd : (⟨w.heap.size, 0, none⟩ : Addr).add 0 = ⟨w.heap.size, 0, none⟩ := rfl
  rw [hadd, World.cell?_alloc_at _ _ _ _ rfl]
  rfl⟩⟩
theorem kn1 : (pontoonlaw06_tokens.f 100 ⟨#[115, 101, 108, 101, 99, 116, 32, 42, 32, 102, 114, 111, 109, 32, 116]⟩).bind (fun l => ofF 100 l) = some 1 := by kernel_rfl
theorem kn2 : (pontoonlaw06_tokens.f 100 ⟨#[115, 101, 108, 101, 99, 116, 32, 110, 111, 119, 40, 41]⟩).bind (fun l => ofF 100 l) = some 7 := by kernel_rfl
theorem kn3 : (pontoonlaw06_tokens.f 100 ⟨#[119, 105, 116, 104, 32, 120, 32, 97, 115, 32, 40, 100, 101, 108, 101, 116, 101, 32, 102, 114, 111, 109, 32, 116, 41, 32, 115, 101, 108, 101, 99, 116, 32, 49]⟩).bind (fun l => ofF 100 l) = some 2 := by kernel_rfl
theorem kn4 : (pontoonlaw06_tokens.f 100 ⟨#[114, 111, 108, 108, 98, 97, 99, 107, 32, 116, 111, 32, 97]⟩).bind (fun l => ofF 100 l) = some 8 := by kernel_rfl
theorem kn5 : (pontoonlaw06_tokens.f 100 ⟨#[34, 115, 101, 108, 101, 99, 116, 34]⟩).bind (fun l => ofF 100 l) = some 8 := by kernel_rfl
theorem kn6 : (pontoonlaw06_tokens.f 100 ⟨#[115, 101, 108, 101, 99, 116, 32, 49, 32, 102, 111, 114, 32, 117, 112, 100, 97, 116, 101]⟩).bind (fun l => ofF 100 l) = some 7 := by kernel_rfl
theorem kn8 : (pontoonlaw06_tokens.f 100 ⟨#[97, 32, 98]⟩).bind (fun l => class_Has.f 100 l [⟨#[98]⟩]) = some true := by kernel_rfl
theorem kn9 : (pontoonlaw06_tokens.f 100 ⟨#[102, 32, 40, 49, 41]⟩).bind (fun l => class_Calls.f l [⟨#[102]⟩]) = some true := by kernel_rfl
theorem kn10 : (pontoonlaw06_tokens.f 100 ⟨#[102]⟩).bind (fun l => class_Calls.f l [⟨#[102]⟩]) = some false := by kernel_rfl
theorem kn11 : (pontoonlaw06_tokens.f 100 ⟨#[102, 111, 114, 32, 115, 104, 97, 114, 101]⟩).bind (fun l => class_Locks.f 100 l) = some true := by kernel_rfl
theorem kn12 : class_Name.f 2 = some ⟨#[119, 114, 105, 116, 101]⟩ := by kernel_rfl
theorem kn13 : class_Name.f 9 = some ⟨#[]⟩ := by kernel_rfl

/-- A row of tokens, hidden from the walk. -/
structure TkR (w0 w : World) (A : Option Addr) (c : Nat) (L : List S33) : Prop where
  row : Kd.C k33 w A L.length L
  cap : L.length ≤ c
  bel : Below w0.heap.size w0 w
theorem tkr (s : ByteArray) (L : List S33) (h : pontoonlaw06_tokens.f 100 s = some L) (w0 w : World) (hb : Below w0.heap.size w0 w) : Calls Try.prog 12 #[.string s] w fun e w' => ∃ A c, e = .returned (.slice A L.length c) ∧ TkR w0 w' A c L :=
  (tk s 100 L h w).mono fun _ _ ⟨A, c, e, hC, hc, b⟩ => ⟨A, c, e, hC, hc, hb.trans (b.mono hb.size)⟩
/-- A world behind which all that was in w0 stands. -/
structure BelH (w0 w : World) : Prop where
  out : Below w0.heap.size w0 w
theorem ofr {L : List S33} {q : Int} (h : ofF 100 L = some q) {w0 w : World} {A : Option Addr} {c : Nat} (r : TkR w0 w A c L) : Calls Try.prog 10 #[.slice A L.length c] w fun e w' => e = .returned (.int .i64 q) ∧ BelH w0 w' :=
  (class_Of.calls 100 A c L q w r.row r.cap h).mono fun _ _ ⟨e, b⟩ => ⟨e, ⟨r.bel.trans (b.mono r.bel.size)⟩⟩
theorem lockr {L : List S33} {q : Bool} (h : class_Locks.f 100 L = some q) {w0 w : World} {A : Option Addr} {c : Nat} (r : TkR w0 w A c L) : Calls Try.prog 17 #[.slice A L.length c] w fun e w' => e = .returned (.bool q) ∧ BelH w0 w' :=
  (class_Locks.calls 100 A c L q w r.row r.cap h).mono fun _ _ ⟨e, b⟩ => ⟨e, ⟨r.bel.trans (b.mono r.bel.size)⟩⟩
theorem hasr {L : List S33} {q : Bool} (s : ByteArray) (h : class_Has.f 100 L [s] = some q) {w0 w : World} {A : Option Addr} {c : Nat} (r : TkR w0 w A c L) : Calls Try.prog 13 #[.slice A L.length c, .slice (some ⟨w.heap.size, 0, none⟩) 1 1] (w.alloc (.cells #[.string s] 9)) fun e w' => e = .returned (.bool q) ∧ BelH w0 w' :=
  (class_Has.calls 100 A c L _ 1 [s] q (w.alloc (.cells #[.string s] 9)) (Kd.C_alloc r.row _) r.cap (lit1 w s 9) (by simp) h).mono fun _ _ ⟨e, b⟩ => ⟨e, ⟨(r.bel.alloc r.bel.size _).trans (b.mono (r.bel.alloc r.bel.size _).size)⟩⟩
theorem calr {L : List S33} {q : Bool} (s : ByteArray) (h : class_Calls.f L [s] = some q) {w0 w : World} {A : Option Addr} {c : Nat} (r : TkR w0 w A c L) : Calls Try.prog 15 #[.slice A L.length c, .slice (some ⟨w.heap.size, 0, none⟩) 1 1] (w.alloc (.cells #[.string s] 9)) fun e w' => e = .returned (.bool q) ∧ BelH w0 w' :=
  (class_Calls.calls A c L _ 1 [s] q (w.alloc (.cells #[.string s] 9)) (Kd.C_alloc r.row _) r.cap (lit1 w s 9) (by simp) h).mono fun _ _ ⟨e, b⟩ => ⟨e, ⟨(r.bel.alloc r.bel.size _).trans (b.mono (r.bel.alloc r.bel.size _).size)⟩⟩
theorem namr {n : Int} {q : ByteArray} (h : class_Name.f n = some q) {w0 w : World} (b : BelH w0 w) : Calls Try.prog 19 #[.int .i64 n] w fun e w' => e = .returned (.string q) ∧ BelH w0 w' :=
  (class_Name.calls n q w h).mono fun _ _ ⟨e, b'⟩ => ⟨e, ⟨b.out.trans (b'.mono b.out.size)⟩⟩
theorem emptyr {w0 w : World} (b : BelH w0 w) : Calls Try.prog 10 #[.slice none 0 0] w fun e w' => e = .returned (.int .i64 0) ∧ BelH w0 w' :=
  (of_empty none 0 w).mono fun _ _ ⟨e, b'⟩ => ⟨e, ⟨b.out.trans (b'.mono b.out.size)⟩⟩

set_option maxHeartbeats 4000000 in
theorem known_any (w : World) : Calls Try.prog 9 #[] w fun e w' => e = .returned (.bool true) ∧ Below w.heap.size w w' := by
  have B0 : BelH w w := ⟨Below.refl w.heap.size w⟩
  obtain ⟨L1, t1, q1⟩ := Option.bind_eq_some_iff.1 kn1
  have TK1 := Lib.hid (tkr ⟨#[115, 101, 108, 101, 99, 116, 32, 42, 32, 102, 114, 111, 109, 32, 116]⟩ L1 t1 w)
  have CX1 := Lib.hid (fun A c (w1 : World) (r : TkR w w1 A c L1) => ofr q1 r)
  clear t1 q1
  obtain ⟨L2, t2, q2⟩ := Option.bind_eq_some_iff.1 kn2
  have TK2 := Lib.hid (tkr ⟨#[115, 101, 108, 101, 99, 116, 32, 110, 111, 119, 40, 41]⟩ L2 t2 w)
  have CX2 := Lib.hid (fun A c (w1 : World) (r : TkR w w1 A c L2) => ofr q2 r)
  clear t2 q2
  obtain ⟨L3, t3, q3⟩ := Option.bind_eq_some_iff.1 kn3
  have TK3 := Lib.hid (tkr ⟨#[119, 105, 116, 104, 32, 120, 32, 97, 115, 32, 40, 100, 101, 108, 101, 116, 101, 32, 102, 114, 111, 109, 32, 116, 41, 32, 115, 101, 108, 101, 99, 116, 32, 49]⟩ L3 t3 w)
  have CX3 := Lib.hid (fun A c (w1 : World) (r : TkR w w1 A c L3) => ofr q3 r)
  clear t3 q3
  obtain ⟨L4, t4, q4⟩ := Option.bind_eq_some_iff.1 kn4
  have TK4 := Lib.hid (tkr ⟨#[114, 111, 108, 108, 98, 97, 99, 107, 32, 116, 111, 32, 97]⟩ L4 t4 w)
  have CX4 := Lib.hid (fun A c (w1 : World) (r : TkR w w1 A c L4) => ofr q4 r)
  clear t4 q4
  obtain ⟨L5, t5, q5⟩ := Option.bind_eq_some_iff.1 kn5
  have TK5 := Lib.hid (tkr ⟨#[34, 115, 101, 108, 101, 99, 116, 34]⟩ L5 t5 w)
  have CX5 := Lib.hid (fun A c (w1 : World) (r : TkR w w1 A c L5) => ofr q5 r)
  clear t5 q5
  obtain ⟨L6, t6, q6⟩ := Option.bind_eq_some_iff.1 kn6
  have TK6 := Lib.hid (tkr ⟨#[115, 101, 108, 101, 99, 116, 32, 49, 32, 102, 111, 114, 32, 117, 112, 100, 97, 116, 101]⟩ L6 t6 w)
  have CX6 := Lib.hid (fun A c (w1 : World) (r : TkR w w1 A c L6) => ofr q6 r)
  clear t6 q6
  obtain ⟨L8, t8, q8⟩ := Option.bind_eq_some_iff.1 kn8
  have TK8 := Lib.hid (tkr ⟨#[97, 32, 98]⟩ L8 t8 w)
  have CX8 := Lib.hid (fun A c (w1 : World) (r : TkR w w1 A c L8) => hasr ⟨#[98]⟩ q8 r)
  clear t8 q8
  obtain ⟨L9, t9, q9⟩ := Option.bind_eq_some_iff.1 kn9
  have TK9 := Lib.hid (tkr ⟨#[102, 32, 40, 49, 41]⟩ L9 t9 w)
  have CX9 := Lib.hid (fun A c (w1 : World) (r : TkR w w1 A c L9) => calr ⟨#[102]⟩ q9 r)
  clear t9 q9
  obtain ⟨L10, t10, q10⟩ := Option.bind_eq_some_iff.1 kn10
  have TK10 := Lib.hid (tkr ⟨#[102]⟩ L10 t10 w)
  have CX10 := Lib.hid (fun A c (w1 : World) (r : TkR w w1 A c L10) => calr ⟨#[102]⟩ q10 r)
  clear t10 q10
  obtain ⟨L11, t11, q11⟩ := Option.bind_eq_some_iff.1 kn11
  have TK11 := Lib.hid (tkr ⟨#[102, 111, 114, 32, 115, 104, 97, 114, 101]⟩ L11 t11 w)
  have CX11 := Lib.hid (fun A c (w1 : World) (r : TkR w w1 A c L11) => lockr q11 r)
  clear t11 q11
  go_enter Try.func9, Try.ntmps9
  repeat (first | go_values | go_skip | go_guarded | go_step | go_upon)
  (go_at_call 12; refine (TK1.out _ B0.out).mono ?_; rintro e w1a ⟨A1, c1, rfl, C1⟩; dsimp only)
  repeat (first | go_values | go_skip | go_guarded | go_step | go_upon)
  (go_at_call 10; refine (CX1.out _ _ _ C1).mono ?_; rintro e w1b ⟨rfl, B1⟩; dsimp only)
  repeat (first | go_values | go_skip | go_guarded | go_step | go_upon)
  (go_at_call 12; refine (TK2.out _ B1.out).mono ?_; rintro e w2a ⟨A2, c2, rfl, C2⟩; dsimp only)
  repeat (first | go_values | go_skip | go_guarded | go_step | go_upon)
  (go_at_call 10; refine (CX2.out _ _ _ C2).mono ?_; rintro e w2b ⟨rfl, B2⟩; dsimp only)
  repeat (first | go_values | go_skip | go_guarded | go_step | go_upon)
  (go_at_call 12; refine (TK3.out _ B2.out).mono ?_; rintro e w3a ⟨A3, c3, rfl, C3⟩; dsimp only)
  repeat (first | go_values | go_skip | go_guarded | go_step | go_upon)
  (go_at_call 10; refine (CX3.out _ _ _ C3).mono ?_; rintro e w3b ⟨rfl, B3⟩; dsimp only)
  repeat (first | go_values | go_skip | go_guarded | go_step | go_upon)
  (go_at_call 12; refine (TK4.out _ B3.out).mono ?_; rintro e w4a ⟨A4, c4, rfl, C4⟩; dsimp only)
  repeat (first | go_values | go_skip | go_guarded | go_step | go_upon)
  (go_at_call 10; refine (CX4.out _ _ _ C4).mono ?_; rintro e w4b ⟨rfl, B4⟩; dsimp only)
  repeat (first | go_values | go_skip | go_guarded | go_step | go_upon)
  (go_at_call 10; refine (emptyr B4).mono ?_; rintro e wn ⟨rfl, Bn⟩; dsimp only)
  repeat (first | go_values | go_skip | go_guarded | go_step | go_upon)
  (go_at_call 12; refine (TK5.out _ Bn.out).mono ?_; rintro e w5a ⟨A5, c5, rfl, C5⟩; dsimp only)
  repeat (first | go_values | go_skip | go_guarded | go_step | go_upon)
  (go_at_call 10; refine (CX5.out _ _ _ C5).mono ?_; rintro e w5b ⟨rfl, B5⟩; dsimp only)
  repeat (first | go_values | go_skip | go_guarded | go_step | go_upon)
  (go_at_call 12; refine (TK6.out _ B5.out).mono ?_; rintro e w6a ⟨A6, c6, rfl, C6⟩; dsimp only)
  repeat (first | go_values | go_skip | go_guarded | go_step | go_upon)
  (go_at_call 10; refine (CX6.out _ _ _ C6).mono ?_; rintro e w6b ⟨rfl, B6⟩; dsimp only)
  repeat (first | go_values | go_skip | go_guarded | go_step | go_upon)
  (go_at_call 12; refine (TK8.out _ B6.out).mono ?_; rintro e w8a ⟨A8, c8, rfl, C8⟩; dsimp only)
  repeat (first | go_values | go_skip | go_guarded | go_step | go_upon)
  (go_at_call 13; refine (CX8.out _ _ _ C8).mono ?_; rintro e w8b ⟨rfl, B8⟩; dsimp only)
  repeat (first | go_values | go_skip | go_guarded | go_step | go_upon)
  (go_at_call 12; refine (TK9.out _ B8.out).mono ?_; rintro e w9a ⟨A9, c9, rfl, C9⟩; dsimp only)
  repeat (first | go_values | go_skip | go_guarded | go_step | go_upon)
  (go_at_call 15; refine (CX9.out _ _ _ C9).mono ?_; rintro e w9b ⟨rfl, B9⟩; dsimp only)
  repeat (first | go_values | go_skip | go_guarded | go_step | go_upon)
  (go_at_call 12; refine (TK10.out _ B9.out).mono ?_; rintro e w10a ⟨A10, c10, rfl, C10⟩; dsimp only)
  repeat (first | go_values | go_skip | go_guarded | go_step | go_upon)
  (go_at_call 15; refine (CX10.out _ _ _ C10).mono ?_; rintro e w10b ⟨rfl, B10⟩; dsimp only)
  repeat (first | go_values | go_skip | go_guarded | go_step | go_upon)
  (go_at_call 12; refine (TK11.out _ B10.out).mono ?_; rintro e w11a ⟨A11, c11, rfl, C11⟩; dsimp only)
  repeat (first | go_values | go_skip | go_guarded | go_step | go_upon)
  (go_at_call 17; refine (CX11.out _ _ _ C11).mono ?_; rintro e w11b ⟨rfl, B11⟩; dsimp only)
  repeat (first | go_values | go_skip | go_guarded | go_step | go_upon)
  (go_at_call 19; refine (namr kn12 B11).mono ?_; rintro e wm2 ⟨rfl, Bm2⟩; dsimp only)
  repeat (first | go_values | go_skip | go_guarded | go_step | go_upon)
  (go_at_call 19; refine (namr kn13 Bm2).mono ?_; rintro e wm9 ⟨rfl, Bm9⟩; dsimp only)
  repeat (first | go_values | go_skip | go_guarded | go_step | go_upon)
  go_ret
  exact ⟨rfl, Bm9.out⟩
/-! ### pontoonlaw06_known: function 9, by hand -/
def pontoonlaw06_known.f : Option (Bool) := some true
theorem pontoonlaw06_known.calls (r : Bool) (w : World) (h : pontoonlaw06_known.f = some r) :
    Calls Try.prog 9 #[] w fun e w' => e = .returned (.bool r) ∧ Below w.heap.size w w' := by
  unfold pontoonlaw06_known.f at h
  simp only [Option.some.injEq] at h
  subst h
  exact known_any w

/-! ### pontoonref06_in: function 29 -/
def pontoonref06_in.l0 : Nat → List ByteArray → ByteArray → Int → Option (Bool)
  | 0, _, _, _ => none
  | k + 1, x0, x1, x5 => if x5 < (x0.length : Int) then (if 0 ≤ x5 then (if (rdOf ByteArray.empty x0 x5).toList = x1.toList then (some true) else (pontoonref06_in.l0 k x0 x1 (wrap64 (x5 + 1)))) else (none)) else (some false)
def pontoonref06_in.f (k : Nat) (l0 : List ByteArray) (a1 : ByteArray) : Option (Bool) := pontoonref06_in.l0 k l0 a1 0
theorem pontoonref06_in.mono_l : ∀ k, (∀ y0 y1 y2, LeO (pontoonref06_in.l0 k y0 y1 y2) (pontoonref06_in.l0 (k + 1) y0 y1 y2))
  | 0 => fun _ _ _ r h => by simp [pontoonref06_in.l0] at h
  | k + 1 => by
    have ih0 := pontoonref06_in.mono_l k
    · intro y0 y1 y2
      unfold pontoonref06_in.l0
      repeat' first
      | (with_reducible exact ih0 _ _ _)
      | (with_reducible exact LeO.refl _)
      | (with_reducible exact LeO.none _)
      | (with_reducible refine LeO.ite ?_ ?_)
      | (with_reducible refine LeO.bind ?_ (fun _ => ?_))
      | exact ih0 _ _ _
      | exact LeO.none _
      | refine LeO.ite ?_ ?_
      | refine LeO.bind ?_ (fun _ => ?_)
theorem pontoonref06_in.mono : ∀ a0 a1 k, LeO (pontoonref06_in.f k a0 a1) (pontoonref06_in.f (k + 1) a0 a1) := by
  intro a0 a1 k
  have ih0 := pontoonref06_in.mono_l k
  unfold pontoonref06_in.f
  repeat' first
      | (with_reducible exact ih0 _ _ _)
      | (with_reducible exact LeO.refl _)
      | (with_reducible exact LeO.none _)
      | (with_reducible refine LeO.ite ?_ ?_)
      | (with_reducible refine LeO.bind ?_ (fun _ => ?_))
      | exact ih0 _ _ _
      | exact LeO.none _
      | refine LeO.ite ?_ ?_
      | refine LeO.bind ?_ (fun _ => ?_)
set_option maxHeartbeats 8000000 in
set_option maxRecDepth 100000 in
theorem pontoonref06_in.calls (k : Nat) (A0 : Option Addr) (c0 : Nat) (l0 : List ByteArray) (a1 : ByteArray) (r : Bool) (w : World) (hr0 : Kd.C Kd.string w A0 l0.length l0) (hc0 : l0.length ≤ c0) (h : pontoonref06_in.f k l0 a1 = some r) :
    Calls Try.prog 29 #[.slice A0 l0.length c0, .string a1] w fun e w' => e = .returned (.bool r) ∧ Drawn0 w w' := by
  have HR0 := Aside0.mk hr0
  have HC0 := Aside0.mk hc0
  clear hr0 hc0
  have H : (pontoonref06_in.l0 k l0 a1 0) = some r := h
  clear h
  have H' := Aside0.mk H
  clear H
  go_enter Try.func29, Try.ntmps29
  go_wp2
  go_loopg [5] k (fun kq v5 w' => ∃ (x5_1 : Int), v5 = .int .i64 x5_1 ∧ Aside0 (pontoonref06_in.l0 kq l0 a1 x5_1 = some r) ∧ Aside0 (kq ≤ k) ∧ Drawn0 w w')
  case atStart => exact ⟨(0), (by first | rfl | (simp; done) | (simp [*]; done)), H', ⟨Nat.le_refl _⟩, by repeat (first | exact Drawn0.refl _ | apply Drawn0.step)⟩
  case round =>
    clear H'
    try clear c2
    try clear p2
    obtain ⟨x5_1, rfl, HA, HK1, ⟨m1, rfl⟩⟩ := hrel
    cases gk with
    | zero => exact absurd HA.out (by simp [pontoonref06_in.l0])
    | succ k1 =>
      have H := HA.out
      clear HA
      simp only [pontoonref06_in.l0] at H
      by_cases c3 : x5_1 < (l0.length : Int)
      · rw [if_pos c3] at H
        have c3b0 : decide (x5_1 < (l0.length : Int)) = true := decide_eq_true c3
        clear c3
        by_cases c4 : 0 ≤ x5_1
        · rw [if_pos c4] at H
          have c4b0 : decide (0 ≤ x5_1) = true := decide_eq_true c4
          clear c4
          by_cases c5 : (rdOf ByteArray.empty l0 x5_1).toList = a1.toList
          · rw [if_pos c5] at H
            have c5b0 : ((rdOf ByteArray.empty l0 x5_1).toList == a1.toList) = true := beq_iff_eq.mpr c5
            have c5b1 : ((rdOf ByteArray.empty l0 x5_1).toList != a1.toList) = false := bne_eq_false_iff_eq.mpr c5
            clear c5
            obtain rfl := Option.some.inj H
            have p181 : 0 ≤ (x5_1 : Int) := of_decide_eq_true (by first | (with_reducible assumption) | assumption)
            have q181 : x5_1 < (l0.length : Int) := of_decide_eq_true (by first | (with_reducible assumption) | assumption)
            obtain ⟨ad181, e181, hx181_0⟩ := Kd.at_string HR0.out x5_1 p181 q181
            cases e181
            have q181n := q181
            replace p181 := eq_true p181
            replace q181 := eq_true q181
            go_wp2
            go_ret
            exact ⟨by first | rfl | (simp; done) | (simp [*]; done), by repeat (first | exact Drawn0.refl _ | apply Drawn0.step)⟩
          · rw [if_neg c5] at H
            have c5b0 : ((rdOf ByteArray.empty l0 x5_1).toList == a1.toList) = false := beq_eq_false_iff_ne.mpr c5
            have c5b1 : ((rdOf ByteArray.empty l0 x5_1).toList != a1.toList) = true := bne_iff_ne.mpr c5
            have H' := Aside0.mk H
            clear H
            have p181 : 0 ≤ (x5_1 : Int) := of_decide_eq_true (by first | (with_reducible assumption) | assumption)
            have q181 : x5_1 < (l0.length : Int) := of_decide_eq_true (by first | (with_reducible assumption) | assumption)
            obtain ⟨ad181, e181, hx181_0⟩ := Kd.at_string HR0.out x5_1 p181 q181
            cases e181
            have q181n := q181
            replace p181 := eq_true p181
            replace q181 := eq_true q181
            go_wp2
            go_roundg k1
            case measure => have := HK1.out; omega
            case rel => exact ⟨(wrap64 (x5_1 + 1)), (by first | rfl | (simp; done) | (simp [*]; done)), H', ⟨by have := HK1.out; omega⟩, by repeat (first | exact Drawn0.refl _ | apply Drawn0.step)⟩
        · rw [if_neg c4] at H
          exact absurd H (by simp)
      · rw [if_neg c3] at H
        have c3b0 : decide (x5_1 < (l0.length : Int)) = false := decide_eq_false c3
        clear c3
        obtain rfl := Option.some.inj H
        go_wp2
        go_ret
        exact ⟨by first | rfl | (simp; done) | (simp [*]; done), by repeat (first | exact Drawn0.refl _ | apply Drawn0.step)⟩

end Go.Proofs.Ythfchnoebncpfaa.Pu
