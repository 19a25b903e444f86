-- Written by a program of this session's (wip/ext/run.py) over the kit's print, with contracts of its own.
import Derived.Test.YthfchnoebncpfaaPux0
import Derived.Test.YthfchnoebncpfaaPux1
namespace Go.Proofs.Ythfchnoebncpfaa.Pu
open Go Go.Maps Go.Proofs.Ythfchnoebncpfaa Go.RowKit Go.Proofs.YthfchnoebncpfaaW.PrintWords Go.Proofs.YthfchnoebncpfaaW.PrintLast Go.Proofs.YthfchnoebncpfaaW.PrintMore
attribute [local go_sem] max2_int min2_int max_two min_two max_three min_three max_four min_four   -- for this text's walks alone
set_option linter.unusedVariables false
set_option linter.unusedSimpArgs false

/-! ### class_writes: function 33 -/
mutual
def class_writes.l0 : Nat → List ByteArray → List ByteArray → Int → Int → Option (Bool)
  | 0, _, _, _, _ => none
  | k + 1, x3, x8, x9, x10 => if x10 < x9 then (if 0 ≤ x10 then (if x10 < (x8.length : Int) then (if (rdOf ByteArray.empty x8 x10).toList = ([117, 112, 100, 97, 116, 101] : List UInt8) then (if x10 > 0 then (if 0 ≤ (wrap64 (x10 - 1)) then (if (wrap64 (x10 - 1)) < (x3.length : Int) then (if (rdOf ByteArray.empty x3 (wrap64 (x10 - 1))).toList = ([102, 111, 114] : List UInt8) then (class_writes.l0 k x3 x8 x9 (wrap64 (x10 + 1))) else (some true)) else (none)) else (none)) else (some true)) else (if (rdOf ByteArray.empty x8 x10).toList = ([105, 110, 115, 101, 114, 116] : List UInt8) then (class_writes.j1 k x3 x8 x9 x10 ((rdOf ByteArray.empty x8 x10).toList == ([105, 110, 115, 101, 114, 116] : List UInt8))) else (if (rdOf ByteArray.empty x8 x10).toList = ([100, 101, 108, 101, 116, 101] : List UInt8) then (class_writes.j1 k x3 x8 x9 x10 ((rdOf ByteArray.empty x8 x10).toList == ([100, 101, 108, 101, 116, 101] : List UInt8))) else (if (rdOf ByteArray.empty x8 x10).toList = ([109, 101, 114, 103, 101] : List UInt8) then (class_writes.j1 k x3 x8 x9 x10 ((rdOf ByteArray.empty x8 x10).toList == ([109, 101, 114, 103, 101] : List UInt8))) else (class_writes.j1 k x3 x8 x9 x10 ((rdOf ByteArray.empty x8 x10).toList == ([105, 110, 116, 111] : List UInt8))))))) else (none)) else (none)) else (some false)
def class_writes.j1 : Nat → List ByteArray → List ByteArray → Int → Int → Bool → Option (Bool)
  | 0, _, _, _, _, _ => none
  | k + 1, x3, x8, x9, x10, x18 => if x18 = true then (some true) else (class_writes.l0 k x3 x8 x9 (wrap64 (x10 + 1)))
end
def class_writes.f (k : Nat) (l0 : List (S33)) : Option (Bool) := (class_words.f k l0).bind fun t118 => (class_writes.l0 k t118 t118 (t118.length : Int) 0)
theorem class_writes.mono_l : ∀ k, (∀ y0 y1 y2 y3, LeO (class_writes.l0 k y0 y1 y2 y3) (class_writes.l0 (k + 1) y0 y1 y2 y3)) ∧ (∀ y0 y1 y2 y3 y4, LeO (class_writes.j1 k y0 y1 y2 y3 y4) (class_writes.j1 (k + 1) y0 y1 y2 y3 y4))
  | 0 => ⟨fun _ _ _ _ r h => by simp [class_writes.l0] at h, fun _ _ _ _ _ r h => by simp [class_writes.j1] at h⟩
  | k + 1 => by
    obtain ⟨ih0, ih1⟩ := class_writes.mono_l k
    refine ⟨?_, ?_⟩
    · intro y0 y1 y2 y3
      unfold class_writes.l0
      repeat' first
      | (with_reducible exact ih0 _ _ _ _)
      | (with_reducible exact ih1 _ _ _ _ _)
      | (with_reducible exact class_words.mono _ _)
      | (with_reducible exact LeO.refl _)
      | (with_reducible exact LeO.none _)
      | (with_reducible refine LeO.ite ?_ ?_)
      | (with_reducible refine LeO.bind ?_ (fun _ => ?_))
      | exact ih0 _ _ _ _
      | exact ih1 _ _ _ _ _
      | exact class_words.mono _ _
      | exact LeO.none _
      | refine LeO.ite ?_ ?_
      | refine LeO.bind ?_ (fun _ => ?_)
    · intro y0 y1 y2 y3 y4
      unfold class_writes.j1
      repeat' first
      | (with_reducible exact ih0 _ _ _ _)
      | (with_reducible exact ih1 _ _ _ _ _)
      | (with_reducible exact class_words.mono _ _)
      | (with_reducible exact LeO.refl _)
      | (with_reducible exact LeO.none _)
      | (with_reducible refine LeO.ite ?_ ?_)
      | (with_reducible refine LeO.bind ?_ (fun _ => ?_))
      | exact ih0 _ _ _ _
      | exact ih1 _ _ _ _ _
      | exact class_words.mono _ _
      | exact LeO.none _
      | refine LeO.ite ?_ ?_
      | refine LeO.bind ?_ (fun _ => ?_)
theorem class_writes.mono : ∀ a0 k, LeO (class_writes.f k a0) (class_writes.f (k + 1) a0) := by
  intro a0 k
  obtain ⟨ih0, ih1⟩ := class_writes.mono_l k
  unfold class_writes.f
  repeat' first
      | (with_reducible exact ih0 _ _ _ _)
      | (with_reducible exact ih1 _ _ _ _ _)
      | (with_reducible exact class_words.mono _ _)
      | (with_reducible exact LeO.refl _)
      | (with_reducible exact LeO.none _)
      | (with_reducible refine LeO.ite ?_ ?_)
      | (with_reducible refine LeO.bind ?_ (fun _ => ?_))
      | exact ih0 _ _ _ _
      | exact ih1 _ _ _ _ _
      | exact class_words.mono _ _
      | exact LeO.none _
      | refine LeO.ite ?_ ?_
      | refine LeO.bind ?_ (fun _ => ?_)
set_option maxHeartbeats 8000000 in
set_option maxRecDepth 100000 in
theorem class_writes.calls (k : Nat) (A0 : Option Addr) (c0 : Nat) (l0 : List (S33)) (r : Bool) (w : World) (hr0 : Kd.C k33 w A0 l0.length l0) (hc0 : l0.length ≤ c0) (h : class_writes.f k l0 = some r) :
    Calls Try.prog 33 #[.slice A0 l0.length c0] w fun e w' => e = .returned (.bool r) ∧ Below w.heap.size w w' := by
  have HR0 := Aside0.mk hr0
  have HC0 := Aside0.mk hc0
  clear hr0 hc0
  have HB := Aside0.mk (Below.refl w.heap.size w)
  have H : ((class_words.f k l0).bind fun t118 => (class_writes.l0 k t118 t118 (t118.length : Int) 0)) = some r := h
  clear h
  replace H := Option.bind_eq_some_iff.mp H
  obtain ⟨t118, A20, H⟩ := H
  replace H : (class_writes.l0 k t118 t118 (t118.length : Int) 0) = some r := H
  have A2 := Aside0.mk A20
  clear A20
  have H' := Aside0.mk H
  clear H
  go_enter Try.func33, Try.ntmps33
  go_wp2_with (first | ((with_reducible refine gate_callee (f := 21) rfl ?_); refine goesL_ (some 7) rfl rfl Try.func21 (by kernel_rfl) rfl #[.slice A0 l0.length c0] rfl (by (try simp only [List.map_toArray, List.map_cons, List.map_nil]); first | done | rfl | (simp only [List.length_drop, List.length_take]; rfl)) ?_; (with_reducible refine (class_words.calls k _ _ l0 t118 _ ?side1 ?side2 A2.out).mono ?_); (case side1 => repeat (first | exact HR0.out | (with_reducible refine Kd.C_alloc ?_ _) | (with_reducible refine Kd.C_drewN ?_ _) | (with_reducible refine Kd.C_drew ?_))); (case side2 => exact HC0.out); rintro e w3 ⟨v119, rfl, ho0, hb⟩; refine ⟨_, rfl, ?_⟩; have n0_ := Aside0.mk (Kd.R_lower ho0 (below_size (by repeat (first | (with_reducible first | exact HB.out | apply below_alloc | apply pw_below_drewN | apply below_drew1) | exact HB.out)))); have n1_ := Aside0.mk (below_step (by repeat (first | (with_reducible first | exact HB.out | apply below_alloc | apply pw_below_drewN | apply below_drew1) | exact HB.out)) hb); clear HB; have HO120 := n0_; have HB := n1_; clear n0_ n1_; (try clear hb); (try clear hb2); (try clear hk); (try clear hi); (try clear ho0); obtain ⟨Ao4, co4, eo4⟩ := Kd.R_slice HO120.out; subst eo4))
  go_loopg [10] k (fun kq v10 w' => ∃ (x10_1 : Int), v10 = .int .i64 x10_1 ∧ Aside0 (class_writes.l0 kq t118 t118 (t118.length : Int) x10_1 = some r) ∧ Aside0 (kq ≤ k) ∧ Aside0 (Kd.R Kd.string 9 w' w.heap.size (fun _ => True) (.slice Ao4 t118.length co4) t118) ∧ Aside0 (Kd.R Kd.string 9 w' w.heap.size (fun _ => True) (.slice Ao4 t118.length co4) t118) ∧ Aside0 (Below w.heap.size w w'))
  case atStart => exact ⟨(0), (by first | rfl | (simp; done) | (simp [*]; done)), H', ⟨Nat.le_refl _⟩, ⟨by (with_reducible repeat (first | apply Kd.R_alloc | apply Kd.R_drewN | apply Kd.R_drew)); exact HO120.out⟩, ⟨by (with_reducible repeat (first | apply Kd.R_alloc | apply Kd.R_drewN | apply Kd.R_drew)); exact HO120.out⟩, ⟨by repeat (first | (with_reducible first | exact HB.out | apply below_alloc | apply pw_below_drewN | apply below_drew1) | exact HB.out)⟩⟩
  case round =>
    clear H'
    try clear c2
    try clear p2
    try clear c3
    obtain ⟨x10_1, rfl, HA, HK1, HO_3, HO_8, HB⟩ := hrel
    cases gk with
    | zero => exact absurd HA.out (by simp [class_writes.l0])
    | succ k1 =>
      have H := HA.out
      clear HA
      simp only [class_writes.l0] at H
      by_cases c5 : x10_1 < (t118.length : Int)
      · rw [if_pos c5] at H
        have c5b0 : decide (x10_1 < (t118.length : Int)) = true := decide_eq_true c5
        clear c5
        by_cases c6 : 0 ≤ x10_1
        · rw [if_pos c6] at H
          have c6b0 : decide (0 ≤ x10_1) = true := decide_eq_true c6
          clear c6
          by_cases c7 : x10_1 < (t118.length : Int)
          · rw [if_pos c7] at H
            have c7b0 : decide (x10_1 < (t118.length : Int)) = true := decide_eq_true c7
            clear c7
            by_cases c8 : (rdOf ByteArray.empty t118 x10_1).toList = ([117, 112, 100, 97, 116, 101] : List UInt8)
            · rw [if_pos c8] at H
              have c8b0 : ((rdOf ByteArray.empty t118 x10_1).toList == ([117, 112, 100, 97, 116, 101] : List UInt8)) = true := beq_iff_eq.mpr c8
              have c8b1 : ((rdOf ByteArray.empty t118 x10_1).toList != ([117, 112, 100, 97, 116, 101] : List UInt8)) = false := bne_eq_false_iff_eq.mpr c8
              clear c8
              by_cases c9 : x10_1 > 0
              · rw [if_pos c9] at H
                have c9b0 : decide (0 < x10_1) = true := decide_eq_true c9
                clear c9
                obtain ⟨ji10, hji10⟩ : ∃ j_ : Int, (wrap64 (x10_1 - 1)) = j_ := ⟨_, rfl⟩
                replace H : (if 0 ≤ (ji10) then (if (ji10) < (t118.length : Int) then (if (rdOf ByteArray.empty t118 (ji10)).toList = ([102, 111, 114] : List UInt8) then (class_writes.l0 k1 t118 t118 (t118.length : Int) (wrap64 (x10_1 + 1))) else (some true)) else (none)) else (none)) = some r := by first | (rw [hji10] at H; exact H) | (simp only [hji10] at H ⊢; exact H)
                have hji10w : (IntKind.i64.wrap (x10_1 - 1)) = ji10 := (i64_w _).trans hji10
                by_cases c11 : 0 ≤ (ji10)
                · rw [if_pos c11] at H
                  have c11b0 : decide (0 ≤ (ji10)) = true := decide_eq_true c11
                  clear c11
                  by_cases c12 : (ji10) < (t118.length : Int)
                  · rw [if_pos c12] at H
                    have c12b0 : decide ((ji10) < (t118.length : Int)) = true := decide_eq_true c12
                    clear c12
                    by_cases c13 : (rdOf ByteArray.empty t118 (ji10)).toList = ([102, 111, 114] : List UInt8)
                    · rw [if_pos c13] at H
                      have c13b0 : ((rdOf ByteArray.empty t118 (ji10)).toList == ([102, 111, 114] : List UInt8)) = true := beq_iff_eq.mpr c13
                      have c13b1 : ((rdOf ByteArray.empty t118 (ji10)).toList != ([102, 111, 114] : List UInt8)) = false := bne_eq_false_iff_eq.mpr c13
                      clear c13
                      have H' := Aside0.mk H
                      clear H
                      have p121 : 0 ≤ (x10_1 : Int) := of_decide_eq_true (by first | (with_reducible assumption) | assumption)
                      have q121 : x10_1 < (t118.length : Int) := of_decide_eq_true (by first | (with_reducible assumption) | assumption)
                      obtain ⟨ad121, e121, hx121_0⟩ := Kd.at_string (Kd.R_reads' HO_8.out).2.2 x10_1 p121 q121
                      cases e121
                      have q121n := q121
                      replace p121 := eq_true p121
                      replace q121 := eq_true q121
                      have p122 : 0 ≤ ((ji10) : Int) := of_decide_eq_true (by first | (with_reducible assumption) | assumption)
                      have q122 : (ji10) < (t118.length : Int) := of_decide_eq_true (by first | (with_reducible assumption) | assumption)
                      obtain ⟨ad122, e122, hx122_0⟩ := Kd.at_string (Kd.R_reads' HO_3.out).2.2 (ji10) p122 q122
                      obtain rfl : ad121 = ad122 := (by injection e122)
                      have q122n := q122
                      replace p122 := eq_true p122
                      replace q122 := eq_true q122
                      go_wp2
                      go_roundg k1
                      case measure => have := HK1.out; omega
                      case rel => exact ⟨(wrap64 (x10_1 + 1)), (by first | rfl | (simp; done) | (simp [*]; done)), H', ⟨by have := HK1.out; omega⟩, ⟨by (with_reducible repeat (first | apply Kd.R_alloc | apply Kd.R_drewN | apply Kd.R_drew)); exact HO_3.out⟩, ⟨by (with_reducible repeat (first | apply Kd.R_alloc | apply Kd.R_drewN | apply Kd.R_drew)); exact HO_8.out⟩, ⟨by repeat (first | (with_reducible first | exact HB.out | apply below_alloc | apply pw_below_drewN | apply below_drew1) | exact HB.out)⟩⟩
                    · rw [if_neg c13] at H
                      have c13b0 : ((rdOf ByteArray.empty t118 (ji10)).toList == ([102, 111, 114] : List UInt8)) = false := beq_eq_false_iff_ne.mpr c13
                      have c13b1 : ((rdOf ByteArray.empty t118 (ji10)).toList != ([102, 111, 114] : List UInt8)) = true := bne_iff_ne.mpr c13
                      obtain rfl := Option.some.inj H
                      have p121 : 0 ≤ (x10_1 : Int) := of_decide_eq_true (by first | (with_reducible assumption) | assumption)
                      have q121 : x10_1 < (t118.length : Int) := of_decide_eq_true (by first | (with_reducible assumption) | assumption)
                      obtain ⟨ad121, e121, hx121_0⟩ := Kd.at_string (Kd.R_reads' HO_8.out).2.2 x10_1 p121 q121
                      cases e121
                      have q121n := q121
                      replace p121 := eq_true p121
                      replace q121 := eq_true q121
                      have p122 : 0 ≤ ((ji10) : Int) := of_decide_eq_true (by first | (with_reducible assumption) | assumption)
                      have q122 : (ji10) < (t118.length : Int) := of_decide_eq_true (by first | (with_reducible assumption) | assumption)
                      obtain ⟨ad122, e122, hx122_0⟩ := Kd.at_string (Kd.R_reads' HO_3.out).2.2 (ji10) p122 q122
                      obtain rfl : ad121 = ad122 := (by injection e122)
                      have q122n := q122
                      replace p122 := eq_true p122
                      replace q122 := eq_true q122
                      go_wp2
                      go_ret
                      exact ⟨by first | rfl | (simp [errW_none, errW_some] <;> rfl) | (simp only [← hji10]; first | rfl | (simp [errW_none, errW_some] <;> rfl)) | (simp [*, errW_none, errW_some] <;> rfl), by repeat (first | (with_reducible first | exact HB.out | apply below_alloc | apply pw_below_drewN | apply below_drew1) | exact HB.out)⟩
                  · rw [if_neg c12] at H
                    exact absurd H (by simp)
                · rw [if_neg c11] at H
                  exact absurd H (by simp)
              · rw [if_neg c9] at H
                have c9b0 : decide (0 < x10_1) = false := decide_eq_false c9
                clear c9
                obtain rfl := Option.some.inj H
                have p121 : 0 ≤ (x10_1 : Int) := of_decide_eq_true (by first | (with_reducible assumption) | assumption)
                have q121 : x10_1 < (t118.length : Int) := of_decide_eq_true (by first | (with_reducible assumption) | assumption)
                obtain ⟨ad121, e121, hx121_0⟩ := Kd.at_string (Kd.R_reads' HO_8.out).2.2 x10_1 p121 q121
                cases e121
                have q121n := q121
                replace p121 := eq_true p121
                replace q121 := eq_true q121
                go_wp2
                go_ret
                exact ⟨by first | rfl | (simp [errW_none, errW_some] <;> rfl) | (simp [*, errW_none, errW_some] <;> rfl), by repeat (first | (with_reducible first | exact HB.out | apply below_alloc | apply pw_below_drewN | apply below_drew1) | exact HB.out)⟩
            · rw [if_neg c8] at H
              have c8b0 : ((rdOf ByteArray.empty t118 x10_1).toList == ([117, 112, 100, 97, 116, 101] : List UInt8)) = false := beq_eq_false_iff_ne.mpr c8
              have c8b1 : ((rdOf ByteArray.empty t118 x10_1).toList != ([117, 112, 100, 97, 116, 101] : List UInt8)) = true := bne_iff_ne.mpr c8
              have HC14 := Aside0.mk H
              clear H
              have p121 : 0 ≤ (x10_1 : Int) := of_decide_eq_true (by first | (with_reducible assumption) | assumption)
              have q121 : x10_1 < (t118.length : Int) := of_decide_eq_true (by first | (with_reducible assumption) | assumption)
              obtain ⟨ad121, e121, hx121_0⟩ := Kd.at_string (Kd.R_reads' HO_8.out).2.2 x10_1 p121 q121
              cases e121
              have q121n := q121
              replace p121 := eq_true p121
              replace q121 := eq_true q121
              go_upto_if 18 with (fail)
              go_cut [18] (fun v18 wc => ∃ (kq : Nat) (x18_13 : Bool), v18 = .bool x18_13 ∧ Aside0 (class_writes.j1 kq t118 t118 (t118.length : Int) x10_1 x18_13 = some r) ∧ Aside0 (kq ≤ k1) ∧ Aside0 (Kd.R Kd.string 9 wc w.heap.size (fun _ => True) (.slice (some ad121) t118.length co4) t118) ∧ Aside0 (Kd.R Kd.string 9 wc w.heap.size (fun _ => True) (.slice (some ad121) t118.length co4) t118) ∧ Aside0 (Below w.heap.size w wc))
              case first =>
                have H := HC14.out
                clear HC14
                by_cases c15 : (rdOf ByteArray.empty t118 x10_1).toList = ([105, 110, 115, 101, 114, 116] : List UInt8)
                · rw [if_pos c15] at H
                  have c15b0 : ((rdOf ByteArray.empty t118 x10_1).toList == ([105, 110, 115, 101, 114, 116] : List UInt8)) = true := beq_iff_eq.mpr c15
                  have c15b1 : ((rdOf ByteArray.empty t118 x10_1).toList != ([105, 110, 115, 101, 114, 116] : List UInt8)) = false := bne_eq_false_iff_eq.mpr c15
                  clear c15
                  (first | rw [c15b0] | (simp only [i64_w, i32_w]; rw [c15b0]) | skip)
                  have H' := Aside0.mk H
                  clear H
                  go_wp2
                  go_meet
                  case rel => exact ⟨_, (((rdOf ByteArray.empty t118 x10_1).toList == ([105, 110, 115, 101, 114, 116] : List UInt8))), (by first | rfl | (simp; done) | (simp [*]; done)), H', ⟨by have := HK1.out; first | omega | exact Nat.le_refl _⟩, ⟨by (with_reducible repeat (first | apply Kd.R_alloc | apply Kd.R_drewN | apply Kd.R_drew)); exact HO_3.out⟩, ⟨by (with_reducible repeat (first | apply Kd.R_alloc | apply Kd.R_drewN | apply Kd.R_drew)); exact HO_8.out⟩, ⟨by repeat (first | (with_reducible first | exact HB.out | apply below_alloc | apply pw_below_drewN | apply below_drew1) | exact HB.out)⟩⟩
                · rw [if_neg c15] at H
                  have c15b0 : ((rdOf ByteArray.empty t118 x10_1).toList == ([105, 110, 115, 101, 114, 116] : List UInt8)) = false := beq_eq_false_iff_ne.mpr c15
                  have c15b1 : ((rdOf ByteArray.empty t118 x10_1).toList != ([105, 110, 115, 101, 114, 116] : List UInt8)) = true := bne_iff_ne.mpr c15
                  (first | rw [c15b0] | (simp only [i64_w, i32_w]; rw [c15b0]) | skip)
                  by_cases c16 : (rdOf ByteArray.empty t118 x10_1).toList = ([100, 101, 108, 101, 116, 101] : List UInt8)
                  · rw [if_pos c16] at H
                    have c16b0 : ((rdOf ByteArray.empty t118 x10_1).toList == ([100, 101, 108, 101, 116, 101] : List UInt8)) = true := beq_iff_eq.mpr c16
                    have c16b1 : ((rdOf ByteArray.empty t118 x10_1).toList != ([100, 101, 108, 101, 116, 101] : List UInt8)) = false := bne_eq_false_iff_eq.mpr c16
                    clear c16
                    have H' := Aside0.mk H
                    clear H
                    go_wp2
                    go_meet
                    case rel => exact ⟨_, (((rdOf ByteArray.empty t118 x10_1).toList == ([100, 101, 108, 101, 116, 101] : List UInt8))), (by first | rfl | (simp; done) | (simp [*]; done)), H', ⟨by have := HK1.out; first | omega | exact Nat.le_refl _⟩, ⟨by (with_reducible repeat (first | apply Kd.R_alloc | apply Kd.R_drewN | apply Kd.R_drew)); exact HO_3.out⟩, ⟨by (with_reducible repeat (first | apply Kd.R_alloc | apply Kd.R_drewN | apply Kd.R_drew)); exact HO_8.out⟩, ⟨by repeat (first | (with_reducible first | exact HB.out | apply below_alloc | apply pw_below_drewN | apply below_drew1) | exact HB.out)⟩⟩
                  · rw [if_neg c16] at H
                    have c16b0 : ((rdOf ByteArray.empty t118 x10_1).toList == ([100, 101, 108, 101, 116, 101] : List UInt8)) = false := beq_eq_false_iff_ne.mpr c16
                    have c16b1 : ((rdOf ByteArray.empty t118 x10_1).toList != ([100, 101, 108, 101, 116, 101] : List UInt8)) = true := bne_iff_ne.mpr c16
                    by_cases c17 : (rdOf ByteArray.empty t118 x10_1).toList = ([109, 101, 114, 103, 101] : List UInt8)
                    · rw [if_pos c17] at H
                      have c17b0 : ((rdOf ByteArray.empty t118 x10_1).toList == ([109, 101, 114, 103, 101] : List UInt8)) = true := beq_iff_eq.mpr c17
                      have c17b1 : ((rdOf ByteArray.empty t118 x10_1).toList != ([109, 101, 114, 103, 101] : List UInt8)) = false := bne_eq_false_iff_eq.mpr c17
                      clear c17
                      have H' := Aside0.mk H
                      clear H
                      go_wp2
                      go_meet
                      case rel => exact ⟨_, (((rdOf ByteArray.empty t118 x10_1).toList == ([109, 101, 114, 103, 101] : List UInt8))), (by first | rfl | (simp; done) | (simp [*]; done)), H', ⟨by have := HK1.out; first | omega | exact Nat.le_refl _⟩, ⟨by (with_reducible repeat (first | apply Kd.R_alloc | apply Kd.R_drewN | apply Kd.R_drew)); exact HO_3.out⟩, ⟨by (with_reducible repeat (first | apply Kd.R_alloc | apply Kd.R_drewN | apply Kd.R_drew)); exact HO_8.out⟩, ⟨by repeat (first | (with_reducible first | exact HB.out | apply below_alloc | apply pw_below_drewN | apply below_drew1) | exact HB.out)⟩⟩
                    · rw [if_neg c17] at H
                      have c17b0 : ((rdOf ByteArray.empty t118 x10_1).toList == ([109, 101, 114, 103, 101] : List UInt8)) = false := beq_eq_false_iff_ne.mpr c17
                      have c17b1 : ((rdOf ByteArray.empty t118 x10_1).toList != ([109, 101, 114, 103, 101] : List UInt8)) = true := bne_iff_ne.mpr c17
                      have H' := Aside0.mk H
                      clear H
                      go_wp2
                      go_meet
                      case rel => exact ⟨_, (((rdOf ByteArray.empty t118 x10_1).toList == ([105, 110, 116, 111] : List UInt8))), (by first | rfl | (simp; done) | (simp [*]; done)), H', ⟨by have := HK1.out; first | omega | exact Nat.le_refl _⟩, ⟨by (with_reducible repeat (first | apply Kd.R_alloc | apply Kd.R_drewN | apply Kd.R_drew)); exact HO_3.out⟩, ⟨by (with_reducible repeat (first | apply Kd.R_alloc | apply Kd.R_drewN | apply Kd.R_drew)); exact HO_8.out⟩, ⟨by repeat (first | (with_reducible first | exact HB.out | apply below_alloc | apply pw_below_drewN | apply below_drew1) | exact HB.out)⟩⟩
              case rest =>
                clear HC14
                try clear c1
                try clear p1
                try clear q1
                try clear hx1
                try clear c2
                try clear p2
                try clear c3
                try clear c5
                try clear c5b0
                try clear c6
                try clear c6b0
                try clear p6
                try clear c7
                try clear c7b0
                try clear c8
                try clear c8b0
                try clear c8b1
                try clear c9
                try clear c9b0
                try clear c11
                try clear c11b0
                try clear c12
                try clear c12b0
                try clear p12
                try clear q12
                try clear hx12
                try clear c13
                try clear c13b0
                try clear c13b1
                try clear c15
                try clear c15b0
                try clear c15b1
                try clear c16
                try clear c16b0
                try clear c16b1
                try clear c17
                try clear c17b0
                try clear c17b1
                try clear hx121_0
                try clear hx122_0
                try clear p121
                try clear p122
                try clear p2
                try clear q121
                try clear q122
                obtain ⟨kq, x18_13, rfl, HA, HJ13, HO_3, HO_8, HB⟩ := hcut
                cases kq with
                | zero => exact absurd HA.out (by simp [class_writes.j1])
                | succ kj13 =>
                  have H := HA.out
                  clear HA
                  simp only [class_writes.j1] at H
                  by_cases c18 : x18_13 = true
                  · subst c18
                    have H1 : (some true) = some r := by rw [if_pos rfl] at H; exact H
                    clear H
                    have H := H1
                    clear H1
                    obtain rfl := Option.some.inj H
                    go_wp2
                    go_ret
                    exact ⟨by first | rfl | (simp [errW_none, errW_some] <;> rfl) | (simp [*, errW_none, errW_some] <;> rfl), by repeat (first | (with_reducible first | exact HB.out | apply below_alloc | apply pw_below_drewN | apply below_drew1) | exact HB.out)⟩
                  · replace c18 := Bool.eq_false_iff.mpr c18
                    subst c18
                    have H1 : (class_writes.l0 kj13 t118 t118 (t118.length : Int) (wrap64 (x10_1 + 1))) = some r := by rw [if_neg (show ¬ (false = true) by decide)] at H; exact H
                    clear H
                    have H := H1
                    clear H1
                    have H' := Aside0.mk H
                    clear H
                    go_wp2
                    go_roundg kj13
                    case measure => have := HK1.out; have := HJ13.out; omega
                    case rel => exact ⟨(wrap64 (x10_1 + 1)), (by first | rfl | (simp; done) | (simp [*]; done)), H', ⟨by have := HK1.out; have := HJ13.out; omega⟩, ⟨by (with_reducible repeat (first | apply Kd.R_alloc | apply Kd.R_drewN | apply Kd.R_drew)); exact HO_3.out⟩, ⟨by (with_reducible repeat (first | apply Kd.R_alloc | apply Kd.R_drewN | apply Kd.R_drew)); exact HO_8.out⟩, ⟨by repeat (first | (with_reducible first | exact HB.out | apply below_alloc | apply pw_below_drewN | apply below_drew1) | exact HB.out)⟩⟩
          · rw [if_neg c7] at H
            exact absurd H (by simp)
        · rw [if_neg c6] at H
          exact absurd H (by simp)
      · rw [if_neg c5] at H
        have c5b0 : decide (x10_1 < (t118.length : Int)) = false := decide_eq_false c5
        clear c5
        obtain rfl := Option.some.inj H
        go_wp2
        go_ret
        exact ⟨by first | rfl | (simp [errW_none, errW_some] <;> rfl) | (simp [*, errW_none, errW_some] <;> rfl), by repeat (first | (with_reducible first | exact HB.out | apply below_alloc | apply pw_below_drewN | apply below_drew1) | exact HB.out)⟩

/-! ### class_changing: function 34 -/
def class_changing.f (k : Nat) (a0 : ByteArray) : Option (Bool) := if (a0.size : Int) ≥ 3 then (if 0 ≤ 3 then (if 3 ≤ (a0.size : Int) then (if (a0.extract 0 3).toList = ([112, 103, 95] : List UInt8) then (some true) else ((class_in.f k a0 (([(⟨#[110, 111, 119]⟩ : ByteArray), (⟨#[114, 97, 110, 100, 111, 109]⟩ : ByteArray), (⟨#[110, 101, 120, 116, 118, 97, 108]⟩ : ByteArray), (⟨#[99, 117, 114, 114, 118, 97, 108]⟩ : ByteArray), (⟨#[115, 101, 116, 118, 97, 108]⟩ : ByteArray), (⟨#[108, 97, 115, 116, 118, 97, 108]⟩ : ByteArray), (⟨#[99, 108, 111, 99, 107, 95, 116, 105, 109, 101, 115, 116, 97, 109, 112]⟩ : ByteArray), (⟨#[116, 120, 105, 100, 95, 99, 117, 114, 114, 101, 110, 116]⟩ : ByteArray)] : List ByteArray))).bind fun t126 => (some t126))) else (none)) else (none)) else ((class_in.f k a0 (([(⟨#[110, 111, 119]⟩ : ByteArray), (⟨#[114, 97, 110, 100, 111, 109]⟩ : ByteArray), (⟨#[110, 101, 120, 116, 118, 97, 108]⟩ : ByteArray), (⟨#[99, 117, 114, 114, 118, 97, 108]⟩ : ByteArray), (⟨#[115, 101, 116, 118, 97, 108]⟩ : ByteArray), (⟨#[108, 97, 115, 116, 118, 97, 108]⟩ : ByteArray), (⟨#[99, 108, 111, 99, 107, 95, 116, 105, 109, 101, 115, 116, 97, 109, 112]⟩ : ByteArray), (⟨#[116, 120, 105, 100, 95, 99, 117, 114, 114, 101, 110, 116]⟩ : ByteArray)] : List ByteArray))).bind fun t130 => (some t130))
theorem class_changing.mono : ∀ a0 k, LeO (class_changing.f k a0) (class_changing.f (k + 1) a0) := by
  intro a0 k
  unfold class_changing.f
  repeat' first
      | (with_reducible exact class_in.mono _ _ _)
      | (with_reducible exact LeO.refl _)
      | (with_reducible exact LeO.none _)
      | (with_reducible refine LeO.ite ?_ ?_)
      | (with_reducible refine LeO.bind ?_ (fun _ => ?_))
      | exact class_in.mono _ _ _
      | exact LeO.none _
      | refine LeO.ite ?_ ?_
      | refine LeO.bind ?_ (fun _ => ?_)
set_option maxHeartbeats 8000000 in
set_option maxRecDepth 100000 in
theorem class_changing.calls (k : Nat) (a0 : ByteArray) (r : Bool) (w : World) (h : class_changing.f k a0 = some r) :
    Calls Try.prog 34 #[.string a0] w fun e w' => e = .returned (.bool r) ∧ Below w.heap.size w w' := by
  have HB := Aside0.mk (Below.refl w.heap.size w)
  have H : (if (a0.size : Int) ≥ 3 then (if 0 ≤ 3 then (if 3 ≤ (a0.size : Int) then (if (a0.extract 0 3).toList = ([112, 103, 95] : List UInt8) then (some true) else ((class_in.f k a0 (([(⟨#[110, 111, 119]⟩ : ByteArray), (⟨#[114, 97, 110, 100, 111, 109]⟩ : ByteArray), (⟨#[110, 101, 120, 116, 118, 97, 108]⟩ : ByteArray), (⟨#[99, 117, 114, 114, 118, 97, 108]⟩ : ByteArray), (⟨#[115, 101, 116, 118, 97, 108]⟩ : ByteArray), (⟨#[108, 97, 115, 116, 118, 97, 108]⟩ : ByteArray), (⟨#[99, 108, 111, 99, 107, 95, 116, 105, 109, 101, 115, 116, 97, 109, 112]⟩ : ByteArray), (⟨#[116, 120, 105, 100, 95, 99, 117, 114, 114, 101, 110, 116]⟩ : ByteArray)] : List ByteArray))).bind fun t126 => (some t126))) else (none)) else (none)) else ((class_in.f k a0 (([(⟨#[110, 111, 119]⟩ : ByteArray), (⟨#[114, 97, 110, 100, 111, 109]⟩ : ByteArray), (⟨#[110, 101, 120, 116, 118, 97, 108]⟩ : ByteArray), (⟨#[99, 117, 114, 114, 118, 97, 108]⟩ : ByteArray), (⟨#[115, 101, 116, 118, 97, 108]⟩ : ByteArray), (⟨#[108, 97, 115, 116, 118, 97, 108]⟩ : ByteArray), (⟨#[99, 108, 111, 99, 107, 95, 116, 105, 109, 101, 115, 116, 97, 109, 112]⟩ : ByteArray), (⟨#[116, 120, 105, 100, 95, 99, 117, 114, 114, 101, 110, 116]⟩ : ByteArray)] : List ByteArray))).bind fun t130 => (some t130))) = some r := h
  clear h
  by_cases c2 : (a0.size : Int) ≥ 3
  · rw [if_pos c2] at H
    have c2b0 : decide (3 ≤ (a0.size : Int)) = true := decide_eq_true c2
    have c2b1 : decide (3 ≤ a0.size) = true := decide_eq_true (by omega)
    clear c2
    by_cases c3 : 0 ≤ 3
    · rw [if_pos c3] at H
      have c3b0 := eq_true c3
      have c3b1 : decide (0 ≤ 3) = true := decide_eq_true c3
      by_cases c4 : 3 ≤ (a0.size : Int)
      · rw [if_pos c4] at H
        have c4b0 := eq_true c4
        have c4b1 : decide (3 ≤ (a0.size : Int)) = true := decide_eq_true c4
        by_cases c5 : (a0.extract 0 3).toList = ([112, 103, 95] : List UInt8)
        · rw [if_pos c5] at H
          have c5b0 : ((a0.extract 0 3).toList == ([112, 103, 95] : List UInt8)) = true := beq_iff_eq.mpr c5
          have c5b1 : ((a0.extract 0 3).toList != ([112, 103, 95] : List UInt8)) = false := bne_eq_false_iff_eq.mpr c5
          clear c5
          obtain rfl := Option.some.inj H
          go_enter Try.func34, Try.ntmps34
          go_wp2
          go_ret
          exact ⟨by first | rfl | (simp [errW_none, errW_some] <;> rfl) | (simp [*, errW_none, errW_some] <;> rfl), by repeat (first | (with_reducible first | exact HB.out | apply below_alloc | apply pw_below_drewN | apply below_drew1) | exact HB.out)⟩
        · rw [if_neg c5] at H
          have c5b0 : ((a0.extract 0 3).toList == ([112, 103, 95] : List UInt8)) = false := beq_eq_false_iff_ne.mpr c5
          have c5b1 : ((a0.extract 0 3).toList != ([112, 103, 95] : List UInt8)) = true := bne_iff_ne.mpr c5
          obtain ⟨y123, hy123⟩ : ∃ y_ : List ByteArray, y_ = (([(⟨#[110, 111, 119]⟩ : ByteArray), (⟨#[114, 97, 110, 100, 111, 109]⟩ : ByteArray), (⟨#[110, 101, 120, 116, 118, 97, 108]⟩ : ByteArray), (⟨#[99, 117, 114, 114, 118, 97, 108]⟩ : ByteArray), (⟨#[115, 101, 116, 118, 97, 108]⟩ : ByteArray), (⟨#[108, 97, 115, 116, 118, 97, 108]⟩ : ByteArray), (⟨#[99, 108, 111, 99, 107, 95, 116, 105, 109, 101, 115, 116, 97, 109, 112]⟩ : ByteArray), (⟨#[116, 120, 105, 100, 95, 99, 117, 114, 114, 101, 110, 116]⟩ : ByteArray)] : List ByteArray)) := ⟨_, rfl⟩
          replace H : ((class_in.f k a0 y123).bind fun t126 => (some t126)) = some r := by first | (rw [hy123]; with_reducible exact H) | (have H2_ := (Option.bind_some _ _).symm.trans H; rw [hy123]; with_reducible exact H2_) | (have H2_ := (Option.bind_some _ _).symm.trans H; with_reducible exact H2_) | with_reducible exact H | (rw [hy123]; exact H) | exact H
          have Ny123 := Aside0.mk hy123
          clear hy123
          replace H := Option.bind_eq_some_iff.mp H
          obtain ⟨t126, A60, H⟩ := H
          replace H : (some t126) = some r := H
          have A6 := Aside0.mk A60
          clear A60
          obtain rfl := Option.some.inj H
          go_enter Try.func34, Try.ntmps34
          go_wp2_with (first | ((with_reducible refine gate_dst (N := 12) rfl ?_); refine Kd.R_lit Kd.string _ 9 ?hg (N := 12) ?hd (xs := ([(⟨#[110, 111, 119]⟩ : ByteArray), (⟨#[114, 97, 110, 100, 111, 109]⟩ : ByteArray), (⟨#[110, 101, 120, 116, 118, 97, 108]⟩ : ByteArray), (⟨#[99, 117, 114, 114, 118, 97, 108]⟩ : ByteArray), (⟨#[115, 101, 116, 118, 97, 108]⟩ : ByteArray), (⟨#[108, 97, 115, 116, 118, 97, 108]⟩ : ByteArray), (⟨#[99, 108, 111, 99, 107, 95, 116, 105, 109, 101, 115, 116, 97, 109, 112]⟩ : ByteArray), (⟨#[116, 120, 105, 100, 95, 99, 117, 114, 114, 101, 110, 116]⟩ : ByteArray)] : List ByteArray)) (inner := [.string (⟨#[110, 111, 119]⟩ : ByteArray), .string (⟨#[114, 97, 110, 100, 111, 109]⟩ : ByteArray), .string (⟨#[110, 101, 120, 116, 118, 97, 108]⟩ : ByteArray), .string (⟨#[99, 117, 114, 114, 118, 97, 108]⟩ : ByteArray), .string (⟨#[115, 101, 116, 118, 97, 108]⟩ : ByteArray), .string (⟨#[108, 97, 115, 116, 118, 97, 108]⟩ : ByteArray), .string (⟨#[99, 108, 111, 99, 107, 95, 116, 105, 109, 101, 115, 116, 97, 109, 112]⟩ : ByteArray), .string (⟨#[116, 120, 105, 100, 95, 99, 117, 114, 114, 101, 110, 116]⟩ : ByteArray)]) (ok := fun _ => True) (okp := fun _ => True) ?hr ?hp (fun _ hk => hk) trivial (Below.refl _ _) (Nat.le_refl _) (by simp) ?_; (case hd => rfl); (case hg => rfl); (case hr => first | (go_simp; done) | (go_simp; rfl)); (case hp => exact (Reps.one (show Kd.M Kd.string _ _ _ (⟨#[110, 111, 119]⟩ : ByteArray) [.string (⟨#[110, 111, 119]⟩ : ByteArray)] from rfl) (Reps.one (show Kd.M Kd.string _ _ _ (⟨#[114, 97, 110, 100, 111, 109]⟩ : ByteArray) [.string (⟨#[114, 97, 110, 100, 111, 109]⟩ : ByteArray)] from rfl) (Reps.one (show Kd.M Kd.string _ _ _ (⟨#[110, 101, 120, 116, 118, 97, 108]⟩ : ByteArray) [.string (⟨#[110, 101, 120, 116, 118, 97, 108]⟩ : ByteArray)] from rfl) (Reps.one (show Kd.M Kd.string _ _ _ (⟨#[99, 117, 114, 114, 118, 97, 108]⟩ : ByteArray) [.string (⟨#[99, 117, 114, 114, 118, 97, 108]⟩ : ByteArray)] from rfl) (Reps.one (show Kd.M Kd.string _ _ _ (⟨#[115, 101, 116, 118, 97, 108]⟩ : ByteArray) [.string (⟨#[115, 101, 116, 118, 97, 108]⟩ : ByteArray)] from rfl) (Reps.one (show Kd.M Kd.string _ _ _ (⟨#[108, 97, 115, 116, 118, 97, 108]⟩ : ByteArray) [.string (⟨#[108, 97, 115, 116, 118, 97, 108]⟩ : ByteArray)] from rfl) (Reps.one (show Kd.M Kd.string _ _ _ (⟨#[99, 108, 111, 99, 107, 95, 116, 105, 109, 101, 115, 116, 97, 109, 112]⟩ : ByteArray) [.string (⟨#[99, 108, 111, 99, 107, 95, 116, 105, 109, 101, 115, 116, 97, 109, 112]⟩ : ByteArray)] from rfl) (Reps.one (show Kd.M Kd.string _ _ _ (⟨#[116, 120, 105, 100, 95, 99, 117, 114, 114, 101, 110, 116]⟩ : ByteArray) [.string (⟨#[116, 120, 105, 100, 95, 99, 117, 114, 114, 101, 110, 116]⟩ : ByteArray)] from rfl) (Reps.none _ _)))))))))); intro v124 w7 ho8 hb hg_ hnew_; clear hg_ hnew_; (first | rw [← Ny123.out] at ho8 | (simp only [Int.reduceToNat] at ho8; rw [← Ny123.out] at ho8)); have n0_ := Aside0.mk (Kd.R_lower ho8 (below_size (by repeat (first | (with_reducible first | exact HB.out | apply below_alloc | apply pw_below_drewN | apply below_drew1) | exact HB.out)))); have n1_ := Aside0.mk (below_step (by repeat (first | (with_reducible first | exact HB.out | apply below_alloc | apply pw_below_drewN | apply below_drew1) | exact HB.out)) hb); clear HB; have HO125 := n0_; have HB := n1_; clear n0_ n1_; clear hb ho8; obtain ⟨Ao9, co9, eo9⟩ := Kd.R_slice HO125.out; subst eo9) | ((with_reducible refine gate_callee (f := 23) rfl ?_); refine goesL_ (some 13) rfl rfl Try.func23 (by kernel_rfl) rfl #[.string a0, .slice Ao9 y123.length co9] rfl (by (try simp only [List.map_toArray, List.map_cons, List.map_nil]); first | done | rfl | (simp only [List.length_drop, List.length_take]; rfl)) ?_; (with_reducible refine (class_in.calls k a0 _ _ y123 t126 _ ?side1 ?side2 A6.out).mono ?_); (case side1 => repeat (first | exact (Kd.R_reads' HO125.out).2.2 | (with_reducible refine Kd.C_alloc ?_ _) | (with_reducible refine Kd.C_drewN ?_ _) | (with_reducible refine Kd.C_drew ?_))); (case side2 => exact (Kd.R_reads' HO125.out).2.1); rintro e w' ⟨rfl, ⟨nd, rfl⟩⟩; refine ⟨_, rfl, ?_⟩))
          go_ret
          exact ⟨by first | rfl | (simp [errW_none, errW_some] <;> rfl) | (simp [*, errW_none, errW_some] <;> rfl), by repeat (first | (with_reducible first | exact HB.out | apply below_alloc | apply pw_below_drewN | apply below_drew1) | exact HB.out)⟩
      · rw [if_neg c4] at H
        exact absurd H (by simp)
    · rw [if_neg c3] at H
      exact absurd H (by simp)
  · rw [if_neg c2] at H
    have c2b0 : decide (3 ≤ (a0.size : Int)) = false := decide_eq_false c2
    have c2b1 : decide (3 ≤ a0.size) = false := decide_eq_false (by omega)
    clear c2
    obtain ⟨y127, hy127⟩ : ∃ y_ : List ByteArray, y_ = (([(⟨#[110, 111, 119]⟩ : ByteArray), (⟨#[114, 97, 110, 100, 111, 109]⟩ : ByteArray), (⟨#[110, 101, 120, 116, 118, 97, 108]⟩ : ByteArray), (⟨#[99, 117, 114, 114, 118, 97, 108]⟩ : ByteArray), (⟨#[115, 101, 116, 118, 97, 108]⟩ : ByteArray), (⟨#[108, 97, 115, 116, 118, 97, 108]⟩ : ByteArray), (⟨#[99, 108, 111, 99, 107, 95, 116, 105, 109, 101, 115, 116, 97, 109, 112]⟩ : ByteArray), (⟨#[116, 120, 105, 100, 95, 99, 117, 114, 114, 101, 110, 116]⟩ : ByteArray)] : List ByteArray)) := ⟨_, rfl⟩
    replace H : ((class_in.f k a0 y127).bind fun t130 => (some t130)) = some r := by first | (rw [hy127]; with_reducible exact H) | (have H2_ := (Option.bind_some _ _).symm.trans H; rw [hy127]; with_reducible exact H2_) | (have H2_ := (Option.bind_some _ _).symm.trans H; with_reducible exact H2_) | with_reducible exact H | (rw [hy127]; exact H) | exact H
    have Ny127 := Aside0.mk hy127
    clear hy127
    replace H := Option.bind_eq_some_iff.mp H
    obtain ⟨t130, A100, H⟩ := H
    replace H : (some t130) = some r := H
    have A10 := Aside0.mk A100
    clear A100
    obtain rfl := Option.some.inj H
    go_enter Try.func34, Try.ntmps34
    go_wp2_with (first | ((with_reducible refine gate_dst (N := 12) rfl ?_); refine Kd.R_lit Kd.string _ 9 ?hg (N := 12) ?hd (xs := ([(⟨#[110, 111, 119]⟩ : ByteArray), (⟨#[114, 97, 110, 100, 111, 109]⟩ : ByteArray), (⟨#[110, 101, 120, 116, 118, 97, 108]⟩ : ByteArray), (⟨#[99, 117, 114, 114, 118, 97, 108]⟩ : ByteArray), (⟨#[115, 101, 116, 118, 97, 108]⟩ : ByteArray), (⟨#[108, 97, 115, 116, 118, 97, 108]⟩ : ByteArray), (⟨#[99, 108, 111, 99, 107, 95, 116, 105, 109, 101, 115, 116, 97, 109, 112]⟩ : ByteArray), (⟨#[116, 120, 105, 100, 95, 99, 117, 114, 114, 101, 110, 116]⟩ : ByteArray)] : List ByteArray)) (inner := [.string (⟨#[110, 111, 119]⟩ : ByteArray), .string (⟨#[114, 97, 110, 100, 111, 109]⟩ : ByteArray), .string (⟨#[110, 101, 120, 116, 118, 97, 108]⟩ : ByteArray), .string (⟨#[99, 117, 114, 114, 118, 97, 108]⟩ : ByteArray), .string (⟨#[115, 101, 116, 118, 97, 108]⟩ : ByteArray), .string (⟨#[108, 97, 115, 116, 118, 97, 108]⟩ : ByteArray), .string (⟨#[99, 108, 111, 99, 107, 95, 116, 105, 109, 101, 115, 116, 97, 109, 112]⟩ : ByteArray), .string (⟨#[116, 120, 105, 100, 95, 99, 117, 114, 114, 101, 110, 116]⟩ : ByteArray)]) (ok := fun _ => True) (okp := fun _ => True) ?hr ?hp (fun _ hk => hk) trivial (Below.refl _ _) (Nat.le_refl _) (by simp) ?_; (case hd => rfl); (case hg => rfl); (case hr => first | (go_simp; done) | (go_simp; rfl)); (case hp => exact (Reps.one (show Kd.M Kd.string _ _ _ (⟨#[110, 111, 119]⟩ : ByteArray) [.string (⟨#[110, 111, 119]⟩ : ByteArray)] from rfl) (Reps.one (show Kd.M Kd.string _ _ _ (⟨#[114, 97, 110, 100, 111, 109]⟩ : ByteArray) [.string (⟨#[114, 97, 110, 100, 111, 109]⟩ : ByteArray)] from rfl) (Reps.one (show Kd.M Kd.string _ _ _ (⟨#[110, 101, 120, 116, 118, 97, 108]⟩ : ByteArray) [.string (⟨#[110, 101, 120, 116, 118, 97, 108]⟩ : ByteArray)] from rfl) (Reps.one (show Kd.M Kd.string _ _ _ (⟨#[99, 117, 114, 114, 118, 97, 108]⟩ : ByteArray) [.string (⟨#[99, 117, 114, 114, 118, 97, 108]⟩ : ByteArray)] from rfl) (Reps.one (show Kd.M Kd.string _ _ _ (⟨#[115, 101, 116, 118, 97, 108]⟩ : ByteArray) [.string (⟨#[115, 101, 116, 118, 97, 108]⟩ : ByteArray)] from rfl) (Reps.one (show Kd.M Kd.string _ _ _ (⟨#[108, 97, 115, 116, 118, 97, 108]⟩ : ByteArray) [.string (⟨#[108, 97, 115, 116, 118, 97, 108]⟩ : ByteArray)] from rfl) (Reps.one (show Kd.M Kd.string _ _ _ (⟨#[99, 108, 111, 99, 107, 95, 116, 105, 109, 101, 115, 116, 97, 109, 112]⟩ : ByteArray) [.string (⟨#[99, 108, 111, 99, 107, 95, 116, 105, 109, 101, 115, 116, 97, 109, 112]⟩ : ByteArray)] from rfl) (Reps.one (show Kd.M Kd.string _ _ _ (⟨#[116, 120, 105, 100, 95, 99, 117, 114, 114, 101, 110, 116]⟩ : ByteArray) [.string (⟨#[116, 120, 105, 100, 95, 99, 117, 114, 114, 101, 110, 116]⟩ : ByteArray)] from rfl) (Reps.none _ _)))))))))); intro v128 w11 ho12 hb hg_ hnew_; clear hg_ hnew_; (first | rw [← Ny127.out] at ho12 | (simp only [Int.reduceToNat] at ho12; rw [← Ny127.out] at ho12)); have n0_ := Aside0.mk (Kd.R_lower ho12 (below_size (by repeat (first | (with_reducible first | exact HB.out | apply below_alloc | apply pw_below_drewN | apply below_drew1) | exact HB.out)))); have n1_ := Aside0.mk (below_step (by repeat (first | (with_reducible first | exact HB.out | apply below_alloc | apply pw_below_drewN | apply below_drew1) | exact HB.out)) hb); clear HB; have HO129 := n0_; have HB := n1_; clear n0_ n1_; clear hb ho12; obtain ⟨Ao13, co13, eo13⟩ := Kd.R_slice HO129.out; subst eo13) | ((with_reducible refine gate_callee (f := 23) rfl ?_); refine goesL_ (some 13) rfl rfl Try.func23 (by kernel_rfl) rfl #[.string a0, .slice Ao13 y127.length co13] rfl (by (try simp only [List.map_toArray, List.map_cons, List.map_nil]); first | done | rfl | (simp only [List.length_drop, List.length_take]; rfl)) ?_; (with_reducible refine (class_in.calls k a0 _ _ y127 t130 _ ?side1 ?side2 A10.out).mono ?_); (case side1 => repeat (first | exact (Kd.R_reads' HO129.out).2.2 | (with_reducible refine Kd.C_alloc ?_ _) | (with_reducible refine Kd.C_drewN ?_ _) | (with_reducible refine Kd.C_drew ?_))); (case side2 => exact (Kd.R_reads' HO129.out).2.1); rintro e w' ⟨rfl, ⟨nd, rfl⟩⟩; refine ⟨_, rfl, ?_⟩))
    go_ret
    exact ⟨by first | rfl | (simp [errW_none, errW_some] <;> rfl) | (simp [*, errW_none, errW_some] <;> rfl), by repeat (first | (with_reducible first | exact HB.out | apply below_alloc | apply pw_below_drewN | apply below_drew1) | exact HB.out)⟩

-- NOT PRINTED: function 22 (class_query)

-- NOT PRINTED: function 24 (class_firsts)

end Go.Proofs.Ythfchnoebncpfaa.Pu
