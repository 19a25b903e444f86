-- Written by a program of this session's (wip/ext/run.py) over the kit's print, with contracts of its own.
import Derived.Test.YtcmjfcfjppioeaaPbx0
import Derived.Test.YtcmjfcfjppioeaaPbx2
import Derived.Test.YtcmjfcfjppioeaaPbx3
import Derived.Test.YtcmjfcfjppioeaaPbx4
namespace Go.Proofs.Ytcmjfcfjppioeaa.Pb
open Go Go.Proofs.Ytcmjfcfjppioeaa Go.RowKit Go.Proofs.YtcmjfcfjppioeaaW.PrintWords Go.Proofs.YtcmjfcfjppioeaaW.PrintLast Go.Proofs.YtcmjfcfjppioeaaW.PrintMore
attribute [local go_sem] max2_int min2_int max_two min_two max_three min_three max_four min_four   -- for this text's walks alone
set_option linter.unusedVariables false
set_option linter.unusedSimpArgs false

/-! ### pontoonlaw04_LexerAhead: function 7 -/
mutual
def pontoonlaw04_LexerAhead.j0 : Nat → List (S30) → List (S30) → Bool → Option (Bool)
  | 0, _, _, _ => none
  | k + 1, x3, x6, x39 => if x39 = true then (some false) else (pontoonlaw04_LexerAhead.l0 k x3 x6 0)
def pontoonlaw04_LexerAhead.l0 : Nat → List (S30) → List (S30) → Int → Option (Bool)
  | 0, _, _, _ => none
  | k + 1, x3, x6, x9 => if x9 < (x6.length : Int) then (if 0 ≤ x9 then (pontoonlaw04_LexerAhead.l0 k x3 (x6.set (x9 : Int).toNat (⟨(rd_T30 x6 x9).f0, (rd_T30 x6 x9).f1, wrap64 (((rd_T30 x6 x9).f2) - 10)⟩ : S30)) (wrap64 (x9 + 1))) else (none)) else ((pontoonref04_Same.f k x3 x6 true).bind fun t309 => (if t309 = true then ((pontoonlaw04_known.f k).bind fun t310 => (some t310)) else (some false)))
end
def pontoonlaw04_LexerAhead.f (k : Nat) (a0 : ByteArray) : Option (Bool) := if (a0.size : Int) > 1900 then ((pontoonlaw04_known.f k).bind fun t296 => (some t296)) else ((lexer_Scan.f a0).bind fun bt297 => (if 10 + a0.size ≤ 9223372036854775807 then ((lexer_Scan.f ((⟨#[32, 47, 42, 47, 42, 42, 47, 42, 47, 10]⟩ : ByteArray) ++ a0)).bind fun bt302 => (if bt297.2.1 = bt302.2.1 then (if bt297.2.1 = 0 then (pontoonlaw04_LexerAhead.j0 k bt297.1 bt302.1 false) else (pontoonlaw04_LexerAhead.j0 k bt297.1 bt302.1 (bt302.2.2 != (wrap64 (bt297.2.2 + 10))))) else (pontoonlaw04_LexerAhead.j0 k bt297.1 bt302.1 true))) else (none)))
theorem pontoonlaw04_LexerAhead.mono_l : ∀ k, (∀ y0 y1 y2, LeO (pontoonlaw04_LexerAhead.j0 k y0 y1 y2) (pontoonlaw04_LexerAhead.j0 (k + 1) y0 y1 y2)) ∧ (∀ y0 y1 y2, LeO (pontoonlaw04_LexerAhead.l0 k y0 y1 y2) (pontoonlaw04_LexerAhead.l0 (k + 1) y0 y1 y2))
  | 0 => ⟨fun _ _ _ r h => by simp [pontoonlaw04_LexerAhead.j0] at h, fun _ _ _ r h => by simp [pontoonlaw04_LexerAhead.l0] at h⟩
  | k + 1 => by
    obtain ⟨ih0, ih1⟩ := pontoonlaw04_LexerAhead.mono_l k
    refine ⟨?_, ?_⟩
    · intro y0 y1 y2
      unfold pontoonlaw04_LexerAhead.j0
      repeat' first
      | (with_reducible exact ih0 _ _ _)
      | (with_reducible exact ih1 _ _ _)
      | (with_reducible exact pontoonlaw04_known.mono _)
      | (with_reducible exact pontoonref04_Same.mono _ _ _ _)
      | (with_reducible exact LeO.refl _)
      | (with_reducible exact LeO.none _)
      | (with_reducible refine LeO.ite ?_ ?_)
      | (with_reducible refine LeO.bind ?_ (fun _ => ?_))
      | exact ih0 _ _ _
      | exact ih1 _ _ _
      | exact pontoonlaw04_known.mono _
      | exact pontoonref04_Same.mono _ _ _ _
      | exact LeO.none _
      | refine LeO.ite ?_ ?_
      | refine LeO.bind ?_ (fun _ => ?_)
    · intro y0 y1 y2
      unfold pontoonlaw04_LexerAhead.l0
      repeat' first
      | (with_reducible exact ih0 _ _ _)
      | (with_reducible exact ih1 _ _ _)
      | (with_reducible exact pontoonlaw04_known.mono _)
      | (with_reducible exact pontoonref04_Same.mono _ _ _ _)
      | (with_reducible exact LeO.refl _)
      | (with_reducible exact LeO.none _)
      | (with_reducible refine LeO.ite ?_ ?_)
      | (with_reducible refine LeO.bind ?_ (fun _ => ?_))
      | exact ih0 _ _ _
      | exact ih1 _ _ _
      | exact pontoonlaw04_known.mono _
      | exact pontoonref04_Same.mono _ _ _ _
      | exact LeO.none _
      | refine LeO.ite ?_ ?_
      | refine LeO.bind ?_ (fun _ => ?_)
theorem pontoonlaw04_LexerAhead.mono : ∀ a0 k, LeO (pontoonlaw04_LexerAhead.f k a0) (pontoonlaw04_LexerAhead.f (k + 1) a0) := by
  intro a0 k
  obtain ⟨ih0, ih1⟩ := pontoonlaw04_LexerAhead.mono_l k
  unfold pontoonlaw04_LexerAhead.f
  repeat' first
      | (with_reducible exact ih0 _ _ _)
      | (with_reducible exact ih1 _ _ _)
      | (with_reducible exact pontoonlaw04_known.mono _)
      | (with_reducible exact pontoonref04_Same.mono _ _ _ _)
      | (with_reducible exact LeO.refl _)
      | (with_reducible exact LeO.none _)
      | (with_reducible refine LeO.ite ?_ ?_)
      | (with_reducible refine LeO.bind ?_ (fun _ => ?_))
      | exact ih0 _ _ _
      | exact ih1 _ _ _
      | exact pontoonlaw04_known.mono _
      | exact pontoonref04_Same.mono _ _ _ _
      | exact LeO.none _
      | refine LeO.ite ?_ ?_
      | refine LeO.bind ?_ (fun _ => ?_)
set_option maxHeartbeats 8000000 in
set_option maxRecDepth 100000 in
theorem pontoonlaw04_LexerAhead.calls (k : Nat) (a0 : ByteArray) (r : Bool) (w : World) (h : pontoonlaw04_LexerAhead.f k a0 = some r) :
    Calls Try.prog 7 #[.string a0] w fun e w' => e = .returned (.bool r) ∧ Below w.heap.size w w' := by
  have HB := Aside0.mk (Below.refl w.heap.size w)
  have H : (if (a0.size : Int) > 1900 then ((pontoonlaw04_known.f k).bind fun t296 => (some t296)) else ((lexer_Scan.f a0).bind fun bt297 => (if 10 + a0.size ≤ 9223372036854775807 then ((lexer_Scan.f ((⟨#[32, 47, 42, 47, 42, 42, 47, 42, 47, 10]⟩ : ByteArray) ++ a0)).bind fun bt302 => (if bt297.2.1 = bt302.2.1 then (if bt297.2.1 = 0 then (pontoonlaw04_LexerAhead.j0 k bt297.1 bt302.1 false) else (pontoonlaw04_LexerAhead.j0 k bt297.1 bt302.1 (bt302.2.2 != (wrap64 (bt297.2.2 + 10))))) else (pontoonlaw04_LexerAhead.j0 k bt297.1 bt302.1 true))) else (none)))) = some r := h
  clear h
  by_cases c2 : (a0.size : Int) > 1900
  · rw [if_pos c2] at H
    have c2b0 : decide (1900 < (a0.size : Int)) = true := decide_eq_true c2
    have c2b1 : decide (1900 < a0.size) = true := decide_eq_true (by omega)
    clear c2
    replace H := Option.bind_eq_some_iff.mp H
    obtain ⟨t296, A30, H⟩ := H
    replace H : (some t296) = some r := H
    have A3 := Aside0.mk A30
    clear A30
    obtain rfl := Option.some.inj H
    go_enter Try.func7, Try.ntmps7
    go_wp2_with (first | ((with_reducible refine gate_callee (f := 8) rfl ?_); refine goesL_ (some 13) rfl rfl Try.func8 (by kernel_rfl) rfl #[] rfl (by (try simp only [List.map_toArray, List.map_cons, List.map_nil]); first | done | rfl | (simp only [List.length_drop, List.length_take]; rfl)) ?_; (with_reducible refine (pontoonlaw04_known.calls k  t296 _ A3.out).mono ?_); rintro e w4 ⟨rfl, hb⟩; refine ⟨_, rfl, ?_⟩; have n0_ := Aside0.mk (below_step (by repeat (first | (with_reducible first | exact HB.out | apply below_alloc | apply pw_below_drewN | apply below_drew1) | exact HB.out)) hb); clear HB; have HB := n0_; clear n0_; (try clear hb); (try clear hb2); (try clear hk); (try clear hi)))
    go_ret
    exact ⟨by first | rfl | (simp [errW_none, errW_some] <;> rfl) | (simp [*, errW_none, errW_some] <;> rfl), by repeat (first | (with_reducible first | exact HB.out | apply below_alloc | apply pw_below_drewN | apply below_drew1) | exact HB.out)⟩
  · rw [if_neg c2] at H
    have c2b0 : decide (1900 < (a0.size : Int)) = false := decide_eq_false c2
    have c2b1 : decide (1900 < a0.size) = false := decide_eq_false (by omega)
    clear c2
    replace H := Option.bind_eq_some_iff.mp H
    obtain ⟨⟨t297, t298, t299⟩, A50, H⟩ := H
    replace H : (if 10 + a0.size ≤ 9223372036854775807 then ((lexer_Scan.f ((⟨#[32, 47, 42, 47, 42, 42, 47, 42, 47, 10]⟩ : ByteArray) ++ a0)).bind fun bt302 => (if t298 = bt302.2.1 then (if t298 = 0 then (pontoonlaw04_LexerAhead.j0 k t297 bt302.1 false) else (pontoonlaw04_LexerAhead.j0 k t297 bt302.1 (bt302.2.2 != (wrap64 (t299 + 10))))) else (pontoonlaw04_LexerAhead.j0 k t297 bt302.1 true))) else (none)) = some r := H
    have A5 := Aside0.mk A50
    clear A50
    by_cases c6 : 10 + a0.size ≤ 9223372036854775807
    · rw [if_pos c6] at H
      have c6b0 := eq_true c6
      have c6b1 : decide (10 + a0.size ≤ 9223372036854775807) = true := decide_eq_true c6
      try have c6b2 : (9223372036854775807 < 10 + a0.size) = False := eq_false (Nat.not_lt.2 c6)
      try (have c6b3 := c6; simp [ByteArray.size_extract] at c6b3)
      replace H := Option.bind_eq_some_iff.mp H
      obtain ⟨⟨t302, t303, t304⟩, A70, H⟩ := H
      replace H : (if t298 = t303 then (if t298 = 0 then (pontoonlaw04_LexerAhead.j0 k t297 t302 false) else (pontoonlaw04_LexerAhead.j0 k t297 t302 (t304 != (wrap64 (t299 + 10))))) else (pontoonlaw04_LexerAhead.j0 k t297 t302 true)) = some r := H
      have A7 := Aside0.mk A70
      clear A70
      have HC8 := Aside0.mk H
      clear H
      go_enter Try.func7, Try.ntmps7
      go_upto_region 5 with (first | ((with_reducible refine gate_callee (f := 9) rfl ?_); refine goesL_ (some 16) rfl rfl Try.func9 (by kernel_rfl) rfl #[.string a0] rfl (by (try simp only [List.map_toArray, List.map_cons, List.map_nil]); first | done | rfl | (simp only [List.length_drop, List.length_take]; rfl)) ?_; (with_reducible refine (lexer_Scan.calls a0 t297 t298 t299 _ A5.out).mono ?_); rintro e w9 ⟨v300, rfl, ho0, hb⟩; refine ⟨_, rfl, ?_⟩; have n0_ := Aside0.mk (Kd.R_lower ho0 (below_size (by repeat (first | (with_reducible first | exact HB.out | apply below_alloc | apply pw_below_drewN | apply below_drew1) | exact HB.out)))); have n1_ := Aside0.mk (below_step (by repeat (first | (with_reducible first | exact HB.out | apply below_alloc | apply pw_below_drewN | apply below_drew1) | exact HB.out)) hb); clear HB; have HO301 := n0_; have HB := n1_; clear n0_ n1_; (try clear hb); (try clear hb2); (try clear hk); (try clear hi); (try clear ho0)) | ((with_reducible refine gate_callee (f := 9) rfl ?_); refine goesL_ (some 23) rfl rfl Try.func9 (by kernel_rfl) rfl #[.string ((⟨#[32, 47, 42, 47, 42, 42, 47, 42, 47, 10]⟩ : ByteArray) ++ a0)] rfl (by (try simp only [List.map_toArray, List.map_cons, List.map_nil]); first | done | rfl | (simp only [List.length_drop, List.length_take]; rfl)) ?_; (with_reducible refine (lexer_Scan.calls ((⟨#[32, 47, 42, 47, 42, 42, 47, 42, 47, 10]⟩ : ByteArray) ++ a0) t302 t303 t304 _ A7.out).mono ?_); rintro e w10 ⟨v305, rfl, ho0, hb⟩; refine ⟨_, rfl, ?_⟩; have n0_ := Aside0.mk (Kd.R_elder' (by (with_reducible repeat (first | apply Kd.R_alloc | apply Kd.R_drewN | apply Kd.R_drew)); exact HO301.out) (Kd.R_base ho0) hb); have n1_ := Aside0.mk (Kd.R_lower (Kd.R_new' ho0 (Kd.R_lt (by (with_reducible repeat (first | apply Kd.R_alloc | apply Kd.R_drewN | apply Kd.R_drew)); exact HO301.out))) (below_size (by repeat (first | (with_reducible first | exact HB.out | apply below_alloc | apply pw_below_drewN | apply below_drew1) | exact HB.out)))); have n2_ := Aside0.mk (below_step (by repeat (first | (with_reducible first | exact HB.out | apply below_alloc | apply pw_below_drewN | apply below_drew1) | exact HB.out)) hb); clear HO301; clear HB; have HO301 := n0_; have HO306 := n1_; have HB := n2_; clear n0_ n1_ n2_; (try clear hb); (try clear hb2); (try clear hk); (try clear hi); (try clear ho0)))
      (try simp only [Act.put, List.setIfInBounds_toArray, List.set_cons_zero, List.set_cons_succ])
      go_cut [39] (fun v39 wc => ∃ (kq : Nat) (x39_7 : Bool), v39 = .bool x39_7 ∧ Aside0 (pontoonlaw04_LexerAhead.j0 kq t297 t302 x39_7 = some r) ∧ Aside0 (kq ≤ k) ∧ Aside0 (Kd.R k30 30 wc w.heap.size (fun k_ => some k_ ≠ (v305 : Value).ownBlock) v300 t297) ∧ Aside0 (Kd.R k30 30 wc w.heap.size (fun k_ => some k_ ≠ (v300 : Value).ownBlock) v305 t302) ∧ Aside0 (Below w.heap.size w wc))
      case first =>
        have H := HC8.out
        clear HC8
        by_cases c11 : t298 = t303
        · rw [if_pos c11] at H
          have c11b0 : (t298 == t303) = true := beq_iff_eq.mpr c11
          have c11b1 : (t298 != t303) = false := bne_eq_false_iff_eq.mpr c11
          clear c11
          (first | rw [c11b0] | (simp only [i64_w, i32_w]; rw [c11b0]) | skip)
          by_cases c12 : t298 = 0
          · rw [if_pos c12] at H
            have c12b0 : (t298 == 0) = true := beq_iff_eq.mpr c12
            have c12b1 : (t298 != 0) = false := bne_eq_false_iff_eq.mpr c12
            clear c12
            have H' := Aside0.mk H
            clear H
            go_wp2
            go_meet
            case rel => exact ⟨_, (false), (by first | rfl | (simp; done) | (simp [*]; done)), H', ⟨by first | omega | exact Nat.le_refl _⟩, ⟨by (with_reducible repeat (first | apply Kd.R_alloc | apply Kd.R_drewN | apply Kd.R_drew)); exact Kd.R_mono HO301.out (fun _ hk => hk.2)⟩, ⟨by (with_reducible repeat (first | apply Kd.R_alloc | apply Kd.R_drewN | apply Kd.R_drew)); exact Kd.R_mono HO306.out (fun _ hk => hk.2)⟩, ⟨by repeat (first | (with_reducible first | exact HB.out | apply below_alloc | apply pw_below_drewN | apply below_drew1) | exact HB.out)⟩⟩
          · rw [if_neg c12] at H
            have c12b0 : (t298 == 0) = false := beq_eq_false_iff_ne.mpr c12
            have c12b1 : (t298 != 0) = true := bne_iff_ne.mpr c12
            have H' := Aside0.mk H
            clear H
            go_wp2
            go_meet
            case rel => exact ⟨_, ((t304 != (wrap64 (t299 + 10)))), (by first | rfl | (simp; done) | (simp [*]; done)), H', ⟨by first | omega | exact Nat.le_refl _⟩, ⟨by (with_reducible repeat (first | apply Kd.R_alloc | apply Kd.R_drewN | apply Kd.R_drew)); exact Kd.R_mono HO301.out (fun _ hk => hk.2)⟩, ⟨by (with_reducible repeat (first | apply Kd.R_alloc | apply Kd.R_drewN | apply Kd.R_drew)); exact Kd.R_mono HO306.out (fun _ hk => hk.2)⟩, ⟨by repeat (first | (with_reducible first | exact HB.out | apply below_alloc | apply pw_below_drewN | apply below_drew1) | exact HB.out)⟩⟩
        · rw [if_neg c11] at H
          have c11b0 : (t298 == t303) = false := beq_eq_false_iff_ne.mpr c11
          have c11b1 : (t298 != t303) = true := bne_iff_ne.mpr c11
          (first | rw [c11b0] | (simp only [i64_w, i32_w]; rw [c11b0]) | skip)
          have H' := Aside0.mk H
          clear H
          go_wp2
          go_meet
          case rel => exact ⟨_, (true), (by first | rfl | (simp; done) | (simp [*]; done)), H', ⟨by first | omega | exact Nat.le_refl _⟩, ⟨by (with_reducible repeat (first | apply Kd.R_alloc | apply Kd.R_drewN | apply Kd.R_drew)); exact Kd.R_mono HO301.out (fun _ hk => hk.2)⟩, ⟨by (with_reducible repeat (first | apply Kd.R_alloc | apply Kd.R_drewN | apply Kd.R_drew)); exact Kd.R_mono HO306.out (fun _ hk => hk.2)⟩, ⟨by repeat (first | (with_reducible first | exact HB.out | apply below_alloc | apply pw_below_drewN | apply below_drew1) | exact HB.out)⟩⟩
      case rest =>
        clear HC8
        try clear c1
        try clear c2
        try clear c2b0
        try clear c2b1
        try clear p2
        try clear c6
        try clear c6b0
        try clear c6b1
        try clear c6b2
        try clear p6
        try clear c7
        try clear c8
        try clear c9
        try clear c11
        try clear c11b0
        try clear c11b1
        try clear c12
        try clear c12b0
        try clear c12b1
        obtain ⟨kq, x39_7, rfl, HA, HJ7, HO_3, HO_6, HB⟩ := hcut
        cases kq with
        | zero => exact absurd HA.out (by simp [pontoonlaw04_LexerAhead.j0])
        | succ kj7 =>
          have H := HA.out
          clear HA
          simp only [pontoonlaw04_LexerAhead.j0] at H
          by_cases c13 : x39_7 = true
          · subst c13
            have H1 : (some false) = some r := by rw [if_pos rfl] at H; exact H
            clear H
            have H := H1
            clear H1
            obtain rfl := Option.some.inj H
            go_wp2
            go_ret
            exact ⟨by first | rfl | (simp [errW_none, errW_some] <;> rfl) | (simp [*, errW_none, errW_some] <;> rfl), by repeat (first | (with_reducible first | exact HB.out | apply below_alloc | apply pw_below_drewN | apply below_drew1) | exact HB.out)⟩
          · replace c13 := Bool.eq_false_iff.mpr c13
            subst c13
            have H1 : (pontoonlaw04_LexerAhead.l0 kj7 t297 t302 0) = some r := by rw [if_neg (show ¬ (false = true) by decide)] at H; exact H
            clear H
            have H := H1
            clear H1
            have H' := Aside0.mk H
            clear H
            go_wp2
            go_loopg [9] kj7 (fun kq v9 w' => ∃ (x6_2 : List (S30)) (x9_2 : Int), v9 = .int .i64 x9_2 ∧ Aside0 (pontoonlaw04_LexerAhead.l0 kq t297 x6_2 x9_2 = some r) ∧ Aside0 (kq ≤ kj7) ∧ Aside0 (Kd.R k30 30 w' w.heap.size (fun k_ => some k_ ≠ (v305 : Value).ownBlock) v300 t297) ∧ Aside0 (Kd.R k30 30 w' w.heap.size (fun k_ => some k_ ≠ (v300 : Value).ownBlock) v305 x6_2) ∧ Aside0 (Below w.heap.size w w'))
            case atStart => exact ⟨(t302), (0), (by first | rfl | (simp; done) | (simp [*]; done)), H', ⟨Nat.le_refl _⟩, ⟨by (with_reducible repeat (first | apply Kd.R_alloc | apply Kd.R_drewN | apply Kd.R_drew)); exact HO_3.out⟩, ⟨by (with_reducible repeat (first | apply Kd.R_alloc | apply Kd.R_drewN | apply Kd.R_drew)); exact HO_6.out⟩, ⟨by repeat (first | (with_reducible first | exact HB.out | apply below_alloc | apply pw_below_drewN | apply below_drew1) | exact HB.out)⟩⟩
            case round =>
              clear H'
              try clear c1
              try clear c2
              try clear c2b0
              try clear c2b1
              try clear p2
              try clear c6
              try clear c6b0
              try clear c6b1
              try clear c6b2
              try clear p6
              try clear c7
              try clear c8
              try clear c9
              try clear c11
              try clear c11b0
              try clear c11b1
              try clear c12
              try clear c12b0
              try clear c12b1
              try clear c13
              try clear p2
              try clear p6
              obtain ⟨x6_2, x9_2, rfl, HA, HK2, HO_3, HO_6, HB⟩ := hrel
              cases gk with
              | zero => exact absurd HA.out (by simp [pontoonlaw04_LexerAhead.l0])
              | succ k2 =>
                have H := HA.out
                clear HA
                simp only [pontoonlaw04_LexerAhead.l0] at H
                by_cases c14 : x9_2 < (x6_2.length : Int)
                · rw [if_pos c14] at H
                  have c14b0 : decide (x9_2 < (x6_2.length : Int)) = true := decide_eq_true c14
                  clear c14
                  by_cases c15 : 0 ≤ x9_2
                  · rw [if_pos c15] at H
                    have c15b0 : decide (0 ≤ x9_2) = true := decide_eq_true c15
                    clear c15
                    obtain ⟨y308, hy308⟩ : ∃ y_ : List (S30), y_ = (x6_2.set (x9_2 : Int).toNat (⟨(rd_T30 x6_2 x9_2).f0, (rd_T30 x6_2 x9_2).f1, wrap64 (((rd_T30 x6_2 x9_2).f2) - 10)⟩ : S30)) := ⟨_, rfl⟩
                    replace H : (pontoonlaw04_LexerAhead.l0 k2 t297 y308 (wrap64 (x9_2 + 1))) = some r := by first | (rw [hy308]; with_reducible exact H) | (have H2_ := (Option.bind_some _ _).symm.trans H; rw [hy308]; with_reducible exact H2_) | (have H2_ := (Option.bind_some _ _).symm.trans H; with_reducible exact H2_) | with_reducible exact H | (rw [hy308]; exact H) | exact H
                    have Ny308 := Aside0.mk hy308
                    clear hy308
                    have H' := Aside0.mk H
                    clear H
                    obtain ⟨Ao17, co17, eo17⟩ := Kd.R_slice HO_6.out
                    subst eo17
                    have p307 : 0 ≤ (x9_2 : Int) := of_decide_eq_true (by first | (with_reducible assumption) | assumption)
                    have q307 : x9_2 < (x6_2.length : Int) := of_decide_eq_true (by first | (with_reducible assumption) | assumption)
                    obtain ⟨ad307, e307, hx307_0, hx307_1, hx307_2⟩ := at_T30 (Kd.R_reads' HO_6.out).2.2 x9_2 p307 q307
                    cases e307
                    have q307n := q307
                    replace p307 := eq_true p307
                    replace q307 := eq_true q307
                    have p16 : 0 ≤ (x9_2 : Int) := of_decide_eq_true (by first | (with_reducible assumption) | assumption)
                    have q16 : (x9_2 : Int) < ((x6_2.length : Int) : Int) := of_decide_eq_true (by first | (with_reducible assumption) | assumption)
                    obtain ⟨go16, co16, eo16, gb16, gl16, cl16, HG16⟩ := Kd.R_form HO_6.out (by omega)
                    (first | cases eo16 | (injection eo16 with ea_ en_ ec_; (first | subst ea_ | (injection ea_ with ea_; subst ea_)); subst ec_; clear en_))
                    have GB16 := Aside0.mk gb16
                    have GG16 := Aside0.mk HG16
                    clear gb16 gl16 HG16
                    (first | simp only [add_plain] at hx307_0 | skip)
                    (first | simp only [add_plain] at hx307_1 | skip)
                    (first | simp only [add_plain] at hx307_2 | skip)
                    obtain ⟨ce16, hcl16, hM16, hcc16, hfr16⟩ := Kd.R_elem HO_6.out z30 (x9_2 : Int) p16 q16
                    obtain rfl := k30_openM hM16
                    have hx16_0 : wr.cell? ⟨go16, (x9_2 : Int).toNat * 3, none⟩ = some (.int .i64 ((rd_T30 x6_2 x9_2).f0)) := hcc16 0 _ rfl
                    have hx16_1 : wr.cell? ⟨go16, (x9_2 : Int).toNat * 3 + 1, none⟩ = some (.string ((rd_T30 x6_2 x9_2).f1)) := hcc16 1 _ rfl
                    have hx16_2 : wr.cell? ⟨go16, (x9_2 : Int).toNat * 3 + 2, none⟩ = some (.int .i64 ((rd_T30 x6_2 x9_2).f2)) := hcc16 2 _ rfl
                    have hf16_0 : wr.frozen? ⟨go16, (x9_2 : Int).toNat * 3, none⟩ = false := hfr16 0
                    have hf16_1 : wr.frozen? ⟨go16, (x9_2 : Int).toNat * 3 + 1, none⟩ = false := hfr16 1
                    have hf16_2 : wr.frozen? ⟨go16, (x9_2 : Int).toNat * 3 + 2, none⟩ = false := hfr16 2
                    clear hcl16 hcc16 hfr16 hM16
                    have q16n := q16
                    replace p16 := eq_true p16
                    replace q16 := eq_true q16
                    have HX18 := Aside0.mk (show Kd.R k30 30 wr w.heap.size (fun k_ => some k_ ≠ (v300 : Value).ownBlock) (.slice (some ⟨go16, 0, none⟩) x6_2.length co17) x6_2 from (by (with_reducible repeat (first | apply Kd.R_alloc | apply Kd.R_drewN | apply Kd.R_drew)); exact HO_6.out))
                    obtain ⟨ce18, hcl18, hM18, hcc18, hfr18⟩ := Kd.R_elem HX18.out z30 (x9_2 : Int) (of_decide_eq_true (by first | (with_reducible assumption) | assumption)) (by have h_ : (x9_2 : Int) < ((x6_2.length : Int) : Int) := of_decide_eq_true (by first | (with_reducible assumption) | assumption); first | exact h_ | (have e_ := (Kd.R_reads' HO_6.out).1; omega) | simpa using h_)
                    obtain rfl := k30_openM hM18
                    have HP18 := Kd.R_seg HX18.out (x9_2 : Int) (of_decide_eq_true (by first | (with_reducible assumption) | assumption)) (by have h_ : (x9_2 : Int) < ((x6_2.length : Int) : Int) := of_decide_eq_true (by first | (with_reducible assumption) | assumption); first | exact h_ | (have e_ := (Kd.R_reads' HO_6.out).1; omega) | simpa using h_) (seg := [.int .i64 (wrap64 (((rd_T30 x6_2 x9_2).f2) - 10))]) (j := 2) hcl18 hcc18 (show 3 ≤ 3 from by decide) (x' := (⟨(rd_T30 x6_2 x9_2).f0, (rd_T30 x6_2 x9_2).f1, wrap64 (((rd_T30 x6_2 x9_2).f2) - 10)⟩ : S30)) (k30_mkM _ _ _ (⟨(rd_T30 x6_2 x9_2).f0, (rd_T30 x6_2 x9_2).f1, wrap64 (((rd_T30 x6_2 x9_2).f2) - 10)⟩ : S30) ) (fun _ hk => hk)
                    have hx18_2 := hcc18 2 _ rfl
                    (try simp only [show (k30).sz = 3 from rfl, Nat.mul_one, Nat.add_zero] at hx18_2)
                    have hf18_2 := hfr18 2
                    (try simp only [show (k30).sz = 3 from rfl, Nat.mul_one, Nat.add_zero] at hf18_2)
                    clear hcl18 hcc18 hfr18 hM18
                    go_wp2_with (first | ((with_reducible refine gate_store (t := 3) (p := 55) rfl ?_); refine store_event (t := 3) (p := 55) (v := ?vo_w19) (w1 := (wr.setCell ⟨go16, (x9_2 : Int).toNat * 3 + 2, none⟩ (.int .i64 (wrap64 (((rd_T30 x6_2 x9_2).f2) - 10))))) ?hg ?ho ?hn ?hr ?_; (case ho => rfl); (case hg => rfl); (case hn => rfl); (case hr => first | (go_simp; done) | (go_simp; rfl)); intro w19 hw; have hg : wr.grownBy w19 (some go16) := (by rw [hw]; exact HP18.2); have hp_ : Kd.R k30 30 w19 w.heap.size (fun k_ => some k_ ≠ (v300 : Value).ownBlock) (.slice (some ⟨go16, 0, none⟩) x6_2.length co17) y308 := (by rw [hw, Ny308.out]; exact HP18.1); clear HP18; have n0_ := Aside0.mk (Kd.R_after (v := (.slice (some ⟨go16, 0, none⟩) x6_2.length co17)) (v1 := (.slice (some ⟨go16, 0, none⟩) x6_2.length co17)) (ok := (fun _ => True)) (by (with_reducible repeat (first | apply Kd.R_alloc | apply Kd.R_drewN | apply Kd.R_drew)); exact Kd.R_mono HO_3.out (fun _ hk => ⟨trivial, hk⟩)) hg (.inl rfl)); have n1_ := Aside0.mk (hp_); have n2_ := Aside0.mk ((by rw [hw]; exact below_set (HB.out) GB16.out : Below w.heap.size w w19)); clear HO_3; clear HO_6; clear HB; have HO_3 := n0_; have HO_6 := n1_; have HB := n2_; clear n0_ n1_ n2_; clear hg hw hp_))
                    go_roundg k2
                    case measure => have := HJ7.out; have := HK2.out; omega
                    case rel => exact ⟨(y308), (wrap64 (x9_2 + 1)), (by first | rfl | (simp; done) | (simp [*]; done)), H', ⟨by have := HJ7.out; have := HK2.out; omega⟩, ⟨by (with_reducible repeat (first | apply Kd.R_alloc | apply Kd.R_drewN | apply Kd.R_drew)); exact Kd.R_mono HO_3.out (fun _ hk => hk.2)⟩, ⟨by (with_reducible repeat (first | apply Kd.R_alloc | apply Kd.R_drewN | apply Kd.R_drew)); exact HO_6.out⟩, ⟨by repeat (first | (with_reducible first | exact HB.out | apply below_alloc | apply pw_below_drewN | apply below_drew1) | exact HB.out)⟩⟩
                  · rw [if_neg c15] at H
                    exact absurd H (by simp)
                · rw [if_neg c14] at H
                  have c14b0 : decide (x9_2 < (x6_2.length : Int)) = false := decide_eq_false c14
                  clear c14
                  replace H := Option.bind_eq_some_iff.mp H
                  obtain ⟨t309, A200, H⟩ := H
                  replace H : (if t309 = true then ((pontoonlaw04_known.f k2).bind fun t310 => (some t310)) else (some false)) = some r := H
                  have A20 := Aside0.mk A200
                  clear A200
                  by_cases c21 : t309 = true
                  · subst c21
                    have H1 : ((pontoonlaw04_known.f k2).bind fun t310 => (some t310)) = some r := by rw [if_pos rfl] at H; exact H
                    clear H
                    have H := H1
                    clear H1
                    replace H := Option.bind_eq_some_iff.mp H
                    obtain ⟨t310, A220, H⟩ := H
                    replace H : (some t310) = some r := H
                    have A22 := Aside0.mk A220
                    clear A220
                    obtain rfl := Option.some.inj H
                    obtain ⟨Ao23, co23, eo23⟩ := Kd.R_slice HO_6.out
                    subst eo23
                    obtain ⟨Ao24, co24, eo24⟩ := Kd.R_slice HO_3.out
                    subst eo24
                    go_wp2_with (first | ((with_reducible refine gate_callee (f := 11) rfl ?_); refine goesL_ (some 58) rfl rfl Try.func11 (by kernel_rfl) rfl #[.slice Ao24 t297.length co24, .slice Ao23 x6_2.length co23, .bool true] rfl (by (try simp only [List.map_toArray, List.map_cons, List.map_nil]); first | done | rfl | (simp only [List.length_drop, List.length_take]; rfl)) ?_; (with_reducible refine (pontoonref04_Same.calls k2 _ _ t297 _ _ x6_2 true true _ ?side1 ?side2 ?side3 ?side4 A20.out).mono ?_); (case side1 => repeat (first | exact (Kd.R_reads' HO_3.out).2.2 | (with_reducible refine Kd.C_alloc ?_ _) | (with_reducible refine Kd.C_drewN ?_ _) | (with_reducible refine Kd.C_drew ?_))); (case side2 => exact (Kd.R_reads' HO_3.out).2.1); (case side3 => repeat (first | exact (Kd.R_reads' HO_6.out).2.2 | (with_reducible refine Kd.C_alloc ?_ _) | (with_reducible refine Kd.C_drewN ?_ _) | (with_reducible refine Kd.C_drew ?_))); (case side4 => exact (Kd.R_reads' HO_6.out).2.1); rintro e w' ⟨rfl, ⟨nd, rfl⟩⟩; refine ⟨_, rfl, ?_⟩) | (go_at_call 8; (with_reducible refine (pontoonlaw04_known.calls k2  t310 _ A22.out).mono ?_); rintro e w25 ⟨rfl, hb⟩; have n0_ := Aside0.mk (Kd.R_below (by (with_reducible repeat (first | apply Kd.R_alloc | apply Kd.R_drewN | apply Kd.R_drew)); exact HO_3.out) hb); have n1_ := Aside0.mk (Kd.R_below (by (with_reducible repeat (first | apply Kd.R_alloc | apply Kd.R_drewN | apply Kd.R_drew)); exact HO_6.out) hb); have n2_ := Aside0.mk (below_step (by repeat (first | (with_reducible first | exact HB.out | apply below_alloc | apply pw_below_drewN | apply below_drew1) | exact HB.out)) hb); clear HO_3; clear HO_6; clear HB; have HO_3 := n0_; have HO_6 := n1_; have HB := n2_; clear n0_ n1_ n2_; (try clear hb); (try clear hb2); (try clear hk); (try clear hi)))
                    go_ret
                    exact ⟨by first | rfl | (simp [errW_none, errW_some] <;> rfl) | (simp [*, errW_none, errW_some] <;> rfl), by repeat (first | (with_reducible first | exact HB.out | apply below_alloc | apply pw_below_drewN | apply below_drew1) | exact HB.out)⟩
                  · replace c21 := Bool.eq_false_iff.mpr c21
                    subst c21
                    have H1 : (some false) = some r := by rw [if_neg (show ¬ (false = true) by decide)] at H; exact H
                    clear H
                    have H := H1
                    clear H1
                    obtain rfl := Option.some.inj H
                    obtain ⟨Ao26, co26, eo26⟩ := Kd.R_slice HO_6.out
                    subst eo26
                    obtain ⟨Ao27, co27, eo27⟩ := Kd.R_slice HO_3.out
                    subst eo27
                    go_wp2_with (first | ((with_reducible refine gate_callee (f := 11) rfl ?_); refine goesL_ (some 58) rfl rfl Try.func11 (by kernel_rfl) rfl #[.slice Ao27 t297.length co27, .slice Ao26 x6_2.length co26, .bool true] rfl (by (try simp only [List.map_toArray, List.map_cons, List.map_nil]); first | done | rfl | (simp only [List.length_drop, List.length_take]; rfl)) ?_; (with_reducible refine (pontoonref04_Same.calls k2 _ _ t297 _ _ x6_2 true false _ ?side1 ?side2 ?side3 ?side4 A20.out).mono ?_); (case side1 => repeat (first | exact (Kd.R_reads' HO_3.out).2.2 | (with_reducible refine Kd.C_alloc ?_ _) | (with_reducible refine Kd.C_drewN ?_ _) | (with_reducible refine Kd.C_drew ?_))); (case side2 => exact (Kd.R_reads' HO_3.out).2.1); (case side3 => repeat (first | exact (Kd.R_reads' HO_6.out).2.2 | (with_reducible refine Kd.C_alloc ?_ _) | (with_reducible refine Kd.C_drewN ?_ _) | (with_reducible refine Kd.C_drew ?_))); (case side4 => exact (Kd.R_reads' HO_6.out).2.1); rintro e w' ⟨rfl, ⟨nd, rfl⟩⟩; refine ⟨_, rfl, ?_⟩))
                    go_ret
                    exact ⟨by first | rfl | (simp [errW_none, errW_some] <;> rfl) | (simp [*, errW_none, errW_some] <;> rfl), by repeat (first | (with_reducible first | exact HB.out | apply below_alloc | apply pw_below_drewN | apply below_drew1) | exact HB.out)⟩
    · rw [if_neg c6] at H
      exact absurd H (by simp)

/-- THE ONE PURE STATEMENT of pontoonlaw04_LexerAhead: yours. -/
def pontoonlaw04_LexerAhead.Pure : Prop := ∀ (a0 : ByteArray), a0.size ≤ 140737488351232 → ∃ k, pontoonlaw04_LexerAhead.f k a0 = some true
theorem pontoonlaw04_LexerAhead.walk (P : pontoonlaw04_LexerAhead.Pure) (a0 : ByteArray) (w : World) (w0 : a0.size ≤ 140737488351232) :
    Calls Try.prog 7 #[.string a0] w fun e w' => e = .returned (.bool true) ∧ Below w.heap.size w w' := by
  obtain ⟨k, h⟩ := P a0 w0
  refine (pontoonlaw04_LexerAhead.calls k a0 true w h).mono ?_
  rintro e w' ⟨rfl, hd⟩
  exact ⟨rfl, hd⟩

end Go.Proofs.Ytcmjfcfjppioeaa.Pb
