-- Written by a program of this session's (wip/ext/run.py) over the kit's print, with contracts of its own.
import Derived.Test.YtcmjfcfjppioeaaPbx0
import Derived.Test.YtcmjfcfjppioeaaPbx2
import Derived.Test.YtcmjfcfjppioeaaPbx3
import Derived.Test.YtcmjfcfjppioeaaPbx4
namespace Go.Proofs.Ytcmjfcfjppioeaa.Pb
open Go Go.Proofs.Ytcmjfcfjppioeaa Go.RowKit Go.Proofs.YtcmjfcfjppioeaaW.PrintWords Go.Proofs.YtcmjfcfjppioeaaW.PrintLast Go.Proofs.YtcmjfcfjppioeaaW.PrintMore
attribute [local go_sem] max2_int min2_int max_two min_two max_three min_three max_four min_four   -- for this text's walks alone
set_option linter.unusedVariables false
set_option linter.unusedSimpArgs false

/-! ### pontoonlaw04_LexerQuotes: function 6 -/
mutual
def pontoonlaw04_LexerQuotes.j0 : Nat → ByteArray → List (S30) → Bool → Option (Bool)
  | 0, _, _, _ => none
  | k + 1, x0, x3, x56 => if x56 = true then (some false) else (pontoonlaw04_LexerQuotes.l0 k x0 x3 0)
def pontoonlaw04_LexerQuotes.l0 : Nat → ByteArray → List (S30) → Int → Option (Bool)
  | 0, _, _, _ => none
  | k + 1, x0, x3, x9 => if x9 < (x0.size : Int) then (if 0 ≤ x9 then (if (bt x0 x9) = 36 then ((pontoonlaw04_known.f k).bind fun t288 => (some t288)) else (pontoonlaw04_LexerQuotes.l0 k x0 x3 (wrap64 (x9 + 1)))) else (none)) else (if 3 + x0.size ≤ 9223372036854775807 then (if ((⟨#[36, 113, 36]⟩ : ByteArray) ++ x0).size + 3 ≤ 9223372036854775807 then ((lexer_Scan.f (((⟨#[36, 113, 36]⟩ : ByteArray) ++ x0) ++ (⟨#[36, 113, 36]⟩ : ByteArray))).bind fun bt289 => (if bt289.2.1 = 0 then ((pontoonref04_Same.f k bt289.1 x3 true).bind fun t294 => (if t294 = true then ((pontoonlaw04_known.f k).bind fun t295 => (some t295)) else (some false))) else (some false))) else (none)) else (none))
end
def pontoonlaw04_LexerQuotes.f (k : Nat) (a0 : ByteArray) : Option (Bool) := if (a0.size : Int) > 300 then ((pontoonlaw04_known.f k).bind fun t261 => (some t261)) else ((lexer_Show.f k (([(⟨3, a0, 0⟩ : S30)] : List (S30)))).bind fun t265 => ((lexer_Scan.f t265).bind fun bt266 => ((lexer_Show.f k (([(⟨2, a0, 0⟩ : S30)] : List (S30)))).bind fun t274 => ((lexer_Scan.f t274).bind fun bt275 => (if bt266.2.1 = 0 then (if bt275.2.1 = 0 then ((pontoonref04_Same.f k bt266.1 (([(⟨3, a0, 0⟩ : S30)] : List (S30))) true).bind fun t283 => (if t283 = true then ((pontoonref04_Same.f k bt275.1 (([(⟨2, a0, 0⟩ : S30)] : List (S30))) true).bind fun t287 => (pontoonlaw04_LexerQuotes.j0 k a0 bt266.1 (!t287))) else (pontoonlaw04_LexerQuotes.j0 k a0 bt266.1 true))) else (pontoonlaw04_LexerQuotes.j0 k a0 bt266.1 true)) else (pontoonlaw04_LexerQuotes.j0 k a0 bt266.1 true))))))
theorem pontoonlaw04_LexerQuotes.mono_l : ∀ k, (∀ y0 y1 y2, LeO (pontoonlaw04_LexerQuotes.j0 k y0 y1 y2) (pontoonlaw04_LexerQuotes.j0 (k + 1) y0 y1 y2)) ∧ (∀ y0 y1 y2, LeO (pontoonlaw04_LexerQuotes.l0 k y0 y1 y2) (pontoonlaw04_LexerQuotes.l0 (k + 1) y0 y1 y2))
  | 0 => ⟨fun _ _ _ r h => by simp [pontoonlaw04_LexerQuotes.j0] at h, fun _ _ _ r h => by simp [pontoonlaw04_LexerQuotes.l0] at h⟩
  | k + 1 => by
    obtain ⟨ih0, ih1⟩ := pontoonlaw04_LexerQuotes.mono_l k
    refine ⟨?_, ?_⟩
    · intro y0 y1 y2
      unfold pontoonlaw04_LexerQuotes.j0
      repeat' first
      | (with_reducible exact ih0 _ _ _)
      | (with_reducible exact ih1 _ _ _)
      | (with_reducible exact lexer_Show.mono _ _)
      | (with_reducible exact pontoonlaw04_known.mono _)
      | (with_reducible exact pontoonref04_Same.mono _ _ _ _)
      | (with_reducible exact LeO.refl _)
      | (with_reducible exact LeO.none _)
      | (with_reducible refine LeO.ite ?_ ?_)
      | (with_reducible refine LeO.bind ?_ (fun _ => ?_))
      | exact ih0 _ _ _
      | exact ih1 _ _ _
      | exact lexer_Show.mono _ _
      | exact pontoonlaw04_known.mono _
      | exact pontoonref04_Same.mono _ _ _ _
      | exact LeO.none _
      | refine LeO.ite ?_ ?_
      | refine LeO.bind ?_ (fun _ => ?_)
    · intro y0 y1 y2
      unfold pontoonlaw04_LexerQuotes.l0
      repeat' first
      | (with_reducible exact ih0 _ _ _)
      | (with_reducible exact ih1 _ _ _)
      | (with_reducible exact lexer_Show.mono _ _)
      | (with_reducible exact pontoonlaw04_known.mono _)
      | (with_reducible exact pontoonref04_Same.mono _ _ _ _)
      | (with_reducible exact LeO.refl _)
      | (with_reducible exact LeO.none _)
      | (with_reducible refine LeO.ite ?_ ?_)
      | (with_reducible refine LeO.bind ?_ (fun _ => ?_))
      | exact ih0 _ _ _
      | exact ih1 _ _ _
      | exact lexer_Show.mono _ _
      | exact pontoonlaw04_known.mono _
      | exact pontoonref04_Same.mono _ _ _ _
      | exact LeO.none _
      | refine LeO.ite ?_ ?_
      | refine LeO.bind ?_ (fun _ => ?_)
theorem pontoonlaw04_LexerQuotes.mono : ∀ a0 k, LeO (pontoonlaw04_LexerQuotes.f k a0) (pontoonlaw04_LexerQuotes.f (k + 1) a0) := by
  intro a0 k
  obtain ⟨ih0, ih1⟩ := pontoonlaw04_LexerQuotes.mono_l k
  unfold pontoonlaw04_LexerQuotes.f
  repeat' first
      | (with_reducible exact ih0 _ _ _)
      | (with_reducible exact ih1 _ _ _)
      | (with_reducible exact lexer_Show.mono _ _)
      | (with_reducible exact pontoonlaw04_known.mono _)
      | (with_reducible exact pontoonref04_Same.mono _ _ _ _)
      | (with_reducible exact LeO.refl _)
      | (with_reducible exact LeO.none _)
      | (with_reducible refine LeO.ite ?_ ?_)
      | (with_reducible refine LeO.bind ?_ (fun _ => ?_))
      | exact ih0 _ _ _
      | exact ih1 _ _ _
      | exact lexer_Show.mono _ _
      | exact pontoonlaw04_known.mono _
      | exact pontoonref04_Same.mono _ _ _ _
      | exact LeO.none _
      | refine LeO.ite ?_ ?_
      | refine LeO.bind ?_ (fun _ => ?_)
set_option maxHeartbeats 8000000 in
set_option maxRecDepth 100000 in
theorem pontoonlaw04_LexerQuotes.calls (k : Nat) (a0 : ByteArray) (r : Bool) (w : World) (h : pontoonlaw04_LexerQuotes.f k a0 = some r) :
    Calls Try.prog 6 #[.string a0] w fun e w' => e = .returned (.bool r) ∧ Below w.heap.size w w' := by
  have hu30 := Try.underlying30
  have HB := Aside0.mk (Below.refl w.heap.size w)
  have H : (if (a0.size : Int) > 300 then ((pontoonlaw04_known.f k).bind fun t261 => (some t261)) else ((lexer_Show.f k (([(⟨3, a0, 0⟩ : S30)] : List (S30)))).bind fun t265 => ((lexer_Scan.f t265).bind fun bt266 => ((lexer_Show.f k (([(⟨2, a0, 0⟩ : S30)] : List (S30)))).bind fun t274 => ((lexer_Scan.f t274).bind fun bt275 => (if bt266.2.1 = 0 then (if bt275.2.1 = 0 then ((pontoonref04_Same.f k bt266.1 (([(⟨3, a0, 0⟩ : S30)] : List (S30))) true).bind fun t283 => (if t283 = true then ((pontoonref04_Same.f k bt275.1 (([(⟨2, a0, 0⟩ : S30)] : List (S30))) true).bind fun t287 => (pontoonlaw04_LexerQuotes.j0 k a0 bt266.1 (!t287))) else (pontoonlaw04_LexerQuotes.j0 k a0 bt266.1 true))) else (pontoonlaw04_LexerQuotes.j0 k a0 bt266.1 true)) else (pontoonlaw04_LexerQuotes.j0 k a0 bt266.1 true))))))) = some r := h
  clear h
  by_cases c2 : (a0.size : Int) > 300
  · rw [if_pos c2] at H
    have c2b0 : decide (300 < (a0.size : Int)) = true := decide_eq_true c2
    have c2b1 : decide (300 < a0.size) = true := decide_eq_true (by omega)
    clear c2
    replace H := Option.bind_eq_some_iff.mp H
    obtain ⟨t261, A30, H⟩ := H
    replace H : (some t261) = some r := H
    have A3 := Aside0.mk A30
    clear A30
    obtain rfl := Option.some.inj H
    go_enter Try.func6, Try.ntmps6
    go_wp2_with (first | ((with_reducible refine gate_callee (f := 8) rfl ?_); refine goesL_ (some 16) rfl rfl Try.func8 (by kernel_rfl) rfl #[] rfl (by (try simp only [List.map_toArray, List.map_cons, List.map_nil]); first | done | rfl | (simp only [List.length_drop, List.length_take]; rfl)) ?_; (with_reducible refine (pontoonlaw04_known.calls k  t261 _ A3.out).mono ?_); rintro e w4 ⟨rfl, hb⟩; refine ⟨_, rfl, ?_⟩; have n0_ := Aside0.mk (below_step (by repeat (first | (with_reducible first | exact HB.out | apply below_alloc | apply pw_below_drewN | apply below_drew1) | exact HB.out)) hb); clear HB; have HB := n0_; clear n0_; (try clear hb); (try clear hb2); (try clear hk); (try clear hi)))
    go_ret
    exact ⟨by first | rfl | (simp [errW_none, errW_some] <;> rfl) | (simp [*, errW_none, errW_some] <;> rfl), by repeat (first | (with_reducible first | exact HB.out | apply below_alloc | apply pw_below_drewN | apply below_drew1) | exact HB.out)⟩
  · rw [if_neg c2] at H
    have c2b0 : decide (300 < (a0.size : Int)) = false := decide_eq_false c2
    have c2b1 : decide (300 < a0.size) = false := decide_eq_false (by omega)
    clear c2
    obtain ⟨y262, hy262⟩ : ∃ y_ : List (S30), y_ = (([(⟨3, a0, 0⟩ : S30)] : List (S30))) := ⟨_, rfl⟩
    replace H : ((lexer_Show.f k y262).bind fun t265 => ((lexer_Scan.f t265).bind fun bt266 => ((lexer_Show.f k (([(⟨2, a0, 0⟩ : S30)] : List (S30)))).bind fun t274 => ((lexer_Scan.f t274).bind fun bt275 => (if bt266.2.1 = 0 then (if bt275.2.1 = 0 then ((pontoonref04_Same.f k bt266.1 (([(⟨3, a0, 0⟩ : S30)] : List (S30))) true).bind fun t283 => (if t283 = true then ((pontoonref04_Same.f k bt275.1 (([(⟨2, a0, 0⟩ : S30)] : List (S30))) true).bind fun t287 => (pontoonlaw04_LexerQuotes.j0 k a0 bt266.1 (!t287))) else (pontoonlaw04_LexerQuotes.j0 k a0 bt266.1 true))) else (pontoonlaw04_LexerQuotes.j0 k a0 bt266.1 true)) else (pontoonlaw04_LexerQuotes.j0 k a0 bt266.1 true)))))) = some r := by first | (rw [hy262]; with_reducible exact H) | (have H2_ := (Option.bind_some _ _).symm.trans H; rw [hy262]; with_reducible exact H2_) | (have H2_ := (Option.bind_some _ _).symm.trans H; with_reducible exact H2_) | with_reducible exact H | (rw [hy262]; exact H) | exact H
    have Ny262 := Aside0.mk hy262
    clear hy262
    replace H := Option.bind_eq_some_iff.mp H
    obtain ⟨t265, A50, H⟩ := H
    replace H : ((lexer_Scan.f t265).bind fun bt266 => ((lexer_Show.f k (([(⟨2, a0, 0⟩ : S30)] : List (S30)))).bind fun t274 => ((lexer_Scan.f t274).bind fun bt275 => (if bt266.2.1 = 0 then (if bt275.2.1 = 0 then ((pontoonref04_Same.f k bt266.1 (([(⟨3, a0, 0⟩ : S30)] : List (S30))) true).bind fun t283 => (if t283 = true then ((pontoonref04_Same.f k bt275.1 (([(⟨2, a0, 0⟩ : S30)] : List (S30))) true).bind fun t287 => (pontoonlaw04_LexerQuotes.j0 k a0 bt266.1 (!t287))) else (pontoonlaw04_LexerQuotes.j0 k a0 bt266.1 true))) else (pontoonlaw04_LexerQuotes.j0 k a0 bt266.1 true)) else (pontoonlaw04_LexerQuotes.j0 k a0 bt266.1 true))))) = some r := H
    have A5 := Aside0.mk A50
    clear A50
    replace H := Option.bind_eq_some_iff.mp H
    obtain ⟨⟨t266, t267, t268⟩, A60, H⟩ := H
    replace H : ((lexer_Show.f k (([(⟨2, a0, 0⟩ : S30)] : List (S30)))).bind fun t274 => ((lexer_Scan.f t274).bind fun bt275 => (if t267 = 0 then (if bt275.2.1 = 0 then ((pontoonref04_Same.f k t266 (([(⟨3, a0, 0⟩ : S30)] : List (S30))) true).bind fun t283 => (if t283 = true then ((pontoonref04_Same.f k bt275.1 (([(⟨2, a0, 0⟩ : S30)] : List (S30))) true).bind fun t287 => (pontoonlaw04_LexerQuotes.j0 k a0 t266 (!t287))) else (pontoonlaw04_LexerQuotes.j0 k a0 t266 true))) else (pontoonlaw04_LexerQuotes.j0 k a0 t266 true)) else (pontoonlaw04_LexerQuotes.j0 k a0 t266 true)))) = some r := H
    have A6 := Aside0.mk A60
    clear A60
    obtain ⟨y271, hy271⟩ : ∃ y_ : List (S30), y_ = (([(⟨2, a0, 0⟩ : S30)] : List (S30))) := ⟨_, rfl⟩
    replace H : ((lexer_Show.f k y271).bind fun t274 => ((lexer_Scan.f t274).bind fun bt275 => (if t267 = 0 then (if bt275.2.1 = 0 then ((pontoonref04_Same.f k t266 (([(⟨3, a0, 0⟩ : S30)] : List (S30))) true).bind fun t283 => (if t283 = true then ((pontoonref04_Same.f k bt275.1 (([(⟨2, a0, 0⟩ : S30)] : List (S30))) true).bind fun t287 => (pontoonlaw04_LexerQuotes.j0 k a0 t266 (!t287))) else (pontoonlaw04_LexerQuotes.j0 k a0 t266 true))) else (pontoonlaw04_LexerQuotes.j0 k a0 t266 true)) else (pontoonlaw04_LexerQuotes.j0 k a0 t266 true)))) = some r := by first | (rw [hy271]; with_reducible exact H) | (have H2_ := (Option.bind_some _ _).symm.trans H; rw [hy271]; with_reducible exact H2_) | (have H2_ := (Option.bind_some _ _).symm.trans H; with_reducible exact H2_) | with_reducible exact H | (rw [hy271]; exact H) | exact H
    have Ny271 := Aside0.mk hy271
    clear hy271
    replace H := Option.bind_eq_some_iff.mp H
    obtain ⟨t274, A70, H⟩ := H
    replace H : ((lexer_Scan.f t274).bind fun bt275 => (if t267 = 0 then (if bt275.2.1 = 0 then ((pontoonref04_Same.f k t266 (([(⟨3, a0, 0⟩ : S30)] : List (S30))) true).bind fun t283 => (if t283 = true then ((pontoonref04_Same.f k bt275.1 (([(⟨2, a0, 0⟩ : S30)] : List (S30))) true).bind fun t287 => (pontoonlaw04_LexerQuotes.j0 k a0 t266 (!t287))) else (pontoonlaw04_LexerQuotes.j0 k a0 t266 true))) else (pontoonlaw04_LexerQuotes.j0 k a0 t266 true)) else (pontoonlaw04_LexerQuotes.j0 k a0 t266 true))) = some r := H
    have A7 := Aside0.mk A70
    clear A70
    replace H := Option.bind_eq_some_iff.mp H
    obtain ⟨⟨t275, t276, t277⟩, A80, H⟩ := H
    replace H : (if t267 = 0 then (if t276 = 0 then ((pontoonref04_Same.f k t266 (([(⟨3, a0, 0⟩ : S30)] : List (S30))) true).bind fun t283 => (if t283 = true then ((pontoonref04_Same.f k t275 (([(⟨2, a0, 0⟩ : S30)] : List (S30))) true).bind fun t287 => (pontoonlaw04_LexerQuotes.j0 k a0 t266 (!t287))) else (pontoonlaw04_LexerQuotes.j0 k a0 t266 true))) else (pontoonlaw04_LexerQuotes.j0 k a0 t266 true)) else (pontoonlaw04_LexerQuotes.j0 k a0 t266 true)) = some r := H
    have A8 := Aside0.mk A80
    clear A80
    have HC9 := Aside0.mk H
    clear H
    go_enter Try.func6, Try.ntmps6
    go_upto_region 5 with (first | ((with_reducible refine gate_dst (N := 20) rfl ?_); (try (refine gate_guard (by rfl) ?_; dsimp only)); refine Kd.R_lit k30 _ 30 ?hg (N := 20) ?hd (xs := ([(⟨3, a0, 0⟩ : S30)] : List (S30))) (inner := [.int .i64 3, .string a0, .int .i64 0]) (ok := fun _ => True) (okp := fun _ => True) ?hr ?hp (fun _ hk => hk) trivial (Below.refl _ _) (Nat.le_refl _) (by simp) ?_; (case hd => rfl); (case hg => rfl); (case hr => first | (go_simp; done) | (go_simp; rfl)); (case hp => exact (Reps.c3 (show Kd.M k30 _ _ _ (⟨3, a0, 0⟩ : S30) [.int .i64 3, .string a0, .int .i64 0] from (k30_mkM _ _ _ (⟨3, a0, 0⟩ : S30) )) (Reps.none _ _))); intro v263 w10 ho11 hb hg_ hnew_; clear hg_ hnew_; (first | rw [← Ny262.out] at ho11 | (simp only [Int.reduceToNat] at ho11; rw [← Ny262.out] at ho11)); have n0_ := Aside0.mk (Kd.R_lower ho11 (below_size (by repeat (first | (with_reducible first | exact HB.out | apply below_alloc | apply pw_below_drewN | apply below_drew1) | exact HB.out)))); have n1_ := Aside0.mk (below_step (by repeat (first | (with_reducible first | exact HB.out | apply below_alloc | apply pw_below_drewN | apply below_drew1) | exact HB.out)) hb); clear HB; have HO264 := n0_; have HB := n1_; clear n0_ n1_; clear hb ho11; obtain ⟨Ao12, co12, eo12⟩ := Kd.R_slice HO264.out; subst eo12) | ((with_reducible refine gate_callee (f := 14) rfl ?_); refine goesL_ (some 21) rfl rfl Try.func14 (by kernel_rfl) rfl #[.slice Ao12 y262.length co12] rfl (by (try simp only [List.map_toArray, List.map_cons, List.map_nil]); first | done | rfl | (simp only [List.length_drop, List.length_take]; rfl)) ?_; (with_reducible refine (lexer_Show.calls k _ _ y262 t265 _ ?side1 ?side2 A5.out).mono ?_); (case side1 => repeat (first | exact (Kd.R_reads' HO264.out).2.2 | (with_reducible refine Kd.C_alloc ?_ _) | (with_reducible refine Kd.C_drewN ?_ _) | (with_reducible refine Kd.C_drew ?_))); (case side2 => exact (Kd.R_reads' HO264.out).2.1); rintro e w13 ⟨rfl, hb⟩; refine ⟨_, rfl, ?_⟩; have n0_ := Aside0.mk (Kd.R_below (by (with_reducible repeat (first | apply Kd.R_alloc | apply Kd.R_drewN | apply Kd.R_drew)); exact HO264.out) hb); have n1_ := Aside0.mk (below_step (by repeat (first | (with_reducible first | exact HB.out | apply below_alloc | apply pw_below_drewN | apply below_drew1) | exact HB.out)) hb); clear HO264; clear HB; have HO264 := n0_; have HB := n1_; clear n0_ n1_; (try clear hb); (try clear hb2); (try clear hk); (try clear hi)) | ((with_reducible refine gate_callee (f := 9) rfl ?_); refine goesL_ (some 22) rfl rfl Try.func9 (by kernel_rfl) rfl #[.string t265] rfl (by (try simp only [List.map_toArray, List.map_cons, List.map_nil]); first | done | rfl | (simp only [List.length_drop, List.length_take]; rfl)) ?_; (with_reducible refine (lexer_Scan.calls t265 t266 t267 t268 _ A6.out).mono ?_); rintro e w14 ⟨v269, rfl, ho0, hb⟩; refine ⟨_, rfl, ?_⟩; have n0_ := Aside0.mk (Kd.R_elder' (by (with_reducible repeat (first | apply Kd.R_alloc | apply Kd.R_drewN | apply Kd.R_drew)); exact HO264.out) (Kd.R_base ho0) hb); have n1_ := Aside0.mk (Kd.R_lower (Kd.R_new' ho0 (Kd.R_lt (by (with_reducible repeat (first | apply Kd.R_alloc | apply Kd.R_drewN | apply Kd.R_drew)); exact HO264.out))) (below_size (by repeat (first | (with_reducible first | exact HB.out | apply below_alloc | apply pw_below_drewN | apply below_drew1) | exact HB.out)))); have n2_ := Aside0.mk (below_step (by repeat (first | (with_reducible first | exact HB.out | apply below_alloc | apply pw_below_drewN | apply below_drew1) | exact HB.out)) hb); clear HO264; clear HB; have HO264 := n0_; have HO270 := n1_; have HB := n2_; clear n0_ n1_ n2_; (try clear hb); (try clear hb2); (try clear hk); (try clear hi); (try clear ho0)) | ((with_reducible refine gate_dst (N := 29) rfl ?_); (try (refine gate_guard (by rfl) ?_; dsimp only)); refine Kd.R_lit k30 _ 30 ?hg (N := 29) ?hd (xs := ([(⟨2, a0, 0⟩ : S30)] : List (S30))) (inner := [.int .i64 2, .string a0, .int .i64 0]) (ok := fun _ => True) (okp := fun _ => True) ?hr ?hp (fun _ hk => hk) trivial (Below.refl _ _) (Nat.le_refl _) (by simp) ?_; (case hd => rfl); (case hg => rfl); (case hr => first | (go_simp; done) | (go_simp; rfl)); (case hp => exact (Reps.c3 (show Kd.M k30 _ _ _ (⟨2, a0, 0⟩ : S30) [.int .i64 2, .string a0, .int .i64 0] from (k30_mkM _ _ _ (⟨2, a0, 0⟩ : S30) )) (Reps.none _ _))); intro v272 w15 ho16 hb hg_ hnew_; clear hg_ hnew_; (first | rw [← Ny271.out] at ho16 | (simp only [Int.reduceToNat] at ho16; rw [← Ny271.out] at ho16)); have n0_ := Aside0.mk (Kd.R_elder' (by (with_reducible repeat (first | apply Kd.R_alloc | apply Kd.R_drewN | apply Kd.R_drew)); exact HO264.out) (Kd.R_base ho16) hb); have n1_ := Aside0.mk (Kd.R_elder' (by (with_reducible repeat (first | apply Kd.R_alloc | apply Kd.R_drewN | apply Kd.R_drew)); exact HO270.out) (Kd.R_base ho16) hb); have n2_ := Aside0.mk (Kd.R_lower (Kd.R_new' (Kd.R_new' ho16 (Kd.R_lt (by (with_reducible repeat (first | apply Kd.R_alloc | apply Kd.R_drewN | apply Kd.R_drew)); exact HO264.out))) (Kd.R_lt (by (with_reducible repeat (first | apply Kd.R_alloc | apply Kd.R_drewN | apply Kd.R_drew)); exact HO270.out))) (below_size (by repeat (first | (with_reducible first | exact HB.out | apply below_alloc | apply pw_below_drewN | apply below_drew1) | exact HB.out)))); have n3_ := Aside0.mk (below_step (by repeat (first | (with_reducible first | exact HB.out | apply below_alloc | apply pw_below_drewN | apply below_drew1) | exact HB.out)) hb); clear HO264; clear HO270; clear HB; have HO264 := n0_; have HO270 := n1_; have HO273 := n2_; have HB := n3_; clear n0_ n1_ n2_ n3_; clear hb ho16; obtain ⟨Ao17, co17, eo17⟩ := Kd.R_slice HO273.out; subst eo17) | ((with_reducible refine gate_callee (f := 14) rfl ?_); refine goesL_ (some 30) rfl rfl Try.func14 (by kernel_rfl) rfl #[.slice Ao17 y271.length co17] rfl (by (try simp only [List.map_toArray, List.map_cons, List.map_nil]); first | done | rfl | (simp only [List.length_drop, List.length_take]; rfl)) ?_; (with_reducible refine (lexer_Show.calls k _ _ y271 t274 _ ?side1 ?side2 A7.out).mono ?_); (case side1 => repeat (first | exact (Kd.R_reads' HO273.out).2.2 | (with_reducible refine Kd.C_alloc ?_ _) | (with_reducible refine Kd.C_drewN ?_ _) | (with_reducible refine Kd.C_drew ?_))); (case side2 => exact (Kd.R_reads' HO273.out).2.1); rintro e w18 ⟨rfl, hb⟩; refine ⟨_, rfl, ?_⟩; have n0_ := Aside0.mk (Kd.R_below (by (with_reducible repeat (first | apply Kd.R_alloc | apply Kd.R_drewN | apply Kd.R_drew)); exact HO264.out) hb); have n1_ := Aside0.mk (Kd.R_below (by (with_reducible repeat (first | apply Kd.R_alloc | apply Kd.R_drewN | apply Kd.R_drew)); exact HO270.out) hb); have n2_ := Aside0.mk (Kd.R_below (by (with_reducible repeat (first | apply Kd.R_alloc | apply Kd.R_drewN | apply Kd.R_drew)); exact HO273.out) hb); have n3_ := Aside0.mk (below_step (by repeat (first | (with_reducible first | exact HB.out | apply below_alloc | apply pw_below_drewN | apply below_drew1) | exact HB.out)) hb); clear HO264; clear HO270; clear HO273; clear HB; have HO264 := n0_; have HO270 := n1_; have HO273 := n2_; have HB := n3_; clear n0_ n1_ n2_ n3_; (try clear hb); (try clear hb2); (try clear hk); (try clear hi)) | ((with_reducible refine gate_callee (f := 9) rfl ?_); refine goesL_ (some 31) rfl rfl Try.func9 (by kernel_rfl) rfl #[.string t274] rfl (by (try simp only [List.map_toArray, List.map_cons, List.map_nil]); first | done | rfl | (simp only [List.length_drop, List.length_take]; rfl)) ?_; (with_reducible refine (lexer_Scan.calls t274 t275 t276 t277 _ A8.out).mono ?_); rintro e w19 ⟨v278, rfl, ho0, hb⟩; refine ⟨_, rfl, ?_⟩; have n0_ := Aside0.mk (Kd.R_elder' (by (with_reducible repeat (first | apply Kd.R_alloc | apply Kd.R_drewN | apply Kd.R_drew)); exact HO264.out) (Kd.R_base ho0) hb); have n1_ := Aside0.mk (Kd.R_elder' (by (with_reducible repeat (first | apply Kd.R_alloc | apply Kd.R_drewN | apply Kd.R_drew)); exact HO270.out) (Kd.R_base ho0) hb); have n2_ := Aside0.mk (Kd.R_elder' (by (with_reducible repeat (first | apply Kd.R_alloc | apply Kd.R_drewN | apply Kd.R_drew)); exact HO273.out) (Kd.R_base ho0) hb); have n3_ := Aside0.mk (Kd.R_lower (Kd.R_new' (Kd.R_new' (Kd.R_new' ho0 (Kd.R_lt (by (with_reducible repeat (first | apply Kd.R_alloc | apply Kd.R_drewN | apply Kd.R_drew)); exact HO264.out))) (Kd.R_lt (by (with_reducible repeat (first | apply Kd.R_alloc | apply Kd.R_drewN | apply Kd.R_drew)); exact HO270.out))) (Kd.R_lt (by (with_reducible repeat (first | apply Kd.R_alloc | apply Kd.R_drewN | apply Kd.R_drew)); exact HO273.out))) (below_size (by repeat (first | (with_reducible first | exact HB.out | apply below_alloc | apply pw_below_drewN | apply below_drew1) | exact HB.out)))); have n4_ := Aside0.mk (below_step (by repeat (first | (with_reducible first | exact HB.out | apply below_alloc | apply pw_below_drewN | apply below_drew1) | exact HB.out)) hb); clear HO264; clear HO270; clear HO273; clear HB; have HO264 := n0_; have HO270 := n1_; have HO273 := n2_; have HO279 := n3_; have HB := n4_; clear n0_ n1_ n2_ n3_ n4_; (try clear hb); (try clear hb2); (try clear hk); (try clear hi); (try clear ho0)))
    (try simp only [Act.put, List.setIfInBounds_toArray, List.set_cons_zero, List.set_cons_succ])
    go_cut [56] (fun v56 wc => ∃ (kq : Nat) (x56_8 : Bool), v56 = .bool x56_8 ∧ Aside0 (pontoonlaw04_LexerQuotes.j0 kq a0 t266 x56_8 = some r) ∧ Aside0 (kq ≤ k) ∧ Aside0 (Kd.R k30 30 wc w.heap.size (fun _ => True) v269 t266) ∧ Aside0 (Below w.heap.size w wc))
    case first =>
      have H := HC9.out
      clear HC9
      by_cases c20 : t267 = 0
      · rw [if_pos c20] at H
        have c20b0 : (t267 == 0) = true := beq_iff_eq.mpr c20
        have c20b1 : (t267 != 0) = false := bne_eq_false_iff_eq.mpr c20
        clear c20
        (first | rw [c20b0] | (simp only [i64_w, i32_w]; rw [c20b0]) | skip)
        by_cases c21 : t276 = 0
        · rw [if_pos c21] at H
          have c21b0 : (t276 == 0) = true := beq_iff_eq.mpr c21
          have c21b1 : (t276 != 0) = false := bne_eq_false_iff_eq.mpr c21
          clear c21
          obtain ⟨y280, hy280⟩ : ∃ y_ : List (S30), y_ = (([(⟨3, a0, 0⟩ : S30)] : List (S30))) := ⟨_, rfl⟩
          replace H : ((pontoonref04_Same.f k t266 y280 true).bind fun t283 => (if t283 = true then ((pontoonref04_Same.f k t275 (([(⟨2, a0, 0⟩ : S30)] : List (S30))) true).bind fun t287 => (pontoonlaw04_LexerQuotes.j0 k a0 t266 (!t287))) else (pontoonlaw04_LexerQuotes.j0 k a0 t266 true))) = some r := by first | (rw [hy280]; with_reducible exact H) | (have H2_ := (Option.bind_some _ _).symm.trans H; rw [hy280]; with_reducible exact H2_) | (have H2_ := (Option.bind_some _ _).symm.trans H; with_reducible exact H2_) | with_reducible exact H | (rw [hy280]; exact H) | exact H
          have Ny280 := Aside0.mk hy280
          clear hy280
          replace H := Option.bind_eq_some_iff.mp H
          obtain ⟨t283, A220, H⟩ := H
          replace H : (if t283 = true then ((pontoonref04_Same.f k t275 (([(⟨2, a0, 0⟩ : S30)] : List (S30))) true).bind fun t287 => (pontoonlaw04_LexerQuotes.j0 k a0 t266 (!t287))) else (pontoonlaw04_LexerQuotes.j0 k a0 t266 true)) = some r := H
          have A22 := Aside0.mk A220
          clear A220
          by_cases c23 : t283 = true
          · subst c23
            have H1 : ((pontoonref04_Same.f k t275 (([(⟨2, a0, 0⟩ : S30)] : List (S30))) true).bind fun t287 => (pontoonlaw04_LexerQuotes.j0 k a0 t266 (!t287))) = some r := by rw [if_pos rfl] at H; exact H
            clear H
            have H := H1
            clear H1
            obtain ⟨y284, hy284⟩ : ∃ y_ : List (S30), y_ = (([(⟨2, a0, 0⟩ : S30)] : List (S30))) := ⟨_, rfl⟩
            replace H : ((pontoonref04_Same.f k t275 y284 true).bind fun t287 => (pontoonlaw04_LexerQuotes.j0 k a0 t266 (!t287))) = some r := by first | (rw [hy284]; with_reducible exact H) | (have H2_ := (Option.bind_some _ _).symm.trans H; rw [hy284]; with_reducible exact H2_) | (have H2_ := (Option.bind_some _ _).symm.trans H; with_reducible exact H2_) | with_reducible exact H | (rw [hy284]; exact H) | exact H
            have Ny284 := Aside0.mk hy284
            clear hy284
            replace H := Option.bind_eq_some_iff.mp H
            obtain ⟨t287, A240, H⟩ := H
            replace H : (pontoonlaw04_LexerQuotes.j0 k a0 t266 (!t287)) = some r := H
            have A24 := Aside0.mk A240
            clear A240
            have H' := Aside0.mk H
            clear H
            go_wp2_with (first | ((with_reducible refine gate_dst (N := 45) rfl ?_); (try (refine gate_guard (by rfl) ?_; dsimp only)); refine Kd.R_lit k30 _ 30 ?hg (N := 45) ?hd (xs := ([(⟨3, a0, 0⟩ : S30)] : List (S30))) (inner := [.int .i64 3, .string a0, .int .i64 0]) (ok := fun _ => True) (okp := fun _ => True) ?hr ?hp (fun _ hk => hk) trivial (Below.refl _ _) (Nat.le_refl _) (by simp) ?_; (case hd => rfl); (case hg => rfl); (case hr => first | (go_simp; done) | (go_simp; rfl)); (case hp => exact (Reps.c3 (show Kd.M k30 _ _ _ (⟨3, a0, 0⟩ : S30) [.int .i64 3, .string a0, .int .i64 0] from (k30_mkM _ _ _ (⟨3, a0, 0⟩ : S30) )) (Reps.none _ _))); intro v281 w25 ho26 hb hg_ hnew_; clear hg_ hnew_; (first | rw [← Ny280.out] at ho26 | (simp only [Int.reduceToNat] at ho26; rw [← Ny280.out] at ho26)); have n0_ := Aside0.mk (Kd.R_elder' (by (with_reducible repeat (first | apply Kd.R_alloc | apply Kd.R_drewN | apply Kd.R_drew)); exact HO264.out) (Kd.R_base ho26) hb); have n1_ := Aside0.mk (Kd.R_elder' (by (with_reducible repeat (first | apply Kd.R_alloc | apply Kd.R_drewN | apply Kd.R_drew)); exact HO270.out) (Kd.R_base ho26) hb); have n2_ := Aside0.mk (Kd.R_elder' (by (with_reducible repeat (first | apply Kd.R_alloc | apply Kd.R_drewN | apply Kd.R_drew)); exact HO273.out) (Kd.R_base ho26) hb); have n3_ := Aside0.mk (Kd.R_elder' (by (with_reducible repeat (first | apply Kd.R_alloc | apply Kd.R_drewN | apply Kd.R_drew)); exact HO279.out) (Kd.R_base ho26) hb); have n4_ := Aside0.mk (Kd.R_lower (Kd.R_new' (Kd.R_new' (Kd.R_new' (Kd.R_new' ho26 (Kd.R_lt (by (with_reducible repeat (first | apply Kd.R_alloc | apply Kd.R_drewN | apply Kd.R_drew)); exact HO264.out))) (Kd.R_lt (by (with_reducible repeat (first | apply Kd.R_alloc | apply Kd.R_drewN | apply Kd.R_drew)); exact HO270.out))) (Kd.R_lt (by (with_reducible repeat (first | apply Kd.R_alloc | apply Kd.R_drewN | apply Kd.R_drew)); exact HO273.out))) (Kd.R_lt (by (with_reducible repeat (first | apply Kd.R_alloc | apply Kd.R_drewN | apply Kd.R_drew)); exact HO279.out))) (below_size (by repeat (first | (with_reducible first | exact HB.out | apply below_alloc | apply pw_below_drewN | apply below_drew1) | exact HB.out)))); have n5_ := Aside0.mk (below_step (by repeat (first | (with_reducible first | exact HB.out | apply below_alloc | apply pw_below_drewN | apply below_drew1) | exact HB.out)) hb); clear HO264; clear HO270; clear HO273; clear HO279; clear HB; have HO264 := n0_; have HO270 := n1_; have HO273 := n2_; have HO279 := n3_; have HO282 := n4_; have HB := n5_; clear n0_ n1_ n2_ n3_ n4_ n5_; clear hb ho26; obtain ⟨Ao27, co27, eo27⟩ := Kd.R_slice HO270.out; subst eo27; obtain ⟨Ao28, co28, eo28⟩ := Kd.R_slice HO282.out; subst eo28) | (go_at_call 11; (with_reducible refine (pontoonref04_Same.calls k _ _ t266 _ _ y280 true true _ ?side1 ?side2 ?side3 ?side4 A22.out).mono ?_); (case side1 => repeat (first | exact (Kd.R_reads' HO270.out).2.2 | (with_reducible refine Kd.C_alloc ?_ _) | (with_reducible refine Kd.C_drewN ?_ _) | (with_reducible refine Kd.C_drew ?_))); (case side2 => exact (Kd.R_reads' HO270.out).2.1); (case side3 => repeat (first | exact (Kd.R_reads' HO282.out).2.2 | (with_reducible refine Kd.C_alloc ?_ _) | (with_reducible refine Kd.C_drewN ?_ _) | (with_reducible refine Kd.C_drew ?_))); (case side4 => exact (Kd.R_reads' HO282.out).2.1); rintro e w' ⟨rfl, ⟨nd, rfl⟩⟩) | ((with_reducible refine gate_dst (N := 53) rfl ?_); (try (refine gate_guard (by rfl) ?_; dsimp only)); refine Kd.R_lit k30 _ 30 ?hg (N := 53) ?hd (xs := ([(⟨2, a0, 0⟩ : S30)] : List (S30))) (inner := [.int .i64 2, .string a0, .int .i64 0]) (ok := fun _ => True) (okp := fun _ => True) ?hr ?hp (fun _ hk => hk) trivial (Below.refl _ _) (Nat.le_refl _) (by simp) ?_; (case hd => rfl); (case hg => rfl); (case hr => first | (go_simp; done) | (go_simp; rfl)); (case hp => exact (Reps.c3 (show Kd.M k30 _ _ _ (⟨2, a0, 0⟩ : S30) [.int .i64 2, .string a0, .int .i64 0] from (k30_mkM _ _ _ (⟨2, a0, 0⟩ : S30) )) (Reps.none _ _))); intro v285 w29 ho30 hb hg_ hnew_; clear hg_ hnew_; (first | rw [← Ny284.out] at ho30 | (simp only [Int.reduceToNat] at ho30; rw [← Ny284.out] at ho30)); have n0_ := Aside0.mk (Kd.R_elder' (by (with_reducible repeat (first | apply Kd.R_alloc | apply Kd.R_drewN | apply Kd.R_drew)); exact HO264.out) (Kd.R_base ho30) hb); have n1_ := Aside0.mk (Kd.R_elder' (by (with_reducible repeat (first | apply Kd.R_alloc | apply Kd.R_drewN | apply Kd.R_drew)); exact HO270.out) (Kd.R_base ho30) hb); have n2_ := Aside0.mk (Kd.R_elder' (by (with_reducible repeat (first | apply Kd.R_alloc | apply Kd.R_drewN | apply Kd.R_drew)); exact HO273.out) (Kd.R_base ho30) hb); have n3_ := Aside0.mk (Kd.R_elder' (by (with_reducible repeat (first | apply Kd.R_alloc | apply Kd.R_drewN | apply Kd.R_drew)); exact HO279.out) (Kd.R_base ho30) hb); have n4_ := Aside0.mk (Kd.R_elder' (by (with_reducible repeat (first | apply Kd.R_alloc | apply Kd.R_drewN | apply Kd.R_drew)); exact HO282.out) (Kd.R_base ho30) hb); have n5_ := Aside0.mk (Kd.R_lower (Kd.R_new' (Kd.R_new' (Kd.R_new' (Kd.R_new' (Kd.R_new' ho30 (Kd.R_lt (by (with_reducible repeat (first | apply Kd.R_alloc | apply Kd.R_drewN | apply Kd.R_drew)); exact HO264.out))) (Kd.R_lt (by (with_reducible repeat (first | apply Kd.R_alloc | apply Kd.R_drewN | apply Kd.R_drew)); exact HO270.out))) (Kd.R_lt (by (with_reducible repeat (first | apply Kd.R_alloc | apply Kd.R_drewN | apply Kd.R_drew)); exact HO273.out))) (Kd.R_lt (by (with_reducible repeat (first | apply Kd.R_alloc | apply Kd.R_drewN | apply Kd.R_drew)); exact HO279.out))) (Kd.R_lt (by (with_reducible repeat (first | apply Kd.R_alloc | apply Kd.R_drewN | apply Kd.R_drew)); exact HO282.out))) (below_size (by repeat (first | (with_reducible first | exact HB.out | apply below_alloc | apply pw_below_drewN | apply below_drew1) | exact HB.out)))); have n6_ := Aside0.mk (below_step (by repeat (first | (with_reducible first | exact HB.out | apply below_alloc | apply pw_below_drewN | apply below_drew1) | exact HB.out)) hb); clear HO264; clear HO270; clear HO273; clear HO279; clear HO282; clear HB; have HO264 := n0_; have HO270 := n1_; have HO273 := n2_; have HO279 := n3_; have HO282 := n4_; have HO286 := n5_; have HB := n6_; clear n0_ n1_ n2_ n3_ n4_ n5_ n6_; clear hb ho30; obtain ⟨Ao31, co31, eo31⟩ := Kd.R_slice HO279.out; subst eo31; obtain ⟨Ao32, co32, eo32⟩ := Kd.R_slice HO286.out; subst eo32) | (go_at_call 11; (with_reducible refine (pontoonref04_Same.calls k _ _ t275 _ _ y284 true t287 _ ?side1 ?side2 ?side3 ?side4 A24.out).mono ?_); (case side1 => repeat (first | exact (Kd.R_reads' HO279.out).2.2 | (with_reducible refine Kd.C_alloc ?_ _) | (with_reducible refine Kd.C_drewN ?_ _) | (with_reducible refine Kd.C_drew ?_))); (case side2 => exact (Kd.R_reads' HO279.out).2.1); (case side3 => repeat (first | exact (Kd.R_reads' HO286.out).2.2 | (with_reducible refine Kd.C_alloc ?_ _) | (with_reducible refine Kd.C_drewN ?_ _) | (with_reducible refine Kd.C_drew ?_))); (case side4 => exact (Kd.R_reads' HO286.out).2.1); rintro e w' ⟨rfl, ⟨nd, rfl⟩⟩))
            go_meet
            case rel => exact ⟨_, (!t287), (by first | rfl | (simp; done) | (simp [*]; done)), H', ⟨by first | omega | exact Nat.le_refl _⟩, ⟨by (with_reducible repeat (first | apply Kd.R_alloc | apply Kd.R_drewN | apply Kd.R_drew)); exact Kd.R_mono HO270.out (fun _ hk => trivial)⟩, ⟨by repeat (first | (with_reducible first | exact HB.out | apply below_alloc | apply pw_below_drewN | apply below_drew1) | exact HB.out)⟩⟩
          · replace c23 := Bool.eq_false_iff.mpr c23
            subst c23
            have H1 : (pontoonlaw04_LexerQuotes.j0 k a0 t266 true) = some r := by rw [if_neg (show ¬ (false = true) by decide)] at H; exact H
            clear H
            have H := H1
            clear H1
            have H' := Aside0.mk H
            clear H
            go_wp2_with (first | ((with_reducible refine gate_dst (N := 45) rfl ?_); (try (refine gate_guard (by rfl) ?_; dsimp only)); refine Kd.R_lit k30 _ 30 ?hg (N := 45) ?hd (xs := ([(⟨3, a0, 0⟩ : S30)] : List (S30))) (inner := [.int .i64 3, .string a0, .int .i64 0]) (ok := fun _ => True) (okp := fun _ => True) ?hr ?hp (fun _ hk => hk) trivial (Below.refl _ _) (Nat.le_refl _) (by simp) ?_; (case hd => rfl); (case hg => rfl); (case hr => first | (go_simp; done) | (go_simp; rfl)); (case hp => exact (Reps.c3 (show Kd.M k30 _ _ _ (⟨3, a0, 0⟩ : S30) [.int .i64 3, .string a0, .int .i64 0] from (k30_mkM _ _ _ (⟨3, a0, 0⟩ : S30) )) (Reps.none _ _))); intro v281 w33 ho34 hb hg_ hnew_; clear hg_ hnew_; (first | rw [← Ny280.out] at ho34 | (simp only [Int.reduceToNat] at ho34; rw [← Ny280.out] at ho34)); have n0_ := Aside0.mk (Kd.R_elder' (by (with_reducible repeat (first | apply Kd.R_alloc | apply Kd.R_drewN | apply Kd.R_drew)); exact HO264.out) (Kd.R_base ho34) hb); have n1_ := Aside0.mk (Kd.R_elder' (by (with_reducible repeat (first | apply Kd.R_alloc | apply Kd.R_drewN | apply Kd.R_drew)); exact HO270.out) (Kd.R_base ho34) hb); have n2_ := Aside0.mk (Kd.R_elder' (by (with_reducible repeat (first | apply Kd.R_alloc | apply Kd.R_drewN | apply Kd.R_drew)); exact HO273.out) (Kd.R_base ho34) hb); have n3_ := Aside0.mk (Kd.R_elder' (by (with_reducible repeat (first | apply Kd.R_alloc | apply Kd.R_drewN | apply Kd.R_drew)); exact HO279.out) (Kd.R_base ho34) hb); have n4_ := Aside0.mk (Kd.R_lower (Kd.R_new' (Kd.R_new' (Kd.R_new' (Kd.R_new' ho34 (Kd.R_lt (by (with_reducible repeat (first | apply Kd.R_alloc | apply Kd.R_drewN | apply Kd.R_drew)); exact HO264.out))) (Kd.R_lt (by (with_reducible repeat (first | apply Kd.R_alloc | apply Kd.R_drewN | apply Kd.R_drew)); exact HO270.out))) (Kd.R_lt (by (with_reducible repeat (first | apply Kd.R_alloc | apply Kd.R_drewN | apply Kd.R_drew)); exact HO273.out))) (Kd.R_lt (by (with_reducible repeat (first | apply Kd.R_alloc | apply Kd.R_drewN | apply Kd.R_drew)); exact HO279.out))) (below_size (by repeat (first | (with_reducible first | exact HB.out | apply below_alloc | apply pw_below_drewN | apply below_drew1) | exact HB.out)))); have n5_ := Aside0.mk (below_step (by repeat (first | (with_reducible first | exact HB.out | apply below_alloc | apply pw_below_drewN | apply below_drew1) | exact HB.out)) hb); clear HO264; clear HO270; clear HO273; clear HO279; clear HB; have HO264 := n0_; have HO270 := n1_; have HO273 := n2_; have HO279 := n3_; have HO282 := n4_; have HB := n5_; clear n0_ n1_ n2_ n3_ n4_ n5_; clear hb ho34; obtain ⟨Ao35, co35, eo35⟩ := Kd.R_slice HO270.out; subst eo35; obtain ⟨Ao36, co36, eo36⟩ := Kd.R_slice HO282.out; subst eo36) | (go_at_call 11; (with_reducible refine (pontoonref04_Same.calls k _ _ t266 _ _ y280 true false _ ?side1 ?side2 ?side3 ?side4 A22.out).mono ?_); (case side1 => repeat (first | exact (Kd.R_reads' HO270.out).2.2 | (with_reducible refine Kd.C_alloc ?_ _) | (with_reducible refine Kd.C_drewN ?_ _) | (with_reducible refine Kd.C_drew ?_))); (case side2 => exact (Kd.R_reads' HO270.out).2.1); (case side3 => repeat (first | exact (Kd.R_reads' HO282.out).2.2 | (with_reducible refine Kd.C_alloc ?_ _) | (with_reducible refine Kd.C_drewN ?_ _) | (with_reducible refine Kd.C_drew ?_))); (case side4 => exact (Kd.R_reads' HO282.out).2.1); rintro e w' ⟨rfl, ⟨nd, rfl⟩⟩))
            go_meet
            case rel => exact ⟨_, (true), (by first | rfl | (simp; done) | (simp [*]; done)), H', ⟨by first | omega | exact Nat.le_refl _⟩, ⟨by (with_reducible repeat (first | apply Kd.R_alloc | apply Kd.R_drewN | apply Kd.R_drew)); exact Kd.R_mono HO270.out (fun _ hk => trivial)⟩, ⟨by repeat (first | (with_reducible first | exact HB.out | apply below_alloc | apply pw_below_drewN | apply below_drew1) | exact HB.out)⟩⟩
        · rw [if_neg c21] at H
          have c21b0 : (t276 == 0) = false := beq_eq_false_iff_ne.mpr c21
          have c21b1 : (t276 != 0) = true := bne_iff_ne.mpr c21
          have H' := Aside0.mk H
          clear H
          go_wp2
          go_meet
          case rel => exact ⟨_, (true), (by first | rfl | (simp; done) | (simp [*]; done)), H', ⟨by first | omega | exact Nat.le_refl _⟩, ⟨by (with_reducible repeat (first | apply Kd.R_alloc | apply Kd.R_drewN | apply Kd.R_drew)); exact Kd.R_mono HO270.out (fun _ hk => trivial)⟩, ⟨by repeat (first | (with_reducible first | exact HB.out | apply below_alloc | apply pw_below_drewN | apply below_drew1) | exact HB.out)⟩⟩
      · rw [if_neg c20] at H
        have c20b0 : (t267 == 0) = false := beq_eq_false_iff_ne.mpr c20
        have c20b1 : (t267 != 0) = true := bne_iff_ne.mpr c20
        (first | rw [c20b0] | (simp only [i64_w, i32_w]; rw [c20b0]) | skip)
        have H' := Aside0.mk H
        clear H
        go_wp2
        go_meet
        case rel => exact ⟨_, (true), (by first | rfl | (simp; done) | (simp [*]; done)), H', ⟨by first | omega | exact Nat.le_refl _⟩, ⟨by (with_reducible repeat (first | apply Kd.R_alloc | apply Kd.R_drewN | apply Kd.R_drew)); exact Kd.R_mono HO270.out (fun _ hk => trivial)⟩, ⟨by repeat (first | (with_reducible first | exact HB.out | apply below_alloc | apply pw_below_drewN | apply below_drew1) | exact HB.out)⟩⟩
    case rest =>
      clear HC9
      try clear c1
      try clear c2
      try clear c2b0
      try clear c2b1
      try clear p2
      try clear c3
      try clear c6
      try clear c8
      try clear c9
      try clear c14
      try clear c20
      try clear c20b0
      try clear c20b1
      try clear c21
      try clear c21b0
      try clear c21b1
      try clear c23
      obtain ⟨kq, x56_8, rfl, HA, HJ8, HO_3, HB⟩ := hcut
      cases kq with
      | zero => exact absurd HA.out (by simp [pontoonlaw04_LexerQuotes.j0])
      | succ kj8 =>
        have H := HA.out
        clear HA
        simp only [pontoonlaw04_LexerQuotes.j0] at H
        by_cases c37 : x56_8 = true
        · subst c37
          have H1 : (some false) = some r := by rw [if_pos rfl] at H; exact H
          clear H
          have H := H1
          clear H1
          obtain rfl := Option.some.inj H
          go_wp2
          go_ret
          exact ⟨by first | rfl | (simp [errW_none, errW_some] <;> rfl) | (simp [*, errW_none, errW_some] <;> rfl), by repeat (first | (with_reducible first | exact HB.out | apply below_alloc | apply pw_below_drewN | apply below_drew1) | exact HB.out)⟩
        · replace c37 := Bool.eq_false_iff.mpr c37
          subst c37
          have H1 : (pontoonlaw04_LexerQuotes.l0 kj8 a0 t266 0) = some r := by rw [if_neg (show ¬ (false = true) by decide)] at H; exact H
          clear H
          have H := H1
          clear H1
          have H' := Aside0.mk H
          clear H
          go_wp2
          go_loopg [9] kj8 (fun kq v9 w' => ∃ (x9_2 : Int), v9 = .int .i64 x9_2 ∧ Aside0 (pontoonlaw04_LexerQuotes.l0 kq a0 t266 x9_2 = some r) ∧ Aside0 (kq ≤ kj8) ∧ Aside0 (Kd.R k30 30 w' w.heap.size (fun _ => True) v269 t266) ∧ Aside0 (Below w.heap.size w w'))
          case atStart => exact ⟨(0), (by first | rfl | (simp; done) | (simp [*]; done)), H', ⟨Nat.le_refl _⟩, ⟨by (with_reducible repeat (first | apply Kd.R_alloc | apply Kd.R_drewN | apply Kd.R_drew)); exact HO_3.out⟩, ⟨by repeat (first | (with_reducible first | exact HB.out | apply below_alloc | apply pw_below_drewN | apply below_drew1) | exact HB.out)⟩⟩
          case round =>
            clear H'
            try clear c1
            try clear c2
            try clear c2b0
            try clear c2b1
            try clear p2
            try clear c3
            try clear c6
            try clear c8
            try clear c9
            try clear c14
            try clear c20
            try clear c20b0
            try clear c20b1
            try clear c21
            try clear c21b0
            try clear c21b1
            try clear c23
            try clear c37
            try clear p2
            obtain ⟨x9_2, rfl, HA, HK2, HO_3, HB⟩ := hrel
            cases gk with
            | zero => exact absurd HA.out (by simp [pontoonlaw04_LexerQuotes.l0])
            | succ k2 =>
              have H := HA.out
              clear HA
              simp only [pontoonlaw04_LexerQuotes.l0] at H
              by_cases c38 : x9_2 < (a0.size : Int)
              · rw [if_pos c38] at H
                have c38b0 : decide (x9_2 < (a0.size : Int)) = true := decide_eq_true c38
                clear c38
                by_cases c39 : 0 ≤ x9_2
                · rw [if_pos c39] at H
                  have c39b0 : decide (0 ≤ x9_2) = true := decide_eq_true c39
                  clear c39
                  by_cases c41 : (bt a0 x9_2) = 36
                  · rw [if_pos c41] at H
                    have c41b0 : ((bt a0 x9_2) == 36) = true := beq_iff_eq.mpr c41
                    have c41b1 : ((bt a0 x9_2) != 36) = false := bne_eq_false_iff_eq.mpr c41
                    clear c41
                    replace H := Option.bind_eq_some_iff.mp H
                    obtain ⟨t288, A420, H⟩ := H
                    replace H : (some t288) = some r := H
                    have A42 := Aside0.mk A420
                    clear A420
                    obtain rfl := Option.some.inj H
                    have p40 : 0 ≤ (x9_2 : Int) := of_decide_eq_true (by first | (with_reducible assumption) | assumption)
                    have q40 : x9_2 < (a0.size : Int) := of_decide_eq_true (by first | (with_reducible assumption) | assumption)
                    have hx40 := bt_at a0 x9_2
                    have q40n := q40
                    replace p40 := eq_true p40
                    replace q40 := eq_true q40
                    go_wp2_with (first | ((with_reducible refine gate_callee (f := 8) rfl ?_); refine goesL_ (some 67) rfl rfl Try.func8 (by kernel_rfl) rfl #[] rfl (by (try simp only [List.map_toArray, List.map_cons, List.map_nil]); first | done | rfl | (simp only [List.length_drop, List.length_take]; rfl)) ?_; (with_reducible refine (pontoonlaw04_known.calls k2  t288 _ A42.out).mono ?_); rintro e w43 ⟨rfl, hb⟩; refine ⟨_, rfl, ?_⟩; have n0_ := Aside0.mk (Kd.R_below (by (with_reducible repeat (first | apply Kd.R_alloc | apply Kd.R_drewN | apply Kd.R_drew)); exact HO_3.out) hb); have n1_ := Aside0.mk (below_step (by repeat (first | (with_reducible first | exact HB.out | apply below_alloc | apply pw_below_drewN | apply below_drew1) | exact HB.out)) hb); clear HO_3; clear HB; have HO_3 := n0_; have HB := n1_; clear n0_ n1_; (try clear hb); (try clear hb2); (try clear hk); (try clear hi)))
                    go_ret
                    exact ⟨by first | rfl | (simp [errW_none, errW_some] <;> rfl) | (simp [*, errW_none, errW_some] <;> rfl), by repeat (first | (with_reducible first | exact HB.out | apply below_alloc | apply pw_below_drewN | apply below_drew1) | exact HB.out)⟩
                  · rw [if_neg c41] at H
                    have c41b0 : ((bt a0 x9_2) == 36) = false := beq_eq_false_iff_ne.mpr c41
                    have c41b1 : ((bt a0 x9_2) != 36) = true := bne_iff_ne.mpr c41
                    have H' := Aside0.mk H
                    clear H
                    have p40 : 0 ≤ (x9_2 : Int) := of_decide_eq_true (by first | (with_reducible assumption) | assumption)
                    have q40 : x9_2 < (a0.size : Int) := of_decide_eq_true (by first | (with_reducible assumption) | assumption)
                    have hx40 := bt_at a0 x9_2
                    have q40n := q40
                    replace p40 := eq_true p40
                    replace q40 := eq_true q40
                    go_wp2
                    go_roundg k2
                    case measure => have := HJ8.out; have := HK2.out; omega
                    case rel => exact ⟨(wrap64 (x9_2 + 1)), (by first | rfl | (simp; done) | (simp [*]; done)), H', ⟨by have := HJ8.out; have := HK2.out; omega⟩, ⟨by (with_reducible repeat (first | apply Kd.R_alloc | apply Kd.R_drewN | apply Kd.R_drew)); exact HO_3.out⟩, ⟨by repeat (first | (with_reducible first | exact HB.out | apply below_alloc | apply pw_below_drewN | apply below_drew1) | exact HB.out)⟩⟩
                · rw [if_neg c39] at H
                  exact absurd H (by simp)
              · rw [if_neg c38] at H
                have c38b0 : decide (x9_2 < (a0.size : Int)) = false := decide_eq_false c38
                clear c38
                by_cases c44 : 3 + a0.size ≤ 9223372036854775807
                · rw [if_pos c44] at H
                  have c44b0 := eq_true c44
                  have c44b1 : decide (3 + a0.size ≤ 9223372036854775807) = true := decide_eq_true c44
                  try have c44b2 : (9223372036854775807 < 3 + a0.size) = False := eq_false (Nat.not_lt.2 c44)
                  try (have c44b3 := c44; simp [ByteArray.size_extract] at c44b3)
                  by_cases c45 : ((⟨#[36, 113, 36]⟩ : ByteArray) ++ a0).size + 3 ≤ 9223372036854775807
                  · rw [if_pos c45] at H
                    have c45b0 := eq_true c45
                    have c45b1 : decide (((⟨#[36, 113, 36]⟩ : ByteArray) ++ a0).size + 3 ≤ 9223372036854775807) = true := decide_eq_true c45
                    try have c45b2 : (9223372036854775807 < ((⟨#[36, 113, 36]⟩ : ByteArray) ++ a0).size + 3) = False := eq_false (Nat.not_lt.2 c45)
                    try (have c45b3 := c45; simp [ByteArray.size_extract] at c45b3)
                    have c45b4 : (9223372036854775807 < 3 + a0.size + 3) = False := eq_false (by have z_ : ((⟨#[36, 113, 36]⟩ : ByteArray) ++ a0).size = 3 + a0.size := ByteArray.size_append; omega)
                    replace H := Option.bind_eq_some_iff.mp H
                    obtain ⟨⟨t289, t290, t291⟩, A460, H⟩ := H
                    replace H : (if t290 = 0 then ((pontoonref04_Same.f k2 t289 t266 true).bind fun t294 => (if t294 = true then ((pontoonlaw04_known.f k2).bind fun t295 => (some t295)) else (some false))) else (some false)) = some r := H
                    have A46 := Aside0.mk A460
                    clear A460
                    by_cases c47 : t290 = 0
                    · rw [if_pos c47] at H
                      have c47b0 : (t290 == 0) = true := beq_iff_eq.mpr c47
                      have c47b1 : (t290 != 0) = false := bne_eq_false_iff_eq.mpr c47
                      clear c47
                      replace H := Option.bind_eq_some_iff.mp H
                      obtain ⟨t294, A480, H⟩ := H
                      replace H : (if t294 = true then ((pontoonlaw04_known.f k2).bind fun t295 => (some t295)) else (some false)) = some r := H
                      have A48 := Aside0.mk A480
                      clear A480
                      by_cases c49 : t294 = true
                      · subst c49
                        have H1 : ((pontoonlaw04_known.f k2).bind fun t295 => (some t295)) = some r := by rw [if_pos rfl] at H; exact H
                        clear H
                        have H := H1
                        clear H1
                        replace H := Option.bind_eq_some_iff.mp H
                        obtain ⟨t295, A500, H⟩ := H
                        replace H : (some t295) = some r := H
                        have A50 := Aside0.mk A500
                        clear A500
                        obtain rfl := Option.some.inj H
                        go_wp2_with (first | ((with_reducible refine gate_callee (f := 9) rfl ?_); refine goesL_ (some 72) rfl rfl Try.func9 (by kernel_rfl) rfl #[.string (((⟨#[36, 113, 36]⟩ : ByteArray) ++ a0) ++ (⟨#[36, 113, 36]⟩ : ByteArray))] rfl (by (try simp only [List.map_toArray, List.map_cons, List.map_nil]); first | done | rfl | (simp only [List.length_drop, List.length_take]; rfl)) ?_; (with_reducible refine (lexer_Scan.calls (((⟨#[36, 113, 36]⟩ : ByteArray) ++ a0) ++ (⟨#[36, 113, 36]⟩ : ByteArray)) t289 t290 t291 _ A46.out).mono ?_); rintro e w51 ⟨v292, rfl, ho0, hb⟩; refine ⟨_, rfl, ?_⟩; have n0_ := Aside0.mk (Kd.R_elder' (by (with_reducible repeat (first | apply Kd.R_alloc | apply Kd.R_drewN | apply Kd.R_drew)); exact HO_3.out) (Kd.R_base ho0) hb); have n1_ := Aside0.mk (Kd.R_lower (Kd.R_new' ho0 (Kd.R_lt (by (with_reducible repeat (first | apply Kd.R_alloc | apply Kd.R_drewN | apply Kd.R_drew)); exact HO_3.out))) (below_size (by repeat (first | (with_reducible first | exact HB.out | apply below_alloc | apply pw_below_drewN | apply below_drew1) | exact HB.out)))); have n2_ := Aside0.mk (below_step (by repeat (first | (with_reducible first | exact HB.out | apply below_alloc | apply pw_below_drewN | apply below_drew1) | exact HB.out)) hb); clear HO_3; clear HB; have HO_3 := n0_; have HO293 := n1_; have HB := n2_; clear n0_ n1_ n2_; (try clear hb); (try clear hb2); (try clear hk); (try clear hi); (try clear ho0); obtain ⟨Ao52, co52, eo52⟩ := Kd.R_slice HO293.out; subst eo52; obtain ⟨Ao53, co53, eo53⟩ := Kd.R_slice HO_3.out; subst eo53) | (go_at_call 11; (with_reducible refine (pontoonref04_Same.calls k2 _ _ t289 _ _ t266 true true _ ?side1 ?side2 ?side3 ?side4 A48.out).mono ?_); (case side1 => repeat (first | exact (Kd.R_reads' HO293.out).2.2 | (with_reducible refine Kd.C_alloc ?_ _) | (with_reducible refine Kd.C_drewN ?_ _) | (with_reducible refine Kd.C_drew ?_))); (case side2 => exact (Kd.R_reads' HO293.out).2.1); (case side3 => repeat (first | exact (Kd.R_reads' HO_3.out).2.2 | (with_reducible refine Kd.C_alloc ?_ _) | (with_reducible refine Kd.C_drewN ?_ _) | (with_reducible refine Kd.C_drew ?_))); (case side4 => exact (Kd.R_reads' HO_3.out).2.1); rintro e w' ⟨rfl, ⟨nd, rfl⟩⟩) | (go_at_call 8; (with_reducible refine (pontoonlaw04_known.calls k2  t295 _ A50.out).mono ?_); rintro e w54 ⟨rfl, hb⟩; have n0_ := Aside0.mk (Kd.R_below (by (with_reducible repeat (first | apply Kd.R_alloc | apply Kd.R_drewN | apply Kd.R_drew)); exact HO_3.out) hb); have n1_ := Aside0.mk (Kd.R_below (by (with_reducible repeat (first | apply Kd.R_alloc | apply Kd.R_drewN | apply Kd.R_drew)); exact HO293.out) hb); have n2_ := Aside0.mk (below_step (by repeat (first | (with_reducible first | exact HB.out | apply below_alloc | apply pw_below_drewN | apply below_drew1) | exact HB.out)) hb); clear HO_3; clear HO293; clear HB; have HO_3 := n0_; have HO293 := n1_; have HB := n2_; clear n0_ n1_ n2_; (try clear hb); (try clear hb2); (try clear hk); (try clear hi)))
                        go_ret
                        exact ⟨by first | rfl | (simp [errW_none, errW_some] <;> rfl) | (simp [*, errW_none, errW_some] <;> rfl), by repeat (first | (with_reducible first | exact HB.out | apply below_alloc | apply pw_below_drewN | apply below_drew1) | exact HB.out)⟩
                      · replace c49 := Bool.eq_false_iff.mpr c49
                        subst c49
                        have H1 : (some false) = some r := by rw [if_neg (show ¬ (false = true) by decide)] at H; exact H
                        clear H
                        have H := H1
                        clear H1
                        obtain rfl := Option.some.inj H
                        go_wp2_with (first | ((with_reducible refine gate_callee (f := 9) rfl ?_); refine goesL_ (some 72) rfl rfl Try.func9 (by kernel_rfl) rfl #[.string (((⟨#[36, 113, 36]⟩ : ByteArray) ++ a0) ++ (⟨#[36, 113, 36]⟩ : ByteArray))] rfl (by (try simp only [List.map_toArray, List.map_cons, List.map_nil]); first | done | rfl | (simp only [List.length_drop, List.length_take]; rfl)) ?_; (with_reducible refine (lexer_Scan.calls (((⟨#[36, 113, 36]⟩ : ByteArray) ++ a0) ++ (⟨#[36, 113, 36]⟩ : ByteArray)) t289 t290 t291 _ A46.out).mono ?_); rintro e w55 ⟨v292, rfl, ho0, hb⟩; refine ⟨_, rfl, ?_⟩; have n0_ := Aside0.mk (Kd.R_elder' (by (with_reducible repeat (first | apply Kd.R_alloc | apply Kd.R_drewN | apply Kd.R_drew)); exact HO_3.out) (Kd.R_base ho0) hb); have n1_ := Aside0.mk (Kd.R_lower (Kd.R_new' ho0 (Kd.R_lt (by (with_reducible repeat (first | apply Kd.R_alloc | apply Kd.R_drewN | apply Kd.R_drew)); exact HO_3.out))) (below_size (by repeat (first | (with_reducible first | exact HB.out | apply below_alloc | apply pw_below_drewN | apply below_drew1) | exact HB.out)))); have n2_ := Aside0.mk (below_step (by repeat (first | (with_reducible first | exact HB.out | apply below_alloc | apply pw_below_drewN | apply below_drew1) | exact HB.out)) hb); clear HO_3; clear HB; have HO_3 := n0_; have HO293 := n1_; have HB := n2_; clear n0_ n1_ n2_; (try clear hb); (try clear hb2); (try clear hk); (try clear hi); (try clear ho0); obtain ⟨Ao56, co56, eo56⟩ := Kd.R_slice HO293.out; subst eo56; obtain ⟨Ao57, co57, eo57⟩ := Kd.R_slice HO_3.out; subst eo57) | (go_at_call 11; (with_reducible refine (pontoonref04_Same.calls k2 _ _ t289 _ _ t266 true false _ ?side1 ?side2 ?side3 ?side4 A48.out).mono ?_); (case side1 => repeat (first | exact (Kd.R_reads' HO293.out).2.2 | (with_reducible refine Kd.C_alloc ?_ _) | (with_reducible refine Kd.C_drewN ?_ _) | (with_reducible refine Kd.C_drew ?_))); (case side2 => exact (Kd.R_reads' HO293.out).2.1); (case side3 => repeat (first | exact (Kd.R_reads' HO_3.out).2.2 | (with_reducible refine Kd.C_alloc ?_ _) | (with_reducible refine Kd.C_drewN ?_ _) | (with_reducible refine Kd.C_drew ?_))); (case side4 => exact (Kd.R_reads' HO_3.out).2.1); rintro e w' ⟨rfl, ⟨nd, rfl⟩⟩))
                        go_ret
                        exact ⟨by first | rfl | (simp [errW_none, errW_some] <;> rfl) | (simp [*, errW_none, errW_some] <;> rfl), by repeat (first | (with_reducible first | exact HB.out | apply below_alloc | apply pw_below_drewN | apply below_drew1) | exact HB.out)⟩
                    · rw [if_neg c47] at H
                      have c47b0 : (t290 == 0) = false := beq_eq_false_iff_ne.mpr c47
                      have c47b1 : (t290 != 0) = true := bne_iff_ne.mpr c47
                      obtain rfl := Option.some.inj H
                      go_wp2_with (first | ((with_reducible refine gate_callee (f := 9) rfl ?_); refine goesL_ (some 72) rfl rfl Try.func9 (by kernel_rfl) rfl #[.string (((⟨#[36, 113, 36]⟩ : ByteArray) ++ a0) ++ (⟨#[36, 113, 36]⟩ : ByteArray))] rfl (by (try simp only [List.map_toArray, List.map_cons, List.map_nil]); first | done | rfl | (simp only [List.length_drop, List.length_take]; rfl)) ?_; (with_reducible refine (lexer_Scan.calls (((⟨#[36, 113, 36]⟩ : ByteArray) ++ a0) ++ (⟨#[36, 113, 36]⟩ : ByteArray)) t289 t290 t291 _ A46.out).mono ?_); rintro e w58 ⟨v292, rfl, ho0, hb⟩; refine ⟨_, rfl, ?_⟩; have n0_ := Aside0.mk (Kd.R_elder' (by (with_reducible repeat (first | apply Kd.R_alloc | apply Kd.R_drewN | apply Kd.R_drew)); exact HO_3.out) (Kd.R_base ho0) hb); have n1_ := Aside0.mk (Kd.R_lower (Kd.R_new' ho0 (Kd.R_lt (by (with_reducible repeat (first | apply Kd.R_alloc | apply Kd.R_drewN | apply Kd.R_drew)); exact HO_3.out))) (below_size (by repeat (first | (with_reducible first | exact HB.out | apply below_alloc | apply pw_below_drewN | apply below_drew1) | exact HB.out)))); have n2_ := Aside0.mk (below_step (by repeat (first | (with_reducible first | exact HB.out | apply below_alloc | apply pw_below_drewN | apply below_drew1) | exact HB.out)) hb); clear HO_3; clear HB; have HO_3 := n0_; have HO293 := n1_; have HB := n2_; clear n0_ n1_ n2_; (try clear hb); (try clear hb2); (try clear hk); (try clear hi); (try clear ho0)))
                      go_ret
                      exact ⟨by first | rfl | (simp [errW_none, errW_some] <;> rfl) | (simp [*, errW_none, errW_some] <;> rfl), by repeat (first | (with_reducible first | exact HB.out | apply below_alloc | apply pw_below_drewN | apply below_drew1) | exact HB.out)⟩
                  · rw [if_neg c45] at H
                    exact absurd H (by simp)
                · rw [if_neg c44] at H
                  exact absurd H (by simp)

/-- THE ONE PURE STATEMENT of pontoonlaw04_LexerQuotes: yours. -/
def pontoonlaw04_LexerQuotes.Pure : Prop := ∀ (a0 : ByteArray), a0.size ≤ 140737488351232 → ∃ k, pontoonlaw04_LexerQuotes.f k a0 = some true
theorem pontoonlaw04_LexerQuotes.walk (P : pontoonlaw04_LexerQuotes.Pure) (a0 : ByteArray) (w : World) (w0 : a0.size ≤ 140737488351232) :
    Calls Try.prog 6 #[.string a0] w fun e w' => e = .returned (.bool true) ∧ Below w.heap.size w w' := by
  obtain ⟨k, h⟩ := P a0 w0
  refine (pontoonlaw04_LexerQuotes.calls k a0 true w h).mono ?_
  rintro e w' ⟨rfl, hd⟩
  exact ⟨rfl, hd⟩

end Go.Proofs.Ytcmjfcfjppioeaa.Pb
