/- gauge: what must come of fixed calls. -/
import Derived.Test.YtmgcmheiabmajaaGa8
namespace Go.Proofs.Ytmgcmheiabmajaa
open Go Go.RowKit Go.Proofs.Ytmgcmheiabmajaa.Pa Go.Proofs.YtmgcmheiabmajaaW.PrintWords Go.Proofs.YtmgcmheiabmajaaW.PrintLast

/-- A gauge that the call made, and all that was there stands. -/
structure St (w0 w : World) (p b cp : Nat) (K : List SB) (t s : Int) : Prop where
  ga : GA w p b cp K t s
  bel : Below w0.heap.size w0 w
  hp : w0.heap.size ≤ p
  hb : w0.heap.size ≤ b
section
variable {w0 w w' : World} {p b cp : Nat} {K : List SB} {t s : Int}
theorem St.keep (h : St w0 w p b cp K t s) (k : Below w.heap.size w w') : St w0 w' p b cp K t s := ⟨h.ga.below k, h.bel.trans (k.mono h.bel.size), h.hp, h.hb⟩
theorem St.step (h : St w0 w p b cp K t s) {K' : List SB} {t' s' : Int} {L : List SB} {a c : Int} (hG : GA w' p b cp L a c) (e1 : L = K') (e2 : a = t') (e3 : c = s') (hT : Touch [p, b] w w') : St w0 w' p b cp K' t' s' := by
  subst e1 e2 e3
  exact ⟨hG, h.bel.trans (hT.below h.bel.size (fun i hi => by simp at hi; rcases hi with rfl | rfl; exact h.hp; exact h.hb)), h.hp, h.hb⟩
theorem litI (w : World) (l : List Int) (ty : TypeId) (hl : l.length ≤ 1000) : Kd.C (Kd.int .i64) (w.alloc (.cells (l.map (Value.int .i64)).toArray ty)) (some ⟨w.heap.size, 0, none⟩) l.length l := by
  refine ⟨rfl, by omega, fun h => ⟨_, rfl, fun j p hj => ⟨[.int .i64 p], rfl, rfl, fun i u hi => ?_⟩⟩⟩
  have hi0 : i = 0 := by
    cases i with
    | zero => rfl
    | succ i => simp at hi
  subst hi0
  have hu : u = .int .i64 p := by simpa using hi.symm
  subst hu
  rw [add_pl, cell_of (heap_alloc_new w _)]
  simp only [Nat.zero_add, Nat.add_zero]
  show (l.map (Value.int .i64)).toArray[j * 1]? = _
  rw [Nat.mul_one, List.getElem?_toArray, List.getElem?_map, hj]
  rfl
def risD (L : List SB) : Bool := risB (L.map (·.b))
theorem ris_dec (L : List SB) (h : risD L = true) : Ris L := by
  have := (risB_iff _).1 h
  exact List.pairwise_map.1 this
def smD (L : List SB) (t s : Int) : Bool := L.all (fun y => decide (0 ≤ y.c ∧ y.c ≤ 1000000)) && decide (0 ≤ t ∧ t ≤ 1000000) && decide (0 ≤ s ∧ s ≤ 1152921504606846976)
theorem sm_dec (L : List SB) (t s : Int) (h : smD L t s = true) : Sm L t s := by
  unfold smD at h
  rw [Bool.and_eq_true, Bool.and_eq_true, List.all_eq_true, decide_eq_true_iff, decide_eq_true_iff] at h
  exact ⟨fun y hy => of_decide_eq_true (h.1.1 y hy), h.1.2, h.2⟩
def bndD (L : List SB) : Bool := L.dropLast.all (fun y => decide (0 ≤ y.b ∧ y.b ≤ 1152921504606846976))
theorem bnd_dec (L : List SB) (h : bndD L = true) : Bnd L := by
  unfold bndD at h
  rw [List.all_eq_true] at h
  exact ⟨fun y hy => of_decide_eq_true (h y hy)⟩
theorem good15 : Good [1, 5] := ⟨by decide, by decide, (risB_iff _).1 rfl, by decide, by decide⟩
theorem bad55 : ¬ Good [5, 5] := fun h => absurd ((risB_iff _).2 h.2.2.1) (by decide)
def K0 : List SB := [⟨1, 0⟩, ⟨5, 0⟩, ⟨1152921504606846976, 0⟩]
def K1 : List SB := [⟨1, 1⟩, ⟨5, 0⟩, ⟨1152921504606846976, 0⟩]
def K2 : List SB := [⟨1, 2⟩, ⟨5, 0⟩, ⟨1152921504606846976, 0⟩]
def K3 : List SB := [⟨1, 2⟩, ⟨5, 1⟩, ⟨1152921504606846976, 0⟩]
def K4 : List SB := [⟨1, 2⟩, ⟨5, 1⟩, ⟨1152921504606846976, 1⟩]
def known_show : ByteArray := ⟨#[49, 58, 32, 50, 10, 53, 58, 32, 49, 10, 109, 111, 114, 101, 58, 32, 49, 10]⟩
set_option maxRecDepth 100000 in
theorem known_showG : showG K4 = known_show := by kernel_rfl
set_option maxHeartbeats 4000000 in
theorem known_any (w : World) : Calls Try.prog 6 #[] w fun e w' => e = .returned (.bool true) ∧ Below w.heap.size w w' := by
  go_enter Try.func6, Try.ntmps6
  repeat (first | go_step3 | go_values | go_skip | go_guarded | go_step | go_upon)
  (go_at_call 7; refine (new_ok (l := [1, 5]) (c := 2) (litI w [1, 5] 3 (by decide)) (by decide) good15).mono ?_; rintro e w1 ⟨p, b, cp, rfl, hG, hp, hb, hB⟩; have hsz : w.heap.size ≤ (w.alloc (.cells #[.int .i64 1, .int .i64 5] 3)).heap.size := (by simp); have S0 : Hid (St w w1 p b cp K0 0 0) := Lib.hid ⟨hG, ((Below.refl _ _).alloc (Nat.le_refl _) _).trans (hB.mono hsz), Nat.le_trans hsz hp, Nat.le_trans hsz hb⟩; clear hG hp hb hB hsz; dsimp only)
  repeat (first | go_step3 | go_values | go_skip | go_guarded | go_step | go_upon)
  (go_at_call 7; refine (new_bad (l := [5, 5]) (c := 2) (litI w1 [5, 5] 3 (by decide)) (by decide) bad55).mono ?_; rintro e w2 ⟨rfl, hB⟩; have S1 := Lib.hid ((S0.out.keep (below_alloc (Below.refl _ _) _)).keep hB); clear hB S0; dsimp only)
  repeat (first | go_step3 | go_values | go_skip | go_guarded | go_step | go_upon)
  (go_at_call 9; refine (add_any S1.out.ga (ris_dec _ rfl) (sm_dec _ _ _ rfl) 0 (by decide) (by decide) (by decide)).mono ?_; rintro e w3 ⟨rfl, hG, hT⟩; have S2 := Lib.hid (S1.out.step (K' := K1) (t' := 1) (s' := 0) hG rfl rfl rfl hT); clear hG hT S1; dsimp only)
  repeat (first | go_step3 | go_values | go_skip | go_guarded | go_step | go_upon)
  (go_at_call 9; refine (add_any S2.out.ga (ris_dec _ rfl) (sm_dec _ _ _ rfl) 1 (by decide) (by decide) (by decide)).mono ?_; rintro e w4 ⟨rfl, hG, hT⟩; have S3 := Lib.hid (S2.out.step (K' := K2) (t' := 2) (s' := 1) hG rfl rfl rfl hT); clear hG hT S2; dsimp only)
  repeat (first | go_step3 | go_values | go_skip | go_guarded | go_step | go_upon)
  (go_at_call 9; refine (add_any S3.out.ga (ris_dec _ rfl) (sm_dec _ _ _ rfl) 3 (by decide) (by decide) (by decide)).mono ?_; rintro e w5 ⟨rfl, hG, hT⟩; have S4 := Lib.hid (S3.out.step (K' := K3) (t' := 3) (s' := 4) hG rfl rfl rfl hT); clear hG hT S3; dsimp only)
  repeat (first | go_step3 | go_values | go_skip | go_guarded | go_step | go_upon)
  (go_at_call 9; refine (add_any S4.out.ga (ris_dec _ rfl) (sm_dec _ _ _ rfl) 9 (by decide) (by decide) (by decide)).mono ?_; rintro e w6 ⟨rfl, hG, hT⟩; have S5 := Lib.hid (S4.out.step (K' := K4) (t' := 4) (s' := 13) hG rfl rfl rfl hT); clear hG hT S4; dsimp only)
  repeat (first | go_step3 | go_values | go_skip | go_guarded | go_step | go_upon)
  (go_at_call 9; refine (add_bad S5.out.ga (-1) (.inl (by decide))).mono ?_; rintro e w7 ⟨rfl, rfl⟩; dsimp only)
  repeat (first | go_step3 | go_values | go_skip | go_guarded | go_step | go_upon)
  (go_at_call 11; refine (total_any S5.out.ga).mono ?_; rintro e w8 ⟨rfl, hT⟩; have S6 := Lib.hid (S5.out.keep (hT.below (Nat.le_refl _) (by simp))); clear hT S5; dsimp only)
  repeat (first | go_step3 | go_values | go_skip | go_guarded | go_step | go_upon)
  have r500 : rankF 4 500 K4 = (1, true) := by kernel_rfl
  have r750 : rankF 4 750 K4 = (5, true) := by kernel_rfl
  have r1000 : rankF 4 1000 K4 = (0, false) := by kernel_rfl
  have HR := rank_any S6.out.ga (sm_dec _ _ _ rfl) 500
  rw [r500] at HR
  have HRK := Lib.hid HR
  clear HR r500
  (go_at_call 13; refine HRK.out.mono ?_; rintro e w9 ⟨rfl, hB⟩; have S7 := Lib.hid (S6.out.keep hB); clear hB S6 HRK; dsimp only)
  repeat (first | go_step3 | go_values | go_skip | go_guarded | go_step | go_upon)
  have HR := rank_any S7.out.ga (sm_dec _ _ _ rfl) 750
  rw [r750] at HR
  have HRK := Lib.hid HR
  clear HR r750
  (go_at_call 13; refine HRK.out.mono ?_; rintro e w10 ⟨rfl, hB⟩; have S8 := Lib.hid (S7.out.keep hB); clear hB S7 HRK; dsimp only)
  repeat (first | go_step3 | go_values | go_skip | go_guarded | go_step | go_upon)
  have HR := rank_any S8.out.ga (sm_dec _ _ _ rfl) 1000
  rw [r1000] at HR
  have HRK := Lib.hid HR
  clear HR r1000
  (go_at_call 13; refine HRK.out.mono ?_; rintro e w11 ⟨rfl, hB⟩; have S9 := Lib.hid (S8.out.keep hB); clear hB S8 HRK; dsimp only)
  repeat (first | go_step3 | go_values | go_skip | go_guarded | go_step | go_upon)
  (go_at_call 15; refine (counts_any S9.out.ga).mono ?_; rintro e w12 ⟨v, rfl, hR, hB⟩; obtain ⟨A1, c1, rfl, hc1, hC1⟩ := Kd.R_reads hR; have HC1 : Hid (Kd.C (Kd.int .i64) w12 A1 3 [2, 1, 1] ∧ 3 ≤ c1) := Lib.hid ⟨hC1, hc1⟩; have S10 := Lib.hid (S9.out.keep hB); clear hR hB hc1 hC1 S9; dsimp only)
  have hl3 : (K4.map (·.c)).length = 3 := rfl
  rw [hl3]
  clear hl3
  repeat (first | go_step3 | go_values | go_skip | go_guarded | go_step | go_upon)
  (go_at_call 16; refine (pontoonref13_Ints.calls 20 A1 c1 [2, 1, 1] (some ⟨w12.heap.size, 0, none⟩) 3 [2, 1, 1] true _ (Kd.C_alloc HC1.out.1 _) HC1.out.2 (litI w12 [2, 1, 1] 3 (by decide)) (by decide) (by kernel_rfl)).mono ?_; rintro e w13 ⟨rfl, hd⟩; have S11 := Lib.hid ((S10.out.keep (below_alloc (Below.refl _ _) _)).keep hd.below); clear hd S10; dsimp only)
  repeat (first | go_step3 | go_values | go_skip | go_guarded | go_step | go_upon)
  have HSH := show_any S11.out.ga (sm_dec _ _ _ rfl) (bnd_dec _ rfl)
  rw [known_showG] at HSH
  unfold known_show at HSH
  have HSW := Lib.hid HSH
  clear HSH
  (go_at_call 18; refine HSW.out.mono ?_; rintro e w14 ⟨rfl, hB⟩; have S12 := Lib.hid (S11.out.keep hB); clear hB S11 HSW; dsimp only)
  repeat (first | go_step3 | go_values | go_skip | go_guarded | go_step | go_upon)
  (go_at_call 21; refine (merge_nil S12.out.ga).mono ?_; rintro e w15 ⟨rfl, rfl⟩; dsimp only)
  repeat (first | go_step3 | go_values | go_skip | go_guarded | go_step | go_upon)
  go_ret
  exact ⟨rfl, S12.out.bel⟩
end
end Go.Proofs.Ytmgcmheiabmajaa
