/- The document's gauge: New. -/
import Derived.Test.YtmgcmheiabmajaaGaH
namespace Go.Proofs.Ytmgcmheiabmajaa
open Go Go.RowKit Go.Proofs.Ytmgcmheiabmajaa.Pa Go.Proofs.YtmgcmheiabmajaaW.PrintWords Go.Proofs.YtmgcmheiabmajaaW.PrintLast

def fine (l : List Int) (j : Nat) (h : j < l.length) : Prop := 0 ≤ l[j] ∧ l[j] ≤ 1099511627776 ∧ (0 < j → l[j - 1] < l[j])
theorem good_fine {l : List Int} (h : Good l) (j : Nat) (hj : j < l.length) : fine l j hj := by
  have := good_pos h _ (List.getElem_mem hj)
  exact ⟨this.1, this.2, fun h0 => List.pairwise_iff_getElem.1 h.2.2.1 (j - 1) j (by omega) hj (by omega)⟩
theorem fine_good {l : List Int} (h0 : 0 < l.length) (h1 : l.length ≤ 100) (h : ∀ j (hj : j < l.length), fine l j hj) : Good l := by
  refine ⟨h0, h1, ?_, ?_, ?_⟩
  · rw [List.pairwise_iff_getElem]
    intro i j hi hj hij
    obtain ⟨d, rfl⟩ : ∃ d, j = i + d + 1 := ⟨j - i - 1, by omega⟩
    clear hij
    induction d with
    | zero => exact (h (i + 0 + 1) hj).2.2 (by omega)
    | succ d ih =>
      have a1 := ih (by omega)
      have a2 := (h (i + (d + 1) + 1) hj).2.2 (by omega)
      have e : l[i + (d + 1) + 1 - 1]'(by omega) = l[i + d + 1]'(by omega) := by congr 1
      rw [e] at a2
      omega
  · have e : rd l 0 = l[0] := rd_at l 0 h0
    rw [e]
    have := (h 0 h0).1
    omega
  · have e : rd l ((l.length : Int) - 1) = l[l.length - 1] := by
      rw [show ((l.length : Int) - 1) = ((l.length - 1 : Nat) : Int) by omega]
      exact rd_at l (l.length - 1) (by omega)
    rw [e]
    have := (h (l.length - 1) (by omega)).2.1
    omega
theorem RG.of_R {w : World} {p base : Nat} {B : List Int} {v : Value} {ok : Nat → Prop} (h : Kd.R (Kd.int .i64) 3 w base ok v B) (hb : w.heap[p]? = some (.cells #[v, .slice none 0 0] 52 (0, 0))) (hf : 0 < B.length) (hp : base ≤ p) (hs : base ≤ w.heap.size) : ∃ bB cB, RG base w p bB cB (.slice none 0 0) B [] := by
  obtain ⟨g, cp, hv, hg, _, cells, hcl⟩ := Kd.R_form h hf
  obtain ⟨A, c, hv2, hle, hC⟩ := Kd.R_reads h
  obtain ⟨rfl, rfl⟩ : A = some ⟨g, 0, none⟩ ∧ c = cp := by rw [hv] at hv2; cases hv2; exact ⟨rfl, rfl⟩
  subst hv
  refine ⟨g, c, hb, ⟨cells, hcl, fun j x hj => ?_⟩, Kd.R_nil _ _ _ _ _, hp, hg, hs⟩
  obtain ⟨ad, e, hx⟩ := hC.2.2 hf
  cases e
  obtain ⟨cs, _, hK, hcc⟩ := hx j x hj
  have h0 := hcc 0 (.int .i64 x) (by
    have hK : cs = [.int .i64 x] := hK
    rw [hK]
    rfl)
  rw [add_pl, Nat.zero_add, cell_of hcl] at h0
  have e : j * 1 + 0 = j := by omega
  have h0 : cells[j * 1 + 0]? = some (.int .i64 x) := h0
  rw [e] at h0
  exact h0
def RNewP (w : World) (l : List Int) (e : Ending) (w' : World) : Prop :=
  (Good l ∧ ∃ p bB cB, e = .returned (.tuple #[.pointer (some ⟨p, 0, none⟩), .int .i64 0]) ∧ RG w.heap.size w' p bB cB (.slice none 0 0) l [] ∧ Below w.heap.size w w') ∨
  (¬ Good l ∧ ∃ v, e = .returned (.tuple #[v, .int .i64 1]) ∧ Below w.heap.size w w')
section
variable {w : World} {A : Option Addr} {c : Nat} {l : List Int}
set_option maxHeartbeats 4000000 in
theorem rnew_any (hr : Kd.C (Kd.int .i64) w A l.length l) (hc : l.length ≤ c) : Calls Try.prog 8 #[.slice A l.length c] w (RNewP w l) := by
  have HC := Lib.hid hr
  have HCC := Lib.hid hc
  clear hr hc
  obtain ⟨n, hn⟩ : ∃ n, n = l.length := ⟨_, rfl⟩
  have HL := Lib.hid hn
  rw [← hn]
  clear hn
  go_enter Try.func8, Try.ntmps8
  by_cases h0 : n < 1
  · have h0i : (n : Int) < 1 := by omega
    have HBAD : Hid (¬ Good l) := Lib.hid (fun h => by have := h.1; have := HL.out; omega)
    repeat (first | go_step3 | go_values | go_skip | go_guarded | go_step | go_upon)
    go_ret2
    exact .inr ⟨HBAD.out, _, rfl, below_alloc (Below.refl _ _) _⟩
  have h0i : ¬ (n : Int) < 1 := by omega
  by_cases h1 : 100 < n
  · have h1i : (100 : Int) < n := by omega
    have HBAD : Hid (¬ Good l) := Lib.hid (fun h => by have := h.2.1; have := HL.out; omega)
    repeat (first | go_step3 | go_values | go_skip | go_guarded | go_step | go_upon)
    go_ret2
    exact .inr ⟨HBAD.out, _, rfl, below_alloc (Below.refl _ _) _⟩
  have h1i : ¬ (100 : Int) < n := by omega
  repeat (first | go_step3 | go_values | go_skip | go_guarded | go_step | go_upon)
  go_loopw [4] (fun i wr => ∃ k : Nat, i = .int .i64 k ∧ k ≤ n ∧ Hid (∀ j, j < k → ∀ hj : j < l.length, fine l j hj) ∧ Hid (Below w.heap.size w wr)) (fun i _ => n - (intOf i).toNat)
  case atStart => exact ⟨0, rfl, Nat.zero_le _, Lib.hid (fun j hj => absurd hj (Nat.not_lt_zero _)), Lib.hid (Below.refl _ _)⟩
  case round =>
    obtain ⟨k, rfl, hk, HF, HB⟩ := hrel
    by_cases hlt : k < n
    · have hki : (k : Int) < n := by omega
      have hk0 : (0 : Int) ≤ k := by omega
      have hkl : k < l.length := by have := HL.out; omega
      obtain ⟨ad, hA, cx⟩ := Kd.at_int (Kd.C_below HC.out HB.out) (k : Int) hk0 (by omega)
      subst hA
      rw [rd_at l k hkl, Int.toNat_natCast] at cx
      have HLT := Lib.hid hlt
      have HXE : Hid (∃ x, x = l[k]) := Lib.hid ⟨_, rfl⟩
      obtain ⟨x, hx⟩ := HXE.out
      rw [← hx] at cx
      have HX := Lib.hid hx
      clear hx
      by_cases hx0 : x < 0
      · have HBAD : Hid (¬ Good l) := Lib.hid (fun h => by have := (good_fine h k hkl).1; rw [← HX.out] at this; omega)
        clear hlt
        repeat (first | go_step3 | go_values | go_skip | go_guarded | go_step | go_upon)
        refine wp_region_tw (by kernel_rfl) (by kernel_rfl) ?_
        have z0 := TW.cell cx
        repeat (go_big_quiet_step (fail))
        refine wpQuiet_nil ?_
        rintro _ ⟨Y, rfl⟩
        have HB6 : Hid (Below w.heap.size w Y.w) := Lib.hid (HB.out.trans (Y.t.below HB.out.size (by simp)))
        clear z0 
        generalize Y.w = w7 at *
        repeat (first | go_step3 | go_values | go_skip | go_guarded | go_step | go_upon)
        go_ret2
        exact .inr ⟨HBAD.out, _, rfl, by have hbb := HB6.out; exact hbb.alloc hbb.size _⟩

      by_cases hx1 : 1099511627776 < x
      · have HBAD : Hid (¬ Good l) := Lib.hid (fun h => by have := (good_fine h k hkl).2.1; rw [← HX.out] at this; omega)
        clear hlt
        repeat (first | go_step3 | go_values | go_skip | go_guarded | go_step | go_upon)
        refine wp_region_tw (by kernel_rfl) (by kernel_rfl) ?_
        have z0 := TW.cell cx
        repeat (go_big_quiet_step (fail))
        refine wpQuiet_nil ?_
        rintro _ ⟨Y, rfl⟩
        have HB6 : Hid (Below w.heap.size w Y.w) := Lib.hid (HB.out.trans (Y.t.below HB.out.size (by simp)))
        clear z0 
        generalize Y.w = w7 at *
        repeat (first | go_step3 | go_values | go_skip | go_guarded | go_step | go_upon)
        go_ret2
        exact .inr ⟨HBAD.out, _, rfl, by have hbb := HB6.out; exact hbb.alloc hbb.size _⟩

      by_cases hkz : k = 0
      · have HOK : Hid (∀ hj : k < l.length, fine l k hj) := Lib.hid (fun hj => ⟨by rw [← HX.out]; omega, by rw [← HX.out]; omega, fun h => by omega⟩)
        have hkp : ¬ 0 < k := by omega
        have hkd : decide (0 < k) = false := decide_eq_false hkp
        clear hlt hkz
        repeat (first | go_step3 | go_values | go_skip | go_guarded | go_step | go_upon)
        refine wp_region_tw (by kernel_rfl) (by kernel_rfl) ?_
        have z0 := TW.cell cx
        repeat (go_big_quiet_step (fail))
        refine wpQuiet_nil ?_
        rintro _ ⟨Y, rfl⟩
        have HB6 : Hid (Below w.heap.size w Y.w) := Lib.hid (HB.out.trans (Y.t.below HB.out.size (by simp)))
        clear z0 
        generalize Y.w = w7 at *
        repeat (first | go_step3 | go_values | go_skip | go_guarded | go_step | go_upon)
        try go_roundw
        case rel => exact ⟨k + 1, by go_num, HLT.out, Lib.hid (fun j hj hjl => by
          by_cases e : j = k
          · subst e; exact HOK.out hjl
          · exact HF.out j (by omega) hjl), HB6⟩
        case measure => have := HLT.out; simp [intOf]; omega

      have hkp : 0 < k := by omega
      have hkd : decide (0 < k) = true := decide_eq_true hkp
      have hk1 : k - 1 < l.length := by omega
      obtain ⟨ad2, hA2, cp⟩ := Kd.at_int (Kd.C_below HC.out HB.out) ((k - 1 : Nat) : Int) (by omega) (by omega)
      cases hA2
      rw [rd_at l (k - 1) hk1, Int.toNat_natCast] at cp
      obtain ⟨y, hy⟩ : ∃ y, y = l[k - 1] := ⟨_, rfl⟩
      rw [← hy] at cp
      have HY := Lib.hid hy
      have hkm : (k : Int) - 1 = ((k - 1 : Nat) : Int) := by omega
      have hkm0 : (0 : Int) ≤ ((k - 1 : Nat) : Int) := by omega
      have hkm1 : ((k - 1 : Nat) : Int) < n := by omega
      clear hy
      by_cases hxy : x ≤ y
      · have HBAD : Hid (¬ Good l) := Lib.hid (fun h => by have := (good_fine h k hkl).2.2 (by omega); rw [← HX.out, ← HY.out] at this; omega)
        clear hlt hkz
        repeat (first | go_step3 | go_values | go_skip | go_guarded | go_step | go_upon)
        refine wp_region_tw (by kernel_rfl) (by kernel_rfl) ?_
        have z0 := TW.cell cx
        have z1 := TW.cell cp
        repeat (go_big_quiet_step (fail))
        refine wpQuiet_nil ?_
        rintro _ ⟨Y, rfl⟩
        have HB6 : Hid (Below w.heap.size w Y.w) := Lib.hid (HB.out.trans (Y.t.below HB.out.size (by simp)))
        clear z0 z1
        generalize Y.w = w7 at *
        repeat (first | go_step3 | go_values | go_skip | go_guarded | go_step | go_upon)
        go_ret2
        exact .inr ⟨HBAD.out, _, rfl, by have hbb := HB6.out; exact hbb.alloc hbb.size _⟩

      · have HOK : Hid (∀ hj : k < l.length, fine l k hj) := Lib.hid (fun hj => ⟨by rw [← HX.out]; omega, by rw [← HX.out]; omega, fun h => by rw [← HX.out, ← HY.out]; omega⟩)
        clear hlt hkz
        repeat (first | go_step3 | go_values | go_skip | go_guarded | go_step | go_upon)
        refine wp_region_tw (by kernel_rfl) (by kernel_rfl) ?_
        have z0 := TW.cell cx
        have z1 := TW.cell cp
        repeat (go_big_quiet_step (fail))
        refine wpQuiet_nil ?_
        rintro _ ⟨Y, rfl⟩
        have HB6 : Hid (Below w.heap.size w Y.w) := Lib.hid (HB.out.trans (Y.t.below HB.out.size (by simp)))
        clear z0 z1
        generalize Y.w = w7 at *
        repeat (first | go_step3 | go_values | go_skip | go_guarded | go_step | go_upon)
        try go_roundw
        case rel => exact ⟨k + 1, by go_num, HLT.out, Lib.hid (fun j hj hjl => by
          by_cases e : j = k
          · subst e; exact HOK.out hjl
          · exact HF.out j (by omega) hjl), HB6⟩
        case measure => have := HLT.out; simp [intOf]; omega

    · have hge : ¬ (k : Int) < n := by omega
      have HGOOD : Hid (Good l) := Lib.hid (fine_good (by have := HL.out; omega) (by have := HL.out; omega) (fun j hj => HF.out j (by have := HL.out; omega) hj))
      clear hlt
      have hC2 := Kd.C_below HC.out HB.out
      have HC2 := Lib.hid hC2
      clear hC2
      repeat ((fail_if_success (with_reducible refine gate_builtin (b := .append) (xs := #[.tmp 58, .tmp 59]) rfl ?_)); first | ((with_reducible refine gate_dst (N := 53) rfl ?_); refine box_event ?hg (N := 53) ?hd (cs := #[.slice none 0 0, .slice none 0 0]) (t := 52) ?hr ?_; (case hd => rfl); (case hg => rfl); (case hr => first | (go_simp; done) | (go_simp; rfl)); intro gp hgb w4 hbox hb; have HB4 := Lib.hid (HB.out.trans (hb.mono HB.out.size)); have BK4 := Lib.hid hbox; have GE : Hid (w.heap.size ≤ gp) := Lib.hid (by rw [hgb]; exact HB.out.size); have HC4 := Lib.hid (Kd.C_below HC2.out hb); clear hb hbox hgb; have e40 : w4.cell? ⟨gp, 0, none⟩ = some (.slice none 0 0) := (cell_of BK4.out 0).trans rfl) | go_step3 | go_values | go_skip | go_guarded | go_step | go_upon)
      ((with_reducible refine gate_builtin (b := .append) (xs := #[.tmp 58, .tmp 59]) rfl ?_); at_builtin; refine Kd.R_append_row (Value.int .i64) (0 : Int) (h1 := fun _ => rfl) (w0 := w) w.heap.size rfl (.tmp 58) (.tmp 59) 22 3 (.int .i64 0) 8 rfl Try.underlying22 infoI rfl (by omega) (.slice none 0 0) [] l A n c (fun _ => True) rfl rfl (fun _ _ => trivial) (Kd.R_nil _ _ _ _ _) (by have := HC4.out; rw [← HL.out] at this; exact this) HB4.out HB4.out.size (by simp; omega) ?_; intro v6 w6 ho hb6 hg6 hat6; obtain ⟨A6, c6, e6⟩ := Kd.R_slice ho; generalize ([] ++ l).length = n6 at e6; subst e6; rw [List.nil_append] at ho; have hbk : w6.heap[gp]? = some (.cells #[.slice none 0 0, .slice none 0 0] 52 (0, 0)) := (hg6.block gp (heap_lt BK4.out) (by simp [Value.ownBlock])).trans BK4.out; have HO6 := Lib.hid ho; have HB6 := Lib.hid hb6; have BK6 := Lib.hid hbk; clear ho hb6 hg6 hat6 hbk; have e60 : w6.cell? ⟨gp, 0, none⟩ = some (.slice none 0 0) := (cell_of BK6.out 0).trans rfl; have f60 := frozen_of BK6.out 0)
      dsimp only
      repeat (first | go_step3 | go_values | go_skip | go_guarded | go_step | go_upon)
      go_ret2
      obtain ⟨bB, cB, hRG⟩ := RG.of_R (base := w.heap.size) (B := l) (p := gp) (Kd.R_set HO6.out BK6.out (by decide) 0 (.slice A6 n6 c6)) ((block_set BK6.out _).trans rfl) HGOOD.out.1 GE.out (HB6.out.setCell (p := ⟨gp, 0, none⟩) GE.out _).size
      exact .inl ⟨HGOOD.out, gp, bB, cB, rfl, hRG, HB6.out.setCell (p := ⟨gp, 0, none⟩) GE.out _⟩
end
end Go.Proofs.Ytmgcmheiabmajaa
