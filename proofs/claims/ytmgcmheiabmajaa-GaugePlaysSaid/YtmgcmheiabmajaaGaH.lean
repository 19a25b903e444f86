/- The document's gauge: Show. -/
import Derived.Test.YtmgcmheiabmajaaGaG
namespace Go.Proofs.Ytmgcmheiabmajaa
open Go Go.RowKit Go.Proofs.Ytmgcmheiabmajaa.Pa Go.Proofs.YtmgcmheiabmajaaW.PrintWords Go.Proofs.YtmgcmheiabmajaaW.PrintLast

section
variable {base : Nat} {w w' : World} {p bB cB : Nat} {vl : Value} {B l : List Int}
set_option maxHeartbeats 4000000 in
theorem rshow_any (h : RG base w p bB cB vl B l) (hB0 : 0 < B.length) (hB1 : B.length ≤ 100) (hl : l.length ≤ 1000) (hbp : ∀ x ∈ B, 0 ≤ x ∧ x ≤ 1152921504606846976) : Calls Try.prog 19 #[.pointer (some ⟨p, 0, none⟩)] w fun e w' => e = .returned (.string (showR B l)) ∧ Below w.heap.size w w' := by
  have H := Lib.hid h
  have HCNT := Lib.hid (rcounts_any h hB0 hB1 hl)
  have HBP := Lib.hid hbp
  have HLL := Lib.hid hl
  clear h hbp hl
  obtain ⟨res, hres⟩ : ∃ r, r = showR B l := ⟨_, rfl⟩
  rw [← hres]
  have HR := Lib.hid hres
  clear hres
  obtain ⟨m, hm⟩ : ∃ m, m = B.length := ⟨_, rfl⟩
  have HM := Lib.hid hm
  rw [← hm] at hB0 hB1
  clear hm
  go_enter Try.func19, Try.ntmps19
  repeat (first | go_step3 | go_values | go_skip | go_guarded | go_step | go_upon)
  (go_at_call 17; refine HCNT.out.mono ?_; rintro e w1 ⟨v, rfl, hR, hB⟩; obtain ⟨A1, c1, rfl, hc1, hC1⟩ := Kd.R_reads hR; have HC1 := Lib.hid hC1; have HB1 := Lib.hid hB; have hcl := cntR_len B l; rw [← HM.out] at hcl; rw [hcl] at hc1; clear hR hB hC1; dsimp only)
  rw [hcl]
  have HCL := Lib.hid hcl
  clear hcl
  repeat (first | go_step3 | go_values | go_skip | go_guarded | go_step | go_upon)
  go_loopw [4, 5] (fun s i wr => ∃ (k : Nat) (acc : ByteArray), i = .int .i64 k ∧ s = .string acc ∧ k ≤ m ∧ Hid (acc.size ≤ k * 60) ∧ Hid (((zipB B (cntR B l)).drop k).foldl lineR acc = (zipB B (cntR B l)).foldl lineR ⟨#[]⟩) ∧ Hid (Below w.heap.size w wr ∧ Below w1.heap.size w1 wr)) (fun _ i _ => m - (intOf i).toNat)
  case atStart => exact ⟨0, ⟨#[]⟩, rfl, rfl, Nat.zero_le _, Lib.hid (Nat.zero_le _), Lib.hid rfl, Lib.hid ⟨HB1.out, Below.refl _ _⟩⟩
  case round =>
    obtain ⟨k, acc, rfl, rfl, hk, HA, HS, HB⟩ := hrel
    have HH := Lib.hid (H.out.below HB.out.1)
    obtain ⟨q0, _, _⟩ := HH.out.cells
    rw [← HM.out] at q0
    by_cases hlt : k < m
    · have hki : (k : Int) < m := by omega
      have hki2 : (k : Int) < ((m + 1 : Nat) : Int) := by omega
      have hk0 : (0 : Int) ≤ k := by omega
      have hkB : k < B.length := by have := HM.out; omega
      have hkc : k < (cntR B l).length := by have := HCL.out; omega
      obtain ⟨ad, hA, cy⟩ := Kd.at_int (Kd.C_below HC1.out HB.out.2) (k : Int) hk0 (by omega)
      subst hA
      rw [rd_at _ k hkc, Int.toNat_natCast] at cy
      have cb := HH.out.at k B[k] (List.getElem?_eq_getElem hkB)
      have hbnd := cntR_bound B l _ (List.getElem_mem hkc)
      have hbb := HBP.out _ (List.getElem_mem hkB)
      have HN : Hid (((zipB B (cntR B l)).drop (k + 1)).foldl lineR (lineR acc ⟨B[k], (cntR B l)[k]⟩) = (zipB B (cntR B l)).foldl lineR ⟨#[]⟩) := Lib.hid (by
        rw [← HS.out]
        have hz := zipB_at B (cntR B l) k hkB hkc
        have hkz : k < (zipB B (cntR B l)).length := (List.getElem?_eq_some_iff.1 hz).1
        rw [List.drop_eq_getElem_cons hkz]
        rw [List.getElem?_eq_getElem hkz] at hz
        rw [Option.some.inj hz]
        rfl)
      have hDb := Dig_some B[k] hbb.1 hbb.2
      have hDc := Dig_some (cntR B l)[k] hbnd.1 (by have := HLL.out; omega)
      have HDB := Lib.hid (fun w => pontoonref01_Digits.calls 20 B[k] (D B[k]) w hDb.1)
      have HDC := Lib.hid (fun w => pontoonref01_Digits.calls 20 (cntR B l)[k] (D (cntR B l)[k]) w hDc.1)
      have dzb := hDb.2
      have dzc := hDc.2
      have hav : acc.size ≤ 6060 := by have := HA.out; omega
      have HLT := Lib.hid hlt
      generalize (cntR B l)[k] = y at *
      generalize B[k] = bk at *
      clear hkB hkc hbnd hbb hDb hDc hlt
      repeat (first | go_step3 | go_values | go_skip | go_guarded | go_step | go_upon)
      refine wp_region_tw (by kernel_rfl) (by kernel_rfl) ?_
      have z0 := TW.cell q0
      have z1 := TW.cell cb
      have z2 := TW.cell cy
      (go_big_quiet_step ((go_at_call 25; exact TW.call_below (HDB.out _))))
      (go_big_quiet_step ((go_at_call 25; exact TW.call_below (HDB.out _))))
      (go_big_quiet_step ((go_at_call 25; exact TW.call_below (HDB.out _))))
      (go_big_quiet_step ((go_at_call 25; exact TW.call_below (HDB.out _))))
      (go_big_quiet_step ((go_at_call 25; exact TW.call_below (HDB.out _))))
      (go_big_quiet_step ((go_at_call 25; exact TW.call_below (HDB.out _))))
      (go_big_quiet_step ((go_at_call 25; exact TW.call_below (HDB.out _))))
      (go_big_quiet_step ((go_at_call 25; exact TW.call_below (HDB.out _))))
      (go_big_quiet_step ((go_at_call 25; exact TW.call_below (HDB.out _))))
      clear HDB
      repeat (go_big_quiet_step ((go_at_call 25; exact TW.call_below (HDC.out _))))
      refine wpQuiet_nil ?_
      rintro _ ⟨Y, rfl⟩
      have HB6 : Hid (Below w.heap.size w Y.w ∧ Below w1.heap.size w1 Y.w) := Lib.hid ⟨HB.out.1.trans (Y.t.below HB.out.1.size (by simp)), HB.out.2.trans (Y.t.below HB.out.2.size (by simp))⟩
      clear z0 z1 z2 q0 cb cy HH
      generalize Y.w = w7 at *
      repeat (first | go_step3 | go_values | go_skip | go_guarded | go_step | go_upon)
      try go_roundw
      case rel => exact ⟨k + 1, _, by go_num, rfl, HLT.out, Lib.hid (by
        rw [ByteArray.size_append, ByteArray.size_append, ByteArray.size_append, ByteArray.size_append]
        show acc.size + (D bk).size + 2 + (D y).size + 1 ≤ _
        have := HA.out
        omega), Lib.hid HN.out, HB6⟩
      case measure => have := HLT.out; simp [intOf]; omega
    · have hge : ¬ (k : Int) < m := by omega
      have HS2 : Hid (acc = (zipB B (cntR B l)).foldl lineR ⟨#[]⟩) := Lib.hid (by rw [← HS.out, List.drop_of_length_le (by rw [zipB_len _ _ (by have := HCL.out; have := HM.out; omega)]; have := HM.out; omega)]; rfl)
      have hmc : m < (cntR B l).length := by have := HCL.out; omega
      obtain ⟨ad, hA, cy⟩ := Kd.at_int (Kd.C_below HC1.out HB.out.2) (m : Int) (by omega) (by omega)
      subst hA
      have HRD : Hid (rd (cntR B l) (B.length : Nat) = (cntR B l)[m]) := Lib.hid (by rw [← HM.out]; exact rd_at _ m hmc)
      rw [rd_at _ m hmc, Int.toNat_natCast] at cy
      have hbnd := cntR_bound B l _ (List.getElem_mem hmc)
      have hDc := Dig_some (cntR B l)[m] hbnd.1 (by have := HLL.out; omega)
      have HDC := Lib.hid (fun w => pontoonref01_Digits.calls 20 (cntR B l)[m] (D (cntR B l)[m]) w hDc.1)
      have dzc := hDc.2
      have hav : acc.size ≤ 6060 := by have := HA.out; omega
      have hm2 : (m : Int) < ((m + 1 : Nat) : Int) := by omega
      have hm0 : (0 : Int) ≤ m := by omega
      generalize (cntR B l)[m] = y at *
      clear hmc hbnd hDc hlt
      repeat (first | go_step3 | go_values | go_skip | go_guarded | go_step | go_upon)
      (go_at_call 25; refine (HDC.out _).mono ?_; rintro e w8 ⟨rfl, hb8⟩; have HB8 := Lib.hid (HB.out.1.trans (hb8.mono HB.out.1.size)); clear hb8; dsimp only)
      repeat (first | go_step3 | go_values | go_skip | go_guarded | go_step | go_upon)
      go_ret
      exact ⟨by rw [HR.out]; unfold showR; rw [HRD.out, ← HS2.out]; rfl, HB8.out⟩
end
end Go.Proofs.Ytmgcmheiabmajaa
