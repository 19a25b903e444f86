/- The document's gauge: Rank and Show. -/
import Derived.Test.YtmgcmheiabmajaaGaF
namespace Go.Proofs.Ytmgcmheiabmajaa
open Go Go.RowKit Go.Proofs.Ytmgcmheiabmajaa.Pa Go.Proofs.YtmgcmheiabmajaaW.PrintWords Go.Proofs.YtmgcmheiabmajaaW.PrintLast

def zipB (B cs : List Int) : List SB := List.zipWith SB.mk B cs
theorem zipB_len (B cs : List Int) (h : B.length ≤ cs.length) : (zipB B cs).length = B.length := by
  unfold zipB
  rw [List.length_zipWith]
  omega
theorem zipB_at (B cs : List Int) (j : Nat) (h1 : j < B.length) (h2 : j < cs.length) : (zipB B cs)[j]? = some ⟨B[j], cs[j]⟩ := by
  unfold zipB
  rw [List.getElem?_zipWith, List.getElem?_eq_getElem h1, List.getElem?_eq_getElem h2]
def rankRF (B l : List Int) (q : Int) : Int × Bool := if l.length = 0 ∨ q < 0 ∨ 1000 < q then (0, false) else rankG l.length q (zipB B (cntR B l)) 0
theorem dig_eq : ∀ (k : Nat) (n : Int), 0 ≤ n → n ≤ 9223372036854775807 → pontoonref01_Digits.f k n = gauge_decimal.f k n
  | 0, n, _, _ => rfl
  | k + 1, n, h, h2 => by
    have hd : Int.tdiv n 10 = n / 10 := Int.tdiv_eq_ediv_of_nonneg h
    have hw : wrap64 (n / 10) = n / 10 := by unfold wrap64; omega
    have ih := dig_eq k (n / 10) (by omega) (by omega)
    unfold pontoonref01_Digits.f gauge_decimal.f
    rw [if_neg (by omega), hd, hw, ih]
theorem Dig_some (n : Int) (h0 : 0 ≤ n) (h1 : n ≤ 1152921504606846976) : pontoonref01_Digits.f 20 n = some (D n) ∧ (D n).size ≤ 20 := by
  have := D_some n h0 h1
  rw [dig_eq 20 n h0 (by omega)]
  exact this
def lineR (acc : ByteArray) (y : SB) : ByteArray := (((acc ++ D y.b) ++ colonB) ++ D y.c) ++ nlB
def moreC : ByteArray := ⟨#[109, 111, 114, 101, 58, 32]⟩
def showR (B l : List Int) : ByteArray := (((zipB B (cntR B l)).foldl lineR ⟨#[]⟩ ++ moreC) ++ D (rd (cntR B l) (B.length : Nat))) ++ nlB
section
variable {base : Nat} {w w' : World} {p bB cB : Nat} {vl : Value} {B l : List Int}
set_option maxHeartbeats 4000000 in
theorem rrank_any (h : RG base w p bB cB vl B l) (hB0 : 0 < B.length) (hB1 : B.length ≤ 100) (hl : l.length ≤ 1000) (q : Int) : Calls Try.prog 14 #[.pointer (some ⟨p, 0, none⟩), .int .i64 q] w fun e w' => e = .returned (.tuple #[.int .i64 (rankRF B l q).1, .bool (rankRF B l q).2]) ∧ Below w.heap.size w w' := by
  have H := Lib.hid h
  have HCNT := Lib.hid (rcounts_any h hB0 hB1 hl)
  obtain ⟨k0, k1, _⟩ := h.cells
  obtain ⟨Al, cl, hv, hlc, hC⟩ := Kd.R_reads h.own
  clear h hC
  obtain ⟨res, hres⟩ : ∃ r, r = rankRF B l q := ⟨_, rfl⟩
  rw [← hres]
  have HR := Lib.hid hres
  clear hres
  obtain ⟨m, hm⟩ : ∃ m, m = B.length := ⟨_, rfl⟩
  have HM := Lib.hid hm
  rw [← hm] at k0 hB0 hB1
  obtain ⟨n, hn⟩ : ∃ n, n = l.length := ⟨_, rfl⟩
  have HL := Lib.hid hn
  rw [← hn] at hl hlc hv
  have HV := Lib.hid hv
  rw [hv] at k1
  clear hn hm hv
  go_enter Try.func14, Try.ntmps14
  by_cases ht : n = 0
  · have hti : ((n : Int) == 0) = true := by rw [ht]; rfl
    have HF : Hid (res = (0, false)) := Lib.hid (by rw [HR.out]; exact if_pos (.inl (by rw [← HL.out]; exact ht)))
    clear ht
    repeat (first | go_step3 | go_values | go_skip | go_guarded | go_step | go_upon)
    go_ret2
    exact ⟨by rw [HF.out]; rfl, Below.refl _ _⟩
  have hti : ((n : Int) == 0) = false := by rw [beq_eq_false_iff_ne]; omega
  by_cases h0 : q < 0
  · have HF : Hid (res = (0, false)) := Lib.hid (by rw [HR.out]; exact if_pos (.inr (.inl h0)))
    clear ht
    repeat (first | go_step3 | go_values | go_skip | go_guarded | go_step | go_upon)
    go_ret2
    exact ⟨by rw [HF.out]; rfl, Below.refl _ _⟩
  by_cases h1 : 1000 < q
  · have HF : Hid (res = (0, false)) := Lib.hid (by rw [HR.out]; exact if_pos (.inr (.inr h1)))
    clear ht
    repeat (first | go_step3 | go_values | go_skip | go_guarded | go_step | go_upon)
    go_ret2
    exact ⟨by rw [HF.out]; rfl, Below.refl _ _⟩
  have HF : Hid (res = rankG l.length q (zipB B (cntR B l)) 0) := Lib.hid (by rw [HR.out]; exact if_neg (fun h => by rcases h with h | h | h; exact ht (by rw [HL.out]; exact h); exact h0 h; exact h1 h))
  have HQ := Lib.hid (And.intro h0 h1)
  clear ht
  repeat (first | go_step3 | go_values | go_skip | go_guarded | go_step | go_upon)
  (go_at_call 17; refine HCNT.out.mono ?_; rintro e w1 ⟨v, rfl, hR, hB⟩; obtain ⟨A1, c1, rfl, hc1, hC1⟩ := Kd.R_reads hR; have HC1 := Lib.hid hC1; have HB1 := Lib.hid hB; have hcl := cntR_len B l; rw [← HM.out] at hcl; rw [hcl] at hc1; clear hR hB hC1; dsimp only)
  rw [hcl]
  have HCL := Lib.hid hcl
  clear hcl k0 k1
  have HH := Lib.hid (H.out.below HB1.out)
  obtain ⟨q0, q1, _⟩ := HH.out.cells
  rw [HV.out] at q1
  rw [← HM.out] at q0
  repeat (first | go_step3 | go_values | go_skip | go_guarded | go_step | go_upon)
  go_loopw [7, 8] (fun s i wr => ∃ (k : Nat) (a : Int), i = .int .i64 k ∧ s = .int .i64 a ∧ k ≤ m ∧ Hid (0 ≤ a ∧ a ≤ k * 1000) ∧ Hid (rankG l.length q ((zipB B (cntR B l)).drop k) a = res) ∧ Hid (wr = w1)) (fun _ i _ => m - (intOf i).toNat)
  case atStart => exact ⟨0, 0, rfl, rfl, Nat.zero_le _, Lib.hid ⟨Int.le_refl _, by omega⟩, Lib.hid HF.out.symm, by first | exact Lib.hid rfl | exact Lib.hid trivial⟩
  case round =>
    obtain ⟨k, a, rfl, rfl, hk, HA, HS, HW⟩ := hrel
    obtain rfl := HW.out
    by_cases hlt : k < m
    · have hki : (k : Int) < m := by omega
      have hki2 : (k : Int) < ((m + 1 : Nat) : Int) := by omega
      have hk0 : (0 : Int) ≤ k := by omega
      have hkB : k < B.length := by have := HM.out; omega
      have hkc : k < (cntR B l).length := by have := HCL.out; omega
      obtain ⟨ad, hA, cy⟩ := Kd.at_int HC1.out (k : Int) hk0 (by omega)
      subst hA
      rw [rd_at _ k hkc, Int.toNat_natCast] at cy
      have cb := HH.out.at k B[k] (List.getElem?_eq_getElem hkB)
      have hbnd := cntR_bound B l _ (List.getElem_mem hkc)
      have HN : Hid (res = if q * (l.length : Int) ≤ 1000 * (a + (cntR B l)[k]) then (B[k], true) else rankG l.length q ((zipB B (cntR B l)).drop (k + 1)) (a + (cntR B l)[k])) := Lib.hid (by
        rw [← HS.out]
        have hz := zipB_at B (cntR B l) k hkB hkc
        have hkz : k < (zipB B (cntR B l)).length := (List.getElem?_eq_some_iff.1 hz).1
        rw [List.drop_eq_getElem_cons hkz]
        rw [List.getElem?_eq_getElem hkz] at hz
        rw [Option.some.inj hz]
        rfl)
      rw [← HL.out] at HN hbnd
      have HLT := Lib.hid hlt
      generalize (cntR B l)[k] = y at *
      generalize B[k] = bk at *
      have HA' : Hid (0 ≤ a + y ∧ a + y ≤ ((k + 1 : Nat) : Int) * 1000) := Lib.hid (by have := HA.out; omega)
      have b1 : -9223372036854775808 ≤ a + y := by have := HA'.out; omega
      have b2 : a + y ≤ 9223372036854775807 := by have := HA'.out; omega
      have hqt : 0 ≤ q * (n : Int) ∧ q * (n : Int) ≤ 1000 * 1000 := by
        have hq := HQ.out
        exact ⟨Int.mul_nonneg (by omega) (by omega), Int.mul_le_mul (by omega) (by omega) (by omega) (by omega)⟩
      have b3 : -9223372036854775808 ≤ q * (n : Int) := by omega
      have b4 : q * (n : Int) ≤ 9223372036854775807 := by omega
      have b5 : -9223372036854775808 ≤ 1000 * (a + y) := by have := HA'.out; omega
      have b6 : 1000 * (a + y) ≤ 9223372036854775807 := by have := HA'.out; omega
      clear hkB hkc hbnd hqt hlt
      by_cases hle : q * (n : Int) ≤ 1000 * (a + y)
      · have HF2 : Hid (res = (bk, true)) := Lib.hid (by rw [HN.out]; exact if_pos hle)
        repeat (first | go_step3 | go_values | go_skip | go_guarded | go_step | go_upon)
        go_ret2
        exact ⟨by rw [HF2.out]; rfl, HB1.out⟩
      · have HN2 := Lib.hid (HN.out.trans (if_neg hle))
        repeat (first | go_step3 | go_values | go_skip | go_guarded | go_step | go_upon)
        try go_roundw
        case rel => exact ⟨k + 1, a + y, by go_num, rfl, HLT.out, HA', Lib.hid (by rw [← HL.out]; exact HN2.out.symm), by first | exact Lib.hid rfl | exact Lib.hid trivial⟩
        case measure => have := HLT.out; simp [intOf]; omega
    · have hge : ¬ (k : Int) < m := by omega
      have HF2 : Hid (res = (0, false)) := Lib.hid (by rw [← HS.out, List.drop_of_length_le (by rw [zipB_len _ _ (by have := HCL.out; have := HM.out; omega)]; have := HM.out; omega)]; rfl)
      clear hlt
      repeat (first | go_step3 | go_values | go_skip | go_guarded | go_step | go_upon)
      go_ret2
      exact ⟨by rw [HF2.out]; rfl, HB1.out⟩
end
end Go.Proofs.Ytmgcmheiabmajaa
