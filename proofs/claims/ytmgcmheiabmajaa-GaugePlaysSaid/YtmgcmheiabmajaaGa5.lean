/- A gauge's Show: a line for each bucket. -/
import Derived.Test.YtmgcmheiabmajaaGa4
import Derived.Test.YtmgcmheiabmajaaPax
namespace Go.Proofs.Ytmgcmheiabmajaa
open Go Go.RowKit Go.Proofs.Ytmgcmheiabmajaa.Pa Go.Proofs.YtmgcmheiabmajaaW.PrintWords Go.Proofs.YtmgcmheiabmajaaW.PrintLast

theorem str1 (x : Int) : (strOfNums [x]).size = 1 := rfl
theorem dec_some : ∀ (k : Nat) (n : Int), k ≤ 100 → 0 ≤ n → n < 10 ^ (k + 1) → n ≤ 9223372036854775807 → ∃ r, gauge_decimal.f (k + 1) n = some r ∧ r.size ≤ k + 1
  | 0, n, _, h0, h1, h2 => by
    unfold gauge_decimal.f
    rw [if_pos (by omega)]
    exact ⟨_, rfl, Nat.le_of_eq (str1 _)⟩
  | k + 1, n, hk, h0, h1, h2 => by
    unfold gauge_decimal.f
    by_cases h : n < 10
    · rw [if_pos h]
      exact ⟨_, rfl, by rw [str1]; omega⟩
    · have hd : Int.tdiv n 10 = n / 10 := Int.tdiv_eq_ediv_of_nonneg h0
      have hw : wrap64 (n / 10) = n / 10 := by unfold wrap64; omega
      have hlt : n / 10 < 10 ^ (k + 1) := by
        rw [Int.ediv_lt_iff_lt_mul (by omega)]
        rw [show (10 : Int) ^ (k + 1) * 10 = 10 ^ (k + 1 + 1) from (Int.pow_succ ..).symm]
        exact h1
      obtain ⟨r, hr, hz⟩ := dec_some k (n / 10) (by omega) (by omega) hlt (by omega)
      rw [if_neg h, hd, hw, hr, Option.bind_some, Option.bind_some, str1]
      rw [if_pos (by omega)]
      exact ⟨_, rfl, by rw [ByteArray.size_append, str1]; omega⟩
def D (n : Int) : ByteArray := (gauge_decimal.f 20 n).getD ⟨#[]⟩
theorem D_some (n : Int) (h0 : 0 ≤ n) (h1 : n ≤ 1152921504606846976) : gauge_decimal.f 20 n = some (D n) ∧ (D n).size ≤ 20 := by
  obtain ⟨r, hr, hz⟩ := dec_some 19 n (by omega) h0 (by omega) (by omega)
  unfold D
  rw [hr]
  exact ⟨rfl, hz⟩
def colonB : ByteArray := ⟨#[58, 32]⟩
def nlB : ByteArray := ⟨#[10]⟩
def moreB : ByteArray := ⟨#[109, 111, 114, 101]⟩
def nameG (n k : Nat) (y : SB) : ByteArray := if k + 1 < n then D y.b else moreB
def showL (n : Nat) : List SB → Nat → ByteArray → ByteArray
  | [], _, acc => acc
  | y :: r, k, acc => showL n r (k + 1) (acc ++ (((nameG n k y ++ colonB) ++ D y.c) ++ nlB))
def showG (L : List SB) : ByteArray := showL L.length L 0 ⟨#[]⟩
structure Bnd (L : List SB) : Prop where
  b : ∀ y ∈ L.dropLast, 0 ≤ y.b ∧ y.b ≤ 1152921504606846976
section
variable {w : World} {p b cp : Nat} {L : List SB} {t s : Int}
set_option maxHeartbeats 2000000 in
theorem show_any (h : GA w p b cp L t s) (hs : Sm L t s) (hbd : Bnd L) : Calls Try.prog 18 #[.pointer (some ⟨p, 0, none⟩)] w fun e w' => e = .returned (.string (showG L)) ∧ Below w.heap.size w w' := by
  have hub := Try.underlying50
  have HT := Lib.hid (there_any h)
  have HG := Lib.hid h
  have HS := Lib.hid hs
  have HBD := Lib.hid hbd
  have hlen : L.length ≤ 101 := h.few.2
  obtain ⟨c0, c1, _⟩ := h.cells
  clear h hs hbd
  obtain ⟨res, hres⟩ : ∃ r, r = showG L := ⟨_, rfl⟩
  rw [← hres]
  have HR := Lib.hid hres
  clear hres
  obtain ⟨n, hn⟩ : ∃ n, n = L.length := ⟨_, rfl⟩
  have HL := Lib.hid hn
  rw [← hn] at c0 hlen
  clear hn
  go_enter Try.func18, Try.ntmps18
  repeat (first | go_step3 | go_values | go_skip | go_guarded | go_step | go_upon)
  (go_at_call 23; refine HT.out.mono ?_; rintro e w1 ⟨rfl, rfl⟩; dsimp only)
  repeat (first | go_step3 | go_values | go_skip | go_guarded | go_step | go_upon)
  go_loopw [3, 15] (fun a i wr => ∃ (k : Nat) (acc : ByteArray), i = .int .i64 k ∧ a = .string acc ∧ k ≤ n ∧ Hid (acc.size ≤ k * 60) ∧ Hid (showL n (L.drop k) k acc = res) ∧ Hid (Below w1.heap.size w1 wr)) (fun _ i _ => n - (intOf i).toNat)
  case atStart => exact ⟨0, ⟨#[]⟩, rfl, rfl, Nat.zero_le _, Lib.hid (Nat.le_refl _), Lib.hid (by rw [HR.out, HL.out]; rfl), Lib.hid (Below.refl _ _)⟩
  case round =>
    obtain ⟨k, acc, rfl, rfl, hk, HV, HA, HB⟩ := hrel
    have HGr := Lib.hid (HG.out.below HB.out)
    by_cases hlt : k < n
    · have hki : (k : Int) < n := by omega
      have hk0 : (0 : Int) ≤ k := by omega
      have hkn : k < L.length := by have := HL.out; omega
      obtain ⟨y, hy⟩ : ∃ y, L[k]? = some y := ⟨L[k], List.getElem?_eq_getElem hkn⟩
      have hym := HS.out.c y (List.mem_of_getElem? hy)
      obtain ⟨cb, cc, _⟩ := HGr.out.at k y hy
      have HN : Hid (showL n (L.drop (k + 1)) (k + 1) (acc ++ (((nameG n k y ++ colonB) ++ D y.c) ++ nlB)) = res) := Lib.hid (by
        rw [← HA.out, List.drop_eq_getElem_cons hkn]
        rw [List.getElem?_eq_getElem hkn] at hy
        rw [Option.some.inj hy]
        rfl)
      have hDc := D_some y.c (by omega) (by omega)
      have HDC := Lib.hid (fun w => gauge_decimal.calls 20 y.c (D y.c) w hDc.1)
      have dz := hDc.2
      have HLT := Lib.hid hlt
      have HYK : Hid (L[k]? = some y) := Lib.hid hy
      have HEQ : Hid (nameG n k y = nameG n k y) := Lib.hid rfl
      obtain ⟨yb, yc⟩ := y
      dsimp only at cb cc HN hym dz HDC
      have hav : acc.size ≤ 6060 := by have := HV.out; omega
      clear hy hkn hym hDc
      repeat ((fail_if_success (with_reducible refine gate_dst (N := 6) rfl ?_)); first | ((with_reducible refine gate_dst (N := 5) rfl ?_); refine box_event ?hg (N := 5) ?hd (cs := #[.int .i64 0, .int .i64 0]) (t := 50) ?hr ?_; (case hd => rfl); (case hg => rfl); (case hr => first | (go_simp; done) | (go_simp; rfl)); intro gb hgb w4 hbox hb; have HB4 := Lib.hid (HB.out.trans (hb.mono HB.out.size)); have BK4 := Lib.hid hbox; have GE : Hid (w1.heap.size ≤ gb) := Lib.hid (by rw [hgb]; exact HB.out.size); have GN : Hid (wr.heap.size = gb) := Lib.hid hgb.symm; have HE4 := Lib.hid hb; clear hb hbox hgb; have hcz0 : w4.cell? ⟨gb, 0, none⟩ = some (.int .i64 0) := (cell_of BK4.out 0).trans rfl; have hcz1 : w4.cell? ⟨gb, 1, none⟩ = some (.int .i64 0) := (cell_of BK4.out 1).trans rfl; have hf0 := frozen_of BK4.out 0; have hf1 := frozen_of BK4.out 1) | go_step3 | go_values | go_skip | go_guarded | go_step | go_upon)
      (have BK5 := Lib.hid (mk2 BK4.out (.int .i64 yb) (.int .i64 yc)); have HB5 := Lib.hid ((HB4.out.setCell (p := ⟨gb, 0, none⟩) GE.out (.int .i64 yb)).setCell (p := ⟨gb, 1, none⟩) GE.out (.int .i64 yc)); generalize ((w4.setCell ⟨gb, 0, none⟩ (.int .i64 yb)).setCell ⟨gb, 1, none⟩ (.int .i64 yc)) = w5 at *; have c05 : w5.cell? ⟨p, 0, none⟩ = some (.slice (some ⟨b, 0, none⟩) n cp) := (by have := ((HG.out.below HB5.out).cells).1; rw [← HL.out] at this; exact this); have e0 : w5.cell? ⟨gb, 0, none⟩ = some (.int .i64 yb) := (cell_of BK5.out 0).trans rfl; have e1 : w5.cell? ⟨gb, 1, none⟩ = some (.int .i64 yc) := (cell_of BK5.out 1).trans rfl)
      by_cases hla : k + 1 < n
      · have hli : (k : Int) + 1 < n := by omega
        have HNM : Hid (nameG n k ⟨yb, yc⟩ = D yb) := Lib.hid (if_pos hla)
        have hDb := D_some yb (by
          have := (HBD.out.b ⟨yb, yc⟩ (by
            have h1 := HYK.out
            have h2 : L.dropLast[k]? = some ⟨yb, yc⟩ := by rw [List.getElem?_dropLast, if_pos (by have := HL.out; omega)]; exact h1
            exact List.mem_of_getElem? h2))
          exact this.1) (by
          have := (HBD.out.b ⟨yb, yc⟩ (by
            have h1 := HYK.out
            have h2 : L.dropLast[k]? = some ⟨yb, yc⟩ := by rw [List.getElem?_dropLast, if_pos (by have := HL.out; omega)]; exact h1
            exact List.mem_of_getElem? h2))
          exact this.2)
        have HDB := Lib.hid (fun w => gauge_decimal.calls 20 yb (D yb) w hDb.1)
        have dzb := hDb.2
        clear hDb
        repeat (first | go_step3 | go_values | go_skip | go_guarded | go_step | go_upon)
        (go_at_call 24; refine (HDB.out _).mono ?_; rintro e w6 ⟨rfl, hb6⟩; have HB6 := Lib.hid (HB5.out.trans (hb6.mono HB5.out.size)); have e16 : w6.cell? ⟨gb, 1, none⟩ = some (.int .i64 yc) := (hb6.cell (p := ⟨gb, 1, none⟩) (heap_lt BK5.out)).trans e1; clear hb6; dsimp only)
        repeat (first | go_step3 | go_values | go_skip | go_guarded | go_step | go_upon)
        (go_at_call 24; refine (HDC.out _).mono ?_; rintro e w7 ⟨rfl, hb7⟩; have HB7 := Lib.hid (HB6.out.trans (hb7.mono HB6.out.size)); clear hb7; dsimp only)
        repeat (first | go_step3 | go_values | go_skip | go_guarded | go_step | go_upon)
        try go_roundw
        case rel => exact ⟨k + 1, _, by go_num, rfl, HLT.out, Lib.hid (by
          rw [ByteArray.size_append, ByteArray.size_append, ByteArray.size_append, ByteArray.size_append]
          show acc.size + ((D yb).size + 2 + (D yc).size + 1) ≤ _
          have := HV.out
          omega), Lib.hid (by rw [← HN.out, HNM.out]; rfl), HB7⟩
        case measure => have := HLT.out; simp [intOf]; omega
      · have hli : ¬ (k : Int) + 1 < n := by omega
        have HNM : Hid (nameG n k ⟨yb, yc⟩ = moreB) := Lib.hid (if_neg hla)
        repeat (first | go_step3 | go_values | go_skip | go_guarded | go_step | go_upon)
        (go_at_call 24; refine (HDC.out _).mono ?_; rintro e w7 ⟨rfl, hb7⟩; have HB7 := Lib.hid (HB5.out.trans (hb7.mono HB5.out.size)); clear hb7; dsimp only)
        repeat (first | go_step3 | go_values | go_skip | go_guarded | go_step | go_upon)
        try go_roundw
        case rel => exact ⟨k + 1, _, by go_num, rfl, HLT.out, Lib.hid (by
          rw [ByteArray.size_append, ByteArray.size_append, ByteArray.size_append, ByteArray.size_append]
          show acc.size + (4 + 2 + (D yc).size + 1) ≤ _
          have := HV.out
          omega), Lib.hid (by rw [← HN.out, HNM.out]; rfl), HB7⟩
        case measure => have := HLT.out; simp [intOf]; omega
    · have hge : ¬ (k : Int) < n := by omega
      have HF2 : Hid (acc = res) := Lib.hid (by rw [← HA.out, List.drop_of_length_le (by have := HL.out; omega)]; rfl)
      clear hlt
      repeat (first | go_step3 | go_values | go_skip | go_guarded | go_step | go_upon)
      go_ret
      exact ⟨by rw [← HF2.out]; rfl, HB.out⟩
end
end Go.Proofs.Ytmgcmheiabmajaa
