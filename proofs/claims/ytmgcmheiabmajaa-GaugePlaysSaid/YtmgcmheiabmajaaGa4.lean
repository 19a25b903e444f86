/- A gauge's Rank: the first bound that so many numbers are not above. -/
import Derived.Test.YtmgcmheiabmajaaGa3
namespace Go.Proofs.Ytmgcmheiabmajaa
open Go Go.RowKit Go.Proofs.YtmgcmheiabmajaaW.PrintWords Go.Proofs.YtmgcmheiabmajaaW.PrintLast

def rankG (tot q : Int) : List SB → Int → Int × Bool
  | [], _ => (0, false)
  | y :: r, a => if q * tot ≤ 1000 * (a + y.c) then (y.b, true) else rankG tot q r (a + y.c)
def rankF (tot q : Int) (L : List SB) : Int × Bool := if tot = 0 ∨ q < 0 ∨ 1000 < q then (0, false) else rankG tot q L.dropLast 0
section
variable {w : World} {p b cp : Nat} {L : List SB} {t s : Int}
set_option maxHeartbeats 2000000 in
theorem rank_any (h : GA w p b cp L t s) (hs : Sm L t s) (q : Int) : Calls Try.prog 13 #[.pointer (some ⟨p, 0, none⟩), .int .i64 q] w fun e w' => e = .returned (.tuple #[.int .i64 (rankF t q L).1, .bool (rankF t q L).2]) ∧ Below w.heap.size w w' := by
  have hub := Try.underlying50
  have hus := Try.underlying46
  have HT := Lib.hid (there_any h)
  have HG := Lib.hid h
  have HS := Lib.hid hs
  have hlen : L.length ≤ 101 := h.few.2
  obtain ⟨c0, c1, _⟩ := h.cells
  clear h hs
  obtain ⟨res, hres⟩ : ∃ r, r = rankF t q L := ⟨_, rfl⟩
  rw [← hres]
  have HR := Lib.hid hres
  clear hres
  obtain ⟨n, hn⟩ : ∃ n, n = L.length := ⟨_, rfl⟩
  have HL := Lib.hid hn
  rw [← hn] at c0 hlen
  clear hn
  go_enter Try.func13, Try.ntmps13
  repeat (first | go_step3 | go_values | go_skip | go_guarded | go_step | go_upon)
  (go_at_call 23; refine HT.out.mono ?_; rintro e w1 ⟨rfl, rfl⟩; dsimp only)
  by_cases ht : t = 0
  · have hti : (t == 0) = true := beq_iff_eq.2 ht
    have HF : Hid (res = (0, false)) := Lib.hid (by rw [HR.out]; exact if_pos (.inl ht))
    clear ht
    repeat (first | go_step3 | go_values | go_skip | go_guarded | go_step | go_upon)
    go_ret2
    exact ⟨by rw [HF.out]; rfl, Below.refl _ _⟩
  have hti : (t == 0) = false := beq_eq_false_iff_ne.2 ht
  by_cases h0 : q < 0
  · have HF : Hid (res = (0, false)) := Lib.hid (by rw [HR.out]; exact if_pos (.inr (.inl h0)))
    clear ht
    repeat (first | go_step3 | go_values | go_skip | go_guarded | go_step | go_upon)
    go_ret2
    exact ⟨by rw [HF.out]; rfl, Below.refl _ _⟩
  by_cases h1 : 1000 < q
  · have HF : Hid (res = (0, false)) := Lib.hid (by rw [HR.out]; exact if_pos (.inr (.inr h1)))
    clear ht
    repeat (first | go_step3 | go_values | go_skip | go_guarded | go_step | go_upon)
    go_ret2
    exact ⟨by rw [HF.out]; rfl, Below.refl _ _⟩
  have HF : Hid (res = rankG t q L.dropLast 0) := Lib.hid (by rw [HR.out]; exact if_neg (fun h => by rcases h with h | h | h; exact ht h; exact h0 h; exact h1 h))
  have HQ := Lib.hid (And.intro h0 h1)
  clear ht
  repeat (first | go_step3 | go_values | go_skip | go_guarded | go_step | go_upon)
  refine wp_region_tw (by kernel_rfl) (by kernel_rfl) ?_
  have q0 := TW.cell c0
  have hn1 : (n : Int) - 1 = ((n - 1 : Nat) : Int) := by have := HG.out.few.1; have := HL.out; omega
  have hn2 : (0 : Int) ≤ ((n - 1 : Nat) : Int) := by omega
  have hn3 : ((n - 1 : Nat) : Int) ≤ n := by omega
  have hn4 : (n : Int) ≤ cp := by have := HG.out.cap; have := HL.out; omega
  have hn5 : ((n - 1 : Nat) : Int) ≤ cp := by omega
  repeat (go_big_quiet_step (fail))
  refine wpQuiet_nil ?_
  rintro _ ⟨X, rfl⟩
  have HB0 : Hid (Below w1.heap.size w1 X.w) := Lib.hid (X.t.below (Nat.le_refl _) (by simp))
  clear q0 hn2 hn3 hn4 hn5 hn1
  generalize X.w = wr at *
  have HM : Hid (n - 1 = L.dropLast.length) := Lib.hid (by rw [List.length_dropLast, HL.out])
  generalize n - 1 = m at *
  repeat (first | go_step3 | go_values | go_skip | go_guarded | go_step | go_upon)
  go_loopw [6, 39] (fun a i wr => ∃ (k : Nat) (v : Int), i = .int .i64 k ∧ a = .int .i64 v ∧ k ≤ m ∧ Hid (0 ≤ v ∧ v ≤ k * 1000000) ∧ Hid (rankG t q (L.dropLast.drop k) v = rankG t q L.dropLast 0) ∧ Hid (Below w1.heap.size w1 wr)) (fun _ i _ => m - (intOf i).toNat)
  case atStart => exact ⟨0, 0, rfl, rfl, Nat.zero_le _, Lib.hid ⟨Int.le_refl _, by omega⟩, Lib.hid rfl, HB0⟩
  case round =>
    obtain ⟨k, v, rfl, rfl, hk, HV, HA, HB⟩ := hrel
    have HGr := Lib.hid (HG.out.below HB.out)
    by_cases hlt : k < m
    · have hki : (k : Int) < m := by omega
      have hk0 : (0 : Int) ≤ k := by omega
      have hkd : k < L.dropLast.length := by have := HM.out; omega
      have hkn : k < L.length := by rw [List.length_dropLast] at hkd; omega
      obtain ⟨y, hy⟩ : ∃ y, L[k]? = some y := ⟨L[k], List.getElem?_eq_getElem hkn⟩
      have hym := HS.out.c y (List.mem_of_getElem? hy)
      obtain ⟨cb, cc, _⟩ := HGr.out.at k y hy
      have hde : L.dropLast.drop k = y :: L.dropLast.drop (k + 1) := by
        rw [List.drop_eq_getElem_cons hkd, List.getElem_dropLast]
        rw [List.getElem?_eq_getElem hkn] at hy
        rw [Option.some.inj hy]
      have HN : Hid (rankG t q L.dropLast 0 = if q * t ≤ 1000 * (v + y.c) then (y.b, true) else rankG t q (L.dropLast.drop (k + 1)) (v + y.c)) := Lib.hid (by rw [← HA.out, hde]; rfl)
      have HLT := Lib.hid hlt
      obtain ⟨yb, yc⟩ := y
      dsimp only at cb cc HN hym
      have HV' : Hid (0 ≤ v + yc ∧ v + yc ≤ ((k + 1 : Nat) : Int) * 1000000) := Lib.hid (by have := HV.out; omega)
      have hm101 : m ≤ 101 := by have := HM.out; rw [List.length_dropLast] at this; have := HL.out; omega
      have b1 : -9223372036854775808 ≤ v + yc := by have := HV'.out; omega
      have b2 : v + yc ≤ 9223372036854775807 := by have := HV'.out; omega
      have hqt : 0 ≤ q * t ∧ q * t ≤ 1000 * 1000000 := by
        have hq := HQ.out
        have ht := HS.out.t
        exact ⟨Int.mul_nonneg (by omega) ht.1, Int.mul_le_mul (by omega) ht.2 ht.1 (by omega)⟩
      have b3 : -9223372036854775808 ≤ q * t := by omega
      have b4 : q * t ≤ 9223372036854775807 := by omega
      have b5 : -9223372036854775808 ≤ 1000 * (v + yc) := by have := HV'.out; omega
      have b6 : 1000 * (v + yc) ≤ 9223372036854775807 := by have := HV'.out; omega
      clear hy hkn hkd hde hym hqt
      repeat ((fail_if_success (with_reducible refine gate_dst (N := 43) rfl ?_)); first | ((with_reducible refine gate_dst (N := 8) rfl ?_); refine box_event ?hg (N := 8) ?hd (cs := #[.int .i64 0, .int .i64 0]) (t := 50) ?hr ?_; (case hd => rfl); (case hg => rfl); (case hr => first | (go_simp; done) | (go_simp; rfl)); intro gb hgb w4 hbox hb; have HB4 := Lib.hid (HB.out.trans (hb.mono HB.out.size)); have BK4 := Lib.hid hbox; have GE : Hid (w1.heap.size ≤ gb) := Lib.hid (by rw [hgb]; exact HB.out.size); have GN : Hid (wr.heap.size = gb) := Lib.hid hgb.symm; have HE4 := Lib.hid hb; clear hb hbox hgb; have hcz0 : w4.cell? ⟨gb, 0, none⟩ = some (.int .i64 0) := (cell_of BK4.out 0).trans rfl; have hcz1 : w4.cell? ⟨gb, 1, none⟩ = some (.int .i64 0) := (cell_of BK4.out 1).trans rfl; have hf0 := frozen_of BK4.out 0; have hf1 := frozen_of BK4.out 1) | go_step3 | go_values | go_skip | go_guarded | go_step | go_upon)
      (have BK5 := Lib.hid (mk2 BK4.out (.int .i64 yb) (.int .i64 yc)); have HB5 := Lib.hid ((HB4.out.setCell (p := ⟨gb, 0, none⟩) GE.out (.int .i64 yb)).setCell (p := ⟨gb, 1, none⟩) GE.out (.int .i64 yc)); generalize ((w4.setCell ⟨gb, 0, none⟩ (.int .i64 yb)).setCell ⟨gb, 1, none⟩ (.int .i64 yc)) = w5 at *; have e0 : w5.cell? ⟨gb, 0, none⟩ = some (.int .i64 yb) := (cell_of BK5.out 0).trans rfl; have e1 : w5.cell? ⟨gb, 1, none⟩ = some (.int .i64 yc) := (cell_of BK5.out 1).trans rfl; have c15 : w5.cell? ⟨p, 1, none⟩ = some (.int .i64 t) := ((HG.out.below HB5.out).cells).2.1)
      by_cases hle : q * t ≤ 1000 * (v + yc)
      · have HF2 : Hid (res = (yb, true)) := Lib.hid (by rw [HF.out, HN.out]; exact if_pos hle)
        repeat (first | go_step3 | go_values | go_skip | go_guarded | go_step | go_upon)
        go_ret2
        exact ⟨by rw [HF2.out]; rfl, HB5.out⟩
      · have HN2 := Lib.hid (HN.out.trans (if_neg hle))
        repeat (first | go_step3 | go_values | go_skip | go_guarded | go_step | go_upon)
        try go_roundw
        case rel => exact ⟨k + 1, v + yc, by go_num, rfl, HLT.out, HV', Lib.hid HN2.out.symm, HB5⟩
        case measure => have := HLT.out; simp [intOf]; omega
    · have hge : ¬ (k : Int) < m := by omega
      have HF2 : Hid (res = (0, false)) := Lib.hid (by rw [HF.out, ← HA.out, List.drop_of_length_le (by have := HM.out; omega)]; rfl)
      clear hlt
      repeat (first | go_step3 | go_values | go_skip | go_guarded | go_step | go_upon)
      go_ret2
      exact ⟨by rw [HF2.out]; rfl, HB.out⟩
end
end Go.Proofs.Ytmgcmheiabmajaa
