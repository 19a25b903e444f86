/- Layer 1 (octet): the document's functions come to the same plain words as the program's. -/
import Derived.Test.YtjmgookpmngmaaaPrx2
namespace Go.Proofs.Ytjmgookpmngmaaa.Pure
open Go.RowKit Go.Proofs.Ytjmgookpmngmaaa Go.Proofs.Ytjmgookpmngmaaa.Pr Go.Proofs.YtjmgookpmngmaaaW.PrintWords Go.Proofs.YtjmgookpmngmaaaW.PrintLast

theorem known_true : pontoonlaw01_known.f = some true := by decide +kernel

theorem be2 (n : Int) : beBytes n 2 = [n / 256 % 256, n % 256] := by simp [beBytes]
theorem be4 (n : Int) : beBytes n 4 = [n / 16777216 % 256, n / 65536 % 256, n / 256 % 256, n % 256] := by simp [beBytes]
theorem refPut16 (s : ByteArray) (n : Int) (h : s.size ≤ 140737488351232) : pontoonref01_Put16.f s n = some (putF s n 2) := by
  simp only [pontoonref01_Put16.f, Option.bind_some, ← be2]
  rw [if_pos (by rw [strOfNums_size, beBytes_length]; omega)]; rfl
theorem refPut32 (s : ByteArray) (n : Int) (h : s.size ≤ 140737488351232) : pontoonref01_Put32.f s n = some (putF s n 4) := by
  simp only [pontoonref01_Put32.f, Option.bind_some, ← be4]
  rw [if_pos (by rw [strOfNums_size, beBytes_length]; omega)]; rfl
theorem put16 (s : ByteArray) (n : Int) (h : s.size ≤ 140737488351232) : octet_Put16.f s n = some (putF s n 2) := by
  simp only [octet_Put16.f]; rw [if_pos (by omega)]
theorem put32 (s : ByteArray) (n : Int) (h : s.size ≤ 140737488351232) : octet_Put32.f s n = some (putF s n 4) := by
  simp only [octet_Put32.f]; rw [if_pos (by omega)]
theorem putText (s t : ByteArray) (h : s.size ≤ 140737488351232) (h2 : t.size ≤ 140737488351232) : octet_PutText.f s t = some (putTextF s t) := by
  simp only [octet_PutText.f]; rw [if_pos (by omega)]
theorem wrap_in {i : Int} (h : -9223372036854775808 ≤ i) (h2 : i ≤ 9223372036854775807) : wrap64 i = i := by unfold wrap64; omega
theorem bt_nat (s : ByteArray) (i : Nat) (h : i < s.size) : bt s (i : Int) = ((s.data.toList[i]'(by simpa using h)).toNat : Int) := by
  have h' := bt_at s (i : Int) (by simpa using h)
  rw [← h']
  simp [ByteArray.getElem_eq_getElem_data]
theorem bt_zero (s : ByteArray) (i : Nat) (h : i < s.size) : bt s (i : Int) = 0 ↔ s.data.toList[i]'(by simpa using h) = 0 := by
  rw [bt_nat s i h]
  constructor
  · intro h1; exact UInt8.toNat_inj.1 (by simpa using h1)
  · intro h1; rw [h1]; rfl

theorem refPutText_l (s t : ByteArray) (h : s.size ≤ 140737488351232) (h2 : t.size ≤ 140737488351232) (d : Nat) : ∀ (k i : Nat), i ≤ t.size → t.size - i = d → d < k →
    (∀ j (_ : j < i) (hl : j < t.data.toList.length), t.data.toList[j] ≠ 0) → pontoonref01_PutText.l0 k s t i = some (putTextF s t) := by
  induction d with
  | zero =>
    intro k i hi hd hk hno
    obtain ⟨k, rfl⟩ : ∃ m, k = m + 1 := ⟨k - 1, by omega⟩
    have hn : endF t.data.toList = none := endF_none fun j hj => hno j (by simp at hj; have : t.data.size = t.size := rfl; omega) hj
    have e1 : i = t.size := by omega
    subst e1
    simp only [pontoonref01_PutText.l0]
    rw [if_neg (by omega), if_pos (by omega), if_pos (by omega)]
    have ex : t.extract 0 ((t.size : Int)).toNat = t := by simp
    rw [ex, if_pos (by omega), if_pos (by simp [ByteArray.size_append]; omega)]
    simp [putTextF, hn]
  | succ d ih =>
    intro k i hi hd hk hno
    obtain ⟨k, rfl⟩ : ∃ m, k = m + 1 := ⟨k - 1, by omega⟩
    have hlt : i < t.size := by omega
    simp only [pontoonref01_PutText.l0]
    rw [if_pos (by omega), if_pos (by omega)]
    by_cases h0 : bt t i = 0
    · have hz := (bt_zero t i hlt).1 h0
      have hs : endF t.data.toList = some i := endF_some (by simpa using hlt) hz (fun j hj => hno j hj (by simp; have : t.data.size = t.size := rfl; omega))
      rw [if_pos h0, if_pos (by omega), Int.toNat_natCast, if_pos (by simp [ByteArray.size_extract]; omega), if_pos (by simp [ByteArray.size_append, ByteArray.size_extract]; omega)]
      simp [putTextF, hs]
    · rw [if_neg h0, wrap_in (by omega) (by omega)]
      refine ih k (i + 1) (by omega) (by omega) (by omega) ?_
      intro j hj hl
      by_cases e : j = i
      · subst e; exact fun hz => h0 ((bt_zero t j hlt).2 hz)
      · exact hno j (by omega) hl
theorem refPutText (s t : ByteArray) (h : s.size ≤ 140737488351232) (h2 : t.size ≤ 140737488351232) (k : Nat) (hk : t.size < k) : pontoonref01_PutText.f k s t = some (putTextF s t) :=
  refPutText_l s t h h2 t.size k 0 (by omega) (by omega) hk (fun j hj => by omega)

theorem refGetBytes (s : ByteArray) (at_ n : Int) (k : Nat) (hk : 0 < k) (h : s.size ≤ 140737488351232) (ha : -9223372036854775808 ≤ at_ ∧ at_ ≤ 9223372036854775807) (hn : -9223372036854775808 ≤ n ∧ n ≤ 9223372036854775807) :
    pontoonref01_GetBytes.f k s at_ n = some (gotF s at_ n) := by
  obtain ⟨k, rfl⟩ : ∃ m, k = m + 1 := ⟨k - 1, by omega⟩
  simp only [pontoonref01_GetBytes.f, gotF]
  by_cases h1 : at_ < 0
  · rw [if_pos h1, if_pos (by omega)]; simp [pontoonref01_GetBytes.j0]
  rw [if_neg h1]
  by_cases h2 : at_ > (s.size : Int)
  · rw [if_pos h2, if_pos (by omega)]; simp [pontoonref01_GetBytes.j0]
  rw [if_neg h2]
  by_cases h3 : n < 0
  · rw [if_pos (by omega)]; simp [pontoonref01_GetBytes.j0, h3]
  rw [if_neg (by omega)]
  simp only [pontoonref01_GetBytes.j0]
  rw [if_neg (by simpa using h3), wrap_in (by omega) (by omega)]
  by_cases h4 : (s.size : Int) - at_ < n
  · rw [if_pos h4, if_pos h4]
  · rw [if_neg h4, if_neg h4, if_pos (by omega), wrap_in (by omega) (by omega), if_pos (by omega), if_pos (by omega)]
theorem numF_of {s : ByteArray} {at_ : Int} {k : Nat} (h : ¬ (at_ < 0 ∨ (s.size : Int) < at_ ∨ (s.size : Int) - at_ < k)) :
    ∃ a : Nat, at_ = a ∧ a + k ≤ s.size ∧ gotF s at_ k = (s.extract a (a + k), at_ + k, 0) ∧ numF s at_ k = (numOf (sgn (s.extract a (a + k)).data.toList) (s.extract a (a + k)).data.toList, at_ + k, 0) := by
  obtain ⟨a, rfl⟩ := Int.eq_ofNat_of_zero_le (show 0 ≤ at_ by omega)
  refine ⟨a, rfl, by omega, ?_, ?_⟩
  · simp only [gotF]; rw [if_neg (by omega), if_neg (by omega), show ((a : Int) + k).toNat = a + k by omega]; rfl
  · have hd : (s.extract a (a + k)).data.toList = (s.data.toList.drop a).take k := by rw [extract_list]; congr 1; omega
    simp only [numF]; rw [if_neg (by omega), if_neg (by omega), hd]; rfl
theorem two_bytes (x : ByteArray) (h : x.size = 2) : ∃ b c : UInt8, x.data.toList = [b, c] := by
  have hl : x.data.toList.length = 2 := by simpa using h
  match hx : x.data.toList, hl with
  | [b, c], _ => exact ⟨b, c, rfl⟩
theorem four_bytes (x : ByteArray) (h : x.size = 4) : ∃ b c d e : UInt8, x.data.toList = [b, c, d, e] := by
  have hl : x.data.toList.length = 4 := by simpa using h
  match hx : x.data.toList, hl with
  | [b, c, d, e], _ => exact ⟨b, c, d, e, rfl⟩
theorem refGet16 (s : ByteArray) (at_ : Int) (k : Nat) (hk : 0 < k) (h : s.size ≤ 140737488351232) (ha : -9223372036854775808 ≤ at_ ∧ at_ ≤ 9223372036854775807) :
    pontoonref01_Get16.f k s at_ = some (numF s at_ 2) := by
  simp only [pontoonref01_Get16.f, refGetBytes s at_ 2 k hk h ha (by omega), Option.bind_some]
  by_cases hc : at_ < 0 ∨ (s.size : Int) < at_ ∨ (s.size : Int) - at_ < (2 : Nat)
  · obtain ⟨c, hg, hn⟩ := numF_bad hc
    have hc0 : c ≠ 0 := by
      intro e
      subst e
      simp only [gotF] at hg
      split at hg
      · simp at hg
      · split at hg
        · simp at hg
        · omega
    rw [show ((2 : Nat) : Int) = 2 from rfl] at hg
    rw [hg, hn]
    simp [hc0]
  · obtain ⟨a, rfl, hs, hg, hn⟩ := numF_of hc
    rw [show ((2 : Nat) : Int) = 2 from rfl] at hg
    rw [hg, hn]
    have hx : (s.extract a (a + 2)).size = 2 := by simp [ByteArray.size_extract]; omega
    generalize s.extract a (a + 2) = x at hx
    obtain ⟨b, c, hbc⟩ := two_bytes x hx
    have e0 := bt_nat x 0 (by omega)
    have e1 := bt_nat x 1 (by omega)
    simp only [hbc, List.getElem_cons_zero, List.getElem_cons_succ] at e0 e1
    have hb := b.toNat_lt
    have hc2 := c.toNat_lt
    simp only [Int.natCast_zero] at e0
    rw [show ((1 : Nat) : Int) = 1 from rfl] at e1
    simp only [e0, e1, hx, hbc, sgn, numOf]
    rw [if_pos trivial, if_pos (by omega), if_pos (by omega)]
    rw [wrap_in (i := (b.toNat : Int)) (by omega) (by omega), wrap_in (i := (c.toNat : Int)) (by omega) (by omega), wrap_in (i := 256 * (b.toNat : Int)) (by omega) (by omega), wrap_in (i := 256 * (b.toNat : Int) + (c.toNat : Int)) (by omega) (by omega)]
    by_cases hge : 256 * (b.toNat : Int) + (c.toNat : Int) ≥ 32768
    · rw [if_pos hge, if_neg (by omega), wrap_in (by omega) (by omega)]
      simp; omega
    · rw [if_neg hge, if_pos (by omega)]
      simp; omega

theorem gotF_code {s : ByteArray} {at_ : Int} {k : Nat} {c : Int} (hc : at_ < 0 ∨ (s.size : Int) < at_ ∨ (s.size : Int) - at_ < k) (hg : gotF s at_ k = (⟨#[]⟩, 0, c)) : c ≠ 0 := by
  intro e
  subst e
  simp only [gotF] at hg
  split at hg
  · simp at hg
  · split at hg
    · simp at hg
    · omega
theorem ref32_step (k : Nat) (x : ByteArray) (y n : Int) (i : Nat) (b : UInt8) (hi : i < 4) (hx : x.size = 4) (he : bt x (i : Int) = (b.toNat : Int)) (h1 : 0 ≤ n) (h2 : n ≤ 16777216) :
    pontoonref01_Get32.l0 (k + 1) x y n i = pontoonref01_Get32.l0 k x y (256 * n + (b.toNat : Int)) (i + 1 : Nat) := by
  have hb := b.toNat_lt
  conv => lhs; rw [pontoonref01_Get32.l0]
  rw [if_pos (by omega), if_pos (by omega), if_pos (by omega), he]
  rw [wrap_in (i := (i : Int) + 1) (by omega) (by omega), wrap_in (i := (b.toNat : Int)) (by omega) (by omega), wrap_in (i := 256 * n) (by omega) (by omega), wrap_in (i := 256 * n + (b.toNat : Int)) (by omega) (by omega)]
  rfl
theorem refGet32 (s : ByteArray) (at_ : Int) (k : Nat) (hk : 5 ≤ k) (h : s.size ≤ 140737488351232) (ha : -9223372036854775808 ≤ at_ ∧ at_ ≤ 9223372036854775807) :
    pontoonref01_Get32.f k s at_ = some (numF s at_ 4) := by
  simp only [pontoonref01_Get32.f, refGetBytes s at_ 4 k (by omega) h ha (by omega), Option.bind_some]
  by_cases hc : at_ < 0 ∨ (s.size : Int) < at_ ∨ (s.size : Int) - at_ < (4 : Nat)
  · obtain ⟨c, hg, hn⟩ := numF_bad hc
    have hc0 := gotF_code hc hg
    rw [show ((4 : Nat) : Int) = 4 from rfl] at hg
    rw [hg, hn]
    simp [hc0]
  · obtain ⟨a, rfl, hs, hg, hn⟩ := numF_of hc
    rw [show ((4 : Nat) : Int) = 4 from rfl] at hg
    rw [hg, hn]
    have hx : (s.extract a (a + 4)).size = 4 := by simp [ByteArray.size_extract]; omega
    generalize s.extract a (a + 4) = x at hx
    obtain ⟨b, c, d, e, hbc⟩ := four_bytes x hx
    have e0 := bt_nat x 0 (by omega)
    have e1 := bt_nat x 1 (by omega)
    have e2 := bt_nat x 2 (by omega)
    have e3 := bt_nat x 3 (by omega)
    simp only [hbc, List.getElem_cons_zero, List.getElem_cons_succ] at e0 e1 e2 e3
    have hb := b.toNat_lt
    have hc2 := c.toNat_lt
    have hd := d.toNat_lt
    have he := e.toNat_lt
    obtain ⟨k, rfl⟩ : ∃ m, k = m + 1 + 1 + 1 + 1 + 1 := ⟨k - 5, by omega⟩
    simp only [if_true]
    have s0 := ref32_step (k + 1 + 1 + 1 + 1) x ((a : Int) + 4) 0 0 b (by omega) hx e0 (by omega) (by omega)
    have s1 := ref32_step (k + 1 + 1 + 1) x ((a : Int) + 4) (256 * 0 + b.toNat) 1 c (by omega) hx e1 (by omega) (by omega)
    have s2 := ref32_step (k + 1 + 1) x ((a : Int) + 4) (256 * (256 * 0 + b.toNat) + c.toNat) 2 d (by omega) hx e2 (by omega) (by omega)
    have s3 := ref32_step (k + 1) x ((a : Int) + 4) (256 * (256 * (256 * 0 + b.toNat) + c.toNat) + d.toNat) 3 e (by omega) hx e3 (by omega) (by omega)
    rw [show ((0 : Nat) : Int) = 0 from rfl] at s0
    rw [s0, s1, s2, s3]
    simp only [pontoonref01_Get32.l0]
    rw [if_neg (by omega)]
    simp only [hbc, sgn, numOf]
    by_cases hge : 256 * (256 * (256 * (256 * 0 + (b.toNat : Int)) + c.toNat) + d.toNat) + e.toNat ≥ 2147483648
    · rw [if_pos hge, if_neg (by omega), wrap_in (by omega) (by omega)]
      simp; omega
    · rw [if_neg hge, if_pos (by omega)]
      simp; omega

theorem refGetText_l (s : ByteArray) (a : Nat) (h : s.size ≤ 140737488351232) (ha : a ≤ s.size) (d : Nat) : ∀ (k i : Nat), a + i ≤ s.size → s.size - (a + i) = d → d < k →
    (∀ j (_ : j < i) (hl : j < (s.data.toList.drop a).length), (s.data.toList.drop a)[j] ≠ 0) → pontoonref01_GetText.l0 k s a ((a + i : Nat) : Int) = some (getTextF s a) := by
  have hsz : s.data.size = s.size := rfl
  induction d with
  | zero =>
    intro k i hi hd hk hno
    obtain ⟨k, rfl⟩ : ∃ m, k = m + 1 := ⟨k - 1, by omega⟩
    have hn : endF (s.data.toList.drop a) = none := endF_none fun j hj => hno j (by simp at hj; omega) hj
    simp only [pontoonref01_GetText.l0]
    rw [if_neg (by omega)]
    simp only [getTextF]
    rw [if_neg (by omega), Int.toNat_natCast, hn]
  | succ d ih =>
    intro k i hi hd hk hno
    obtain ⟨k, rfl⟩ : ∃ m, k = m + 1 := ⟨k - 1, by omega⟩
    have hlt : a + i < s.size := by omega
    have hl : i < (s.data.toList.drop a).length := by simp; omega
    have hg : (s.data.toList.drop a)[i] = s.data.toList[a + i]'(by simp; omega) := by simp
    simp only [pontoonref01_GetText.l0]
    rw [if_pos (by omega), if_pos (by omega)]
    by_cases h0 : bt s ((a + i : Nat) : Int) = 0
    · have hz := (bt_zero s (a + i) hlt).1 h0
      have hs : endF (s.data.toList.drop a) = some i := endF_some hl (by rw [hg]; exact hz) (fun j hj => hno j hj (by omega))
      rw [if_pos h0, if_pos (by omega), if_pos (by omega), if_pos (by omega), wrap_in (by omega) (by omega)]
      simp only [getTextF]
      rw [if_neg (by omega), Int.toNat_natCast, hs]
      simp only [Int.toNat_natCast]
      congr 3
    · rw [if_neg h0, wrap_in (by omega) (by omega)]
      rw [show (((a + i : Nat) : Int) + 1) = ((a + (i + 1) : Nat) : Int) by omega]
      refine ih k (i + 1) (by omega) (by omega) (by omega) ?_
      intro j hj hl2
      by_cases e : j = i
      · subst e; rw [hg]; exact fun hz => h0 ((bt_zero s (a + j) hlt).2 hz)
      · exact hno j (by omega) hl2
theorem refGetText (s : ByteArray) (at_ : Int) (k : Nat) (hk : s.size + 1 < k) (h : s.size ≤ 140737488351232) : pontoonref01_GetText.f k s at_ = some (getTextF s at_) := by
  obtain ⟨k, rfl⟩ : ∃ m, k = m + 1 := ⟨k - 1, by omega⟩
  simp only [pontoonref01_GetText.f]
  by_cases h1 : at_ < 0
  · rw [if_pos h1]; simp [pontoonref01_GetText.j0, getTextF, h1]
  rw [if_neg h1]
  by_cases h2 : at_ > (s.size : Int)
  · simp [pontoonref01_GetText.j0, getTextF, h2]
  obtain ⟨a, rfl⟩ := Int.eq_ofNat_of_zero_le (show 0 ≤ at_ by omega)
  have hf : decide ((a : Int) > (s.size : Int)) = false := decide_eq_false h2
  simp only [pontoonref01_GetText.j0, hf]
  rw [if_neg (by decide)]
  exact refGetText_l s a h (by omega) (s.size - a) k 0 (by omega) (by omega) (by omega) (fun j hj => by omega)

theorem wf_i64 {n : Int} (h : (Lit.int .i64 n).wf = true) : -9223372036854775808 ≤ n ∧ n ≤ 9223372036854775807 := by
  simpa [Lit.wf, IntKind.min, IntKind.max, IntKind.bits, IntKind.signed] using h
end Go.Proofs.Ytjmgookpmngmaaa.Pure
