/- What octet's functions come to, in plain words. -/
import Derived.IntWalk
import Derived.Laws.BitsLemmas
import Derived.Laws.BytesArg
import Derived.RowKit
namespace Go.Proofs.Ytgfppniifjabdaa
open Go.RowKit

/-- A number's lowest bytes, the highest one first. -/
def beBytes (n : Int) : Nat → List Int
  | 0 => []
  | k + 1 => (n / 2 ^ (8 * k)) % 256 :: beBytes n k
theorem beBytes_length (n : Int) : ∀ k, (beBytes n k).length = k
  | 0 => rfl
  | k + 1 => by simp [beBytes, beBytes_length n k]
def nums8 (xs : List Int) : List Value := xs.map fun x => .int .u8 x
/-- What put makes. -/
def putF (s : ByteArray) (n : Int) (k : Nat) : ByteArray := s ++ strOfNums (beBytes n k)
def startNums (s : ByteArray) : List Int := s.data.toList.map fun b => (b.toNat : Int)
theorem putF_nums (s : ByteArray) (n : Int) (k : Nat) : strOfNums (startNums s ++ beBytes n k) = putF s n k := by
  unfold putF
  apply ByteArray.ext
  apply Array.toList_inj.1
  rw [strOfNums_data, ByteArray.data_append, Array.toList_append, strOfNums_data, List.map_append]
  congr 1
  unfold startNums
  rw [List.map_map]
  conv => rhs; rw [← List.map_id s.data.toList]
  apply List.map_congr_left
  intro b _
  exact UInt8.toNat_inj.1 (by simp)

/-- Where a text ends: at its first byte 0. -/
def endF (l : List UInt8) : Option Nat := l.findIdx? (· == 0)
def endI (l : List UInt8) : Int := match endF l with | none => -1 | some i => i
theorem endF_some {l : List UInt8} {i : Nat} (h : i < l.length) (h0 : l[i] = 0) (hb : ∀ j (hj : j < i), l[j]'(by omega) ≠ 0) : endF l = some i := by
  unfold endF
  rw [List.findIdx?_eq_some_iff_getElem]
  exact ⟨h, by simp [h0], fun j hj => by simpa using hb j hj⟩
theorem endF_none {l : List UInt8} (hb : ∀ j (hj : j < l.length), l[j] ≠ 0) : endF l = none := by
  unfold endF
  rw [List.findIdx?_eq_none_iff]
  intro x hx
  obtain ⟨j, hj, rfl⟩ := List.getElem_of_mem hx
  simpa using hb j hj
theorem endF_spec {l : List UInt8} {i : Nat} (h : endF l = some i) : ∃ hi : i < l.length, l[i] = 0 ∧ ∀ j (hj : j < i), l[j]'(by omega) ≠ 0 := by
  unfold endF at h
  rw [List.findIdx?_eq_some_iff_getElem] at h
  obtain ⟨hi, h0, hb⟩ := h
  exact ⟨hi, by simpa using h0, fun j hj => by simpa using hb j hj⟩
theorem endF_none' {l : List UInt8} (h : endF l = none) : ∀ j (hj : j < l.length), l[j] ≠ 0 := by
  unfold endF at h
  rw [List.findIdx?_eq_none_iff] at h
  intro j hj
  have := h l[j] (List.getElem_mem hj)
  simpa using this

/-- What PutText makes. -/
def putTextF (s t : ByteArray) : ByteArray := s ++ (match endF t.data.toList with | none => t | some i => t.extract 0 i) ++ ⟨#[0]⟩
/-- What bytes tells: the bytes, the place behind them, an error's number. -/
def gotF (s : ByteArray) (at_ n : Int) : ByteArray × Int × Int :=
  if at_ < 0 ∨ (s.size : Int) < at_ ∨ n < 0 then (⟨#[]⟩, 0, 1) else if (s.size : Int) - at_ < n then (⟨#[]⟩, 0, 3) else (s.extract at_.toNat (at_ + n).toNat, at_ + n, 0)
/-- A number with a sign, out of its bytes. -/
def sgn (l : List UInt8) : Int := match l with | [] => 0 | b :: _ => if b.toNat < 128 then 0 else -1
def numOf (n : Int) : List UInt8 → Int
  | [] => n
  | b :: l => numOf (n * 256 + b.toNat) l
theorem numOf_append (n : Int) : ∀ a b : List UInt8, numOf n (a ++ b) = numOf (numOf n a) b := by
  intro a
  induction a generalizing n with
  | nil => intro b; rfl
  | cons x a ih => intro b; exact ih _ b
def numF (s : ByteArray) (at_ : Int) (size : Nat) : Int × Int × Int :=
  if at_ < 0 ∨ (s.size : Int) < at_ then (0, 0, 1) else if (s.size : Int) - at_ < size then (0, 0, 3)
  else (numOf (sgn ((s.data.toList.drop at_.toNat).take size)) ((s.data.toList.drop at_.toNat).take size), at_ + size, 0)
/-- What GetText tells. -/
def getTextF (s : ByteArray) (at_ : Int) : ByteArray × Int × Int :=
  if at_ < 0 ∨ (s.size : Int) < at_ then (⟨#[]⟩, 0, 1) else
    match endF (s.data.toList.drop at_.toNat) with
    | none => (⟨#[]⟩, 0, 3)
    | some i => (s.extract at_.toNat (at_.toNat + i), at_ + i + 1, 0)

theorem or_low (m b : Int) (h1 : -36028797018963968 ≤ m) (h2 : m < 36028797018963968) (hb : 0 ≤ b ∧ b < 256) : bits .or .i64 (m * 256) b = m * 256 + b := by
  obtain ⟨b, rfl⟩ := Int.eq_ofNat_of_zero_le hb.1
  have hb2 : b < 256 := by omega
  have hA : (BitVec.ofInt 64 (m * 256)).toNat = ((m * 256) % 18446744073709551616).toNat := by simp [BitVec.toNat_ofInt]
  have hB : (BitVec.ofInt 64 (b : Int)).toNat = b := by simp; omega
  have key : (BitVec.ofInt 64 (m * 256) ||| BitVec.ofInt 64 (b : Int)).toNat = ((m * 256) % 18446744073709551616).toNat + b := by
    rw [BitVec.toNat_or, hA, hB]
    obtain ⟨q, hq⟩ : ∃ q : Nat, ((m * 256) % 18446744073709551616).toNat = 2 ^ 8 * q := ⟨((m * 256) % 18446744073709551616).toNat / 256, by omega⟩
    rw [hq, ← Nat.two_pow_add_eq_or_of_lt (by omega) q]
  show IntKind.i64.wrap ((BitVec.ofInt 64 (m * 256) ||| BitVec.ofInt 64 (b : Int)).toNat : Int) = _
  rw [key, IntKind.wrap_i64]
  omega

theorem numOf_bound (l : List UInt8) : ∀ (n : Int) (k : Nat), -(256 ^ k) ≤ n → n < 256 ^ k → -(256 ^ (k + l.length)) ≤ numOf n l ∧ numOf n l < 256 ^ (k + l.length) := by
  induction l with
  | nil => intro n k h1 h2; exact ⟨h1, h2⟩
  | cons b l ih =>
    intro n k h1 h2
    have hb := b.toNat_lt
    have e : (256 : Int) ^ (k + 1) = 256 ^ k * 256 := Int.pow_succ ..
    have := ih (n * 256 + b.toNat) (k + 1) (by rw [e]; omega) (by rw [e]; omega)
    rw [show k + 1 + l.length = k + (b :: l).length by simp; omega] at this
    exact this
end Go.Proofs.Ytgfppniifjabdaa
