/- Numbers in digits, names by number; lists of keys and values. No program in sight. -/
import Derived.WalkKit
import Derived.Test.YtjmgookpmngmaadMapT
namespace Go.Proofs.Ytjmgookpmngmaad
open Go

def digL (n : Nat) : List UInt8 := if n < 10 then [UInt8.ofNat (48 + n)] else digL (n / 10) ++ [UInt8.ofNat (48 + n % 10)]
termination_by n
decreasing_by omega
def digB (n : Nat) : ByteArray := ⟨(digL n).toArray⟩
def nameB (n : Nat) : ByteArray := ⟨#[115]⟩ ++ digB n
theorem digL_small {n : Nat} (h : n < 10) : digL n = [UInt8.ofNat (48 + n)] := by rw [digL, if_pos h]
theorem digL_big {n : Nat} (h : ¬ n < 10) : digL n = digL (n / 10) ++ [UInt8.ofNat (48 + n % 10)] := by rw [digL, if_neg h]
theorem digB_small {n : Nat} (h : n < 10) : digB n = ⟨#[UInt8.ofNat (48 + n)]⟩ := by unfold digB; rw [digL_small h]
theorem digB_big {n : Nat} (h : ¬ n < 10) : digB n = digB (n / 10) ++ ⟨#[UInt8.ofNat (48 + n % 10)]⟩ := by
  unfold digB
  rw [digL_big h]
  apply ByteArray.ext
  simp
theorem digL_len (n : Nat) : (digL n).length ≤ n + 1 := by
  induction n using Nat.strongRecOn with
  | _ n ih =>
    by_cases h : n < 10
    · rw [digL_small h]; simp
    · rw [digL_big h]
      have := ih (n / 10) (by omega)
      simp; omega
theorem digB_size (n : Nat) : (digB n).size ≤ n + 1 := by
  have := digL_len n
  simpa [digB, ByteArray.size] using this
def valL (l : List UInt8) : Nat := l.foldl (fun a c => 10 * a + (c.toNat - 48)) 0
theorem valL_digL (n : Nat) : valL (digL n) = n := by
  induction n using Nat.strongRecOn with
  | _ n ih =>
    by_cases h : n < 10
    · rw [digL_small h]
      simp [valL, UInt8.toNat_ofNat']
      omega
    · rw [digL_big h]
      have := ih (n / 10) (by omega)
      unfold valL at this ⊢
      rw [List.foldl_append, this]
      simp [UInt8.toNat_ofNat']
      omega
theorem digB_inj {m n : Nat} (h : digB m = digB n) : m = n := by
  have : digL m = digL n := by
    have := congrArg (fun b : ByteArray => b.data.toList) h
    simpa [digB] using this
  rw [← valL_digL m, this, valL_digL]
theorem nameB_inj {m n : Nat} (h : nameB m = nameB n) : m = n := by
  unfold nameB at h
  refine digB_inj ?_
  have := congrArg (fun b : ByteArray => b.data.toList) h
  simp at this
  apply ByteArray.ext
  exact this
theorem nameB_size (n : Nat) : (nameB n).size ≤ n + 2 := by
  unfold nameB
  have := digB_size n
  rw [ByteArray.size_append]
  have : (ByteArray.mk #[115]).size = 1 := rfl
  omega
end Go.Proofs.Ytjmgookpmngmaad
