/- What was put is got: the plain law behind OctetBack. -/
import Derived.Test.YtjmgookpmngmaaaOctPure
namespace Go.Proofs.Ytjmgookpmngmaaa.Pure
open Go.RowKit Go.Proofs.Ytjmgookpmngmaaa Go.Proofs.Ytjmgookpmngmaaa.Pr Go.Proofs.YtjmgookpmngmaaaW.PrintWords Go.Proofs.YtjmgookpmngmaaaW.PrintLast

theorem be_data (n : Int) (k : Nat) : (strOfNums (beBytes n k)).data.toList = (beBytes n k).map fun m => UInt8.ofNat m.toNat := strOfNums_data _
theorem byte_of (m : Int) : ((UInt8.ofNat (m % 256).toNat).toNat : Int) = m % 256 := by
  simp
  omega
theorem num2 (n : Int) (h : -32768 ≤ n ∧ n ≤ 32767) : numOf (sgn ((beBytes n 2).map fun m => UInt8.ofNat m.toNat)) ((beBytes n 2).map fun m => UInt8.ofNat m.toNat) = n := by
  rw [be2]
  simp only [List.map_cons, List.map_nil, numOf, sgn, byte_of]
  have e := byte_of (n / 256)
  split <;> omega
theorem num4 (n : Int) (h : -2147483648 ≤ n ∧ n ≤ 2147483647) : numOf (sgn ((beBytes n 4).map fun m => UInt8.ofNat m.toNat)) ((beBytes n 4).map fun m => UInt8.ofNat m.toNat) = n := by
  rw [be4]
  simp only [List.map_cons, List.map_nil, numOf, sgn, byte_of]
  have e := byte_of (n / 16777216)
  split <;> omega
theorem putF_data (s : ByteArray) (n : Int) (k : Nat) : (putF s n k).data.toList = s.data.toList ++ (beBytes n k).map fun m => UInt8.ofNat m.toNat := by
  rw [putF, ByteArray.data_append, Array.toList_append, be_data]
theorem putF_size (s : ByteArray) (n : Int) (k : Nat) : (putF s n k).size = s.size + k := by rw [putF, ByteArray.size_append, strOfNums_size, beBytes_length]
theorem size_list (s : ByteArray) : s.data.toList.length = s.size := by simp
theorem putTextF_none {s t : ByteArray} (h : endF t.data.toList = none) : (putTextF s t).data.toList = s.data.toList ++ t.data.toList ++ [0] ∧ (putTextF s t).size = s.size + t.size + 1 := by
  simp only [putTextF, h]
  constructor
  · simp [ByteArray.data_append, Array.toList_append]
  · rw [ByteArray.size_append, ByteArray.size_append]; rfl
/-- A number that lies in a text, from a place on. -/
theorem numF_at {s : ByteArray} {l r : List UInt8} {k : Nat} {n : Int} {m : List UInt8} (hd : s.data.toList = l ++ (m ++ r)) (hm : m.length = k) (hn : numOf (sgn m) m = n) : numF s l.length k = (n, (l.length : Int) + k, 0) := by
  have hz : s.size = l.length + (k + r.length) := by rw [← size_list, hd]; simp [hm]
  simp only [numF]
  rw [if_neg (by omega), if_neg (by omega)]
  have e : (s.data.toList.drop (l.length : Int).toNat).take k = m := by
    rw [Int.toNat_natCast, hd, List.drop_left, ← hm, List.take_left]
  rw [e, hn]
theorem ba_ext {a b : ByteArray} (h : a.data.toList = b.data.toList) : a = b := by
  apply ByteArray.ext
  exact Array.toList_inj.1 h
theorem getTextF_at {s t : ByteArray} {l : List UInt8} (hd : s.data.toList = l ++ (t.data.toList ++ [0])) (ht : endF t.data.toList = none) : getTextF s l.length = (t, (l.length : Int) + t.size + 1, 0) := by
  have hz : s.size = l.length + (t.size + 1) := by rw [← size_list, hd]; simp
  simp only [getTextF]
  rw [if_neg (by omega), Int.toNat_natCast, hd, List.drop_left]
  have he : endF (t.data.toList ++ [0]) = some t.size := by
    refine endF_some (by simp) ?_ ?_
    · rw [List.getElem_append_right (by simp)]; simp
    · intro j hj
      have hj2 : j < t.data.toList.length := by rw [size_list]; exact hj
      rw [List.getElem_append_left hj2]
      exact endF_none' ht j hj2
  rw [he]
  simp only [Prod.mk.injEq, and_true]
  apply ba_ext
  rw [extract_list, hd, List.drop_left, show l.length + t.size - l.length = t.data.toList.length by rw [size_list]; omega, List.take_left]
theorem gotF_start {s p : ByteArray} {r : List UInt8} (hd : s.data.toList = p.data.toList ++ r) : gotF s 0 p.size = (p, (p.size : Int), 0) := by
  have hz : s.size = p.size + r.length := by rw [← size_list, hd]; simp
  simp only [gotF]
  rw [if_neg (by omega), if_neg (by omega)]
  rw [Int.zero_add]
  simp only [Prod.mk.injEq, and_true]
  apply ba_ext
  rw [extract_list, hd, show (p.size : Int).toNat - (0 : Int).toNat = p.data.toList.length by rw [size_list]; omega]
  simp
theorem back_plain (s t : ByteArray) (a b : Int) (ha : -32768 ≤ a ∧ a ≤ 32767) (hb : -2147483648 ≤ b ∧ b ≤ 2147483647) (ht : endF t.data.toList = none) (all : ByteArray) (hall : all = putTextF (putF (putF s a 2) b 4) t) :
    all.size = s.size + t.size + 7 ∧ numF all s.size 2 = (a, (s.size : Int) + 2, 0) ∧ numF all ((s.size : Int) + 2) 4 = (b, (s.size : Int) + 6, 0) ∧ getTextF all ((s.size : Int) + 6) = (t, (s.size : Int) + t.size + 7, 0) ∧ gotF all 0 s.size = (s, (s.size : Int), 0) := by
  have hd : all.data.toList = s.data.toList ++ (((beBytes a 2).map fun m => UInt8.ofNat m.toNat) ++ (((beBytes b 4).map fun m => UInt8.ofNat m.toNat) ++ (t.data.toList ++ [0]))) := by
    rw [hall, (putTextF_none ht).1, putF_data, putF_data]; simp
  refine ⟨?_, ?_, ?_, ?_, ?_⟩
  · rw [hall, (putTextF_none ht).2, putF_size, putF_size]; omega
  · have h := numF_at (k := 2) hd (by simp [beBytes_length]) (num2 a ha)
    rw [size_list] at h
    exact h
  · have h := numF_at (k := 4) (l := s.data.toList ++ ((beBytes a 2).map fun m => UInt8.ofNat m.toNat)) (by rw [hd, List.append_assoc]) (by simp [beBytes_length]) (num4 b hb)
    simp only [List.length_append, size_list, List.length_map, beBytes_length] at h
    rw [show (((s.size + 2 : Nat) : Int)) = (s.size : Int) + 2 by omega] at h
    rw [h]
    simp; omega
  · have h := getTextF_at (l := s.data.toList ++ (((beBytes a 2).map fun m => UInt8.ofNat m.toNat) ++ ((beBytes b 4).map fun m => UInt8.ofNat m.toNat))) (by rw [hd]; simp) ht
    simp only [List.length_append, size_list, List.length_map, beBytes_length] at h
    rw [show (((s.size + (2 + 4) : Nat) : Int)) = (s.size : Int) + 6 by omega] at h
    rw [h]
    simp; omega
  · exact gotF_start hd
end Go.Proofs.Ytjmgookpmngmaaa.Pure
