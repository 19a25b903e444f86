/- frame: the bytes of right messages are read as these. -/
import Derived.Test.YtkaehhldloclhaaFrArg
namespace Go.Proofs.Ytkaehhldloclhaa
open Go.RowKit

theorem ba_ext {a b : ByteArray} (h : a.data.toList = b.data.toList) : a = b := by
  apply ByteArray.ext
  exact Array.toList_inj.1 h
theorem size_list (s : ByteArray) : s.data.toList.length = s.size := by simp
theorem byte_of (m : Int) : ((UInt8.ofNat (m % 256).toNat).toNat : Int) = m % 256 := by
  simp
  omega
theorem num4 (n : Int) (h : -2147483648 ≤ n ∧ n ≤ 2147483647) : numOf (sgn ((beBytes n 4).map fun m => UInt8.ofNat m.toNat)) ((beBytes n 4).map fun m => UInt8.ofNat m.toNat) = n := by
  rw [be4']
  simp only [List.map_cons, List.map_nil, numOf, sgn, byte_of]
  have e := byte_of (n / 16777216)
  split <;> omega
theorem numF_at {s : ByteArray} {l r : List UInt8} {k : Nat} {n : Int} {m : List UInt8} (hd : s.data.toList = l ++ (m ++ r)) (hm : m.length = k) (hn : numOf (sgn m) m = n) : numF s l.length k = (n, (l.length : Int) + k, 0) := by
  have hz : s.size = l.length + (k + r.length) := by rw [← size_list, hd]; simp [hm]
  simp only [numF]
  rw [if_neg (by omega), if_neg (by omega)]
  have e : (s.data.toList.drop (l.length : Int).toNat).take k = m := by
    rw [Int.toNat_natCast, hd, List.drop_left, ← hm, List.take_left]
  rw [e, hn]
/-- A right message's bytes, ahead of others, are that message. -/
theorem nextF_put (m : Msg) (t : ByteArray) (f : Bool) (hr : rightF m = true) (hk : f = decide (m.kind = 0)) : nextF (putM m ++ t) f = .msg m t := by
  obtain ⟨c, b⟩ := m
  dsimp only at hk
  simp only [rightF, Bool.and_eq_true, Bool.or_eq_true, decide_eq_true_eq] at hr
  obtain ⟨hc, hb⟩ := hr
  have hB : ((beBytes ((b.size : Int) + 4) 4).map fun m => UInt8.ofNat m.toNat).length = 4 := by rw [List.length_map, beBytes_length]
  have hdata : (putM ⟨c, b⟩ ++ t).data.toList = (headB c).data.toList ++ (((beBytes ((b.size : Int) + 4) 4).map fun m => UInt8.ofNat m.toNat) ++ (b.data.toList ++ t.data.toList)) := by
    unfold putM
    rw [if_pos (by simp [rightF]; exact ⟨hc, by omega⟩)]
    simp [putF, ByteArray.data_append, strOfNums_data]
  have hh : (headB c).data.toList.length = hd f - 4 := by
    subst hk
    unfold headB hd
    by_cases h0 : c = 0
    · simp [h0]
    · simp [h0]
  have hsz : (putM ⟨c, b⟩ ++ t).size = hd f + (b.size + t.size) := by
    have h0 := hd_pos f
    rw [← size_list, hdata]
    simp only [List.length_append, hh, hB, size_list]
    omega
  have hlen : lenF (putM ⟨c, b⟩ ++ t) f = (b.size : Int) + 4 := by
    have h0 := hd_pos f
    have h := numF_at (k := 4) hdata hB (num4 _ (by omega))
    rw [hh] at h
    unfold lenF
    rw [show (hd f : Int) - 4 = ((hd f - 4 : Nat) : Int) by omega, h]
  have hkind : kindF (putM ⟨c, b⟩ ++ t) f = c := by
    unfold kindF
    rw [hdata]
    subst hk
    by_cases h0 : c = 0
    · simp [h0]
    · simp [h0, headB]
  have h0 := hd_pos f
  unfold nextF
  rw [hlen, hkind, hsz, if_neg (by omega)]
  rw [if_neg (fun hx => by
    obtain ⟨hf, hp⟩ := hx
    rw [hf] at hk
    have hne : c ≠ 0 := by simpa using hk.symm
    rcases hc with h | h
    · exact hne h
    · rw [h] at hp; cases hp)]
  rw [if_neg (by omega), if_neg (by omega), if_neg (by omega)]
  have e1 : hd f - 4 + ((b.size : Int) + 4).toNat = hd f + b.size := by omega
  rw [e1]
  have x1 : (putM ⟨c, b⟩ ++ t).extract (hd f) (hd f + b.size) = b := by
    apply ba_ext
    rw [extract_list, hdata, ← List.append_assoc, List.drop_left' (by rw [List.length_append, hh, hB]; omega), Nat.add_sub_cancel_left, ← size_list b, List.take_left]
  have x2 : (putM ⟨c, b⟩ ++ t).extract (hd f + b.size) (hd f + (b.size + t.size)) = t := by
    apply ba_ext
    rw [extract_list, hdata, ← List.append_assoc, ← List.append_assoc, List.drop_left' (by rw [List.length_append, List.length_append, hh, hB, size_list]; omega), List.take_of_length_le (by rw [size_list]; omega)]
  rw [x1, x2]
def joinM : List Msg → ByteArray
  | [] => ByteArray.empty
  | m :: l => putM m ++ joinM l
theorem joinM_snoc (l : List Msg) (m : Msg) : joinM (l ++ [m]) = joinM l ++ putM m := by
  induction l with
  | nil => simp [joinM]
  | cons x l ih => simp [joinM, ih, ByteArray.append_assoc]
def firstM (l : List Msg) : Bool := match l with | [] => false | m :: _ => decide (m.kind = 0)
/-- Right messages, of which the first alone may have no kind. -/
def rightL (l : List Msg) : Prop := (∀ m ∈ l, rightF m = true) ∧ ∀ m ∈ l.tail, m.kind ≠ 0
theorem runF_join : ∀ (l : List Msg) (f : Bool), (∀ m ∈ l, rightF m = true) → (∀ m ∈ l.tail, m.kind ≠ 0) → (∀ m ∈ l.head?, f = decide (m.kind = 0)) → ∃ f', runF (joinM l) f = (l, ⟨ByteArray.empty, f', 0⟩) := by
  intro l
  induction l with
  | nil =>
    intro f _ _ _
    have : nextF ByteArray.empty f = .wait := by unfold nextF; rw [if_pos (by have := hd_pos f; simp; omega)]
    exact ⟨f, runF_wait this⟩
  | cons m l ih =>
    intro f hr hk hf
    have hn : nextF (putM m ++ joinM l) f = .msg m (joinM l) := nextF_put m _ f (hr m (by simp)) (hf m (by simp))
    obtain ⟨f', hx⟩ := ih false (fun x hx => hr x (by simp [hx])) (fun x hx => hk x (List.mem_of_mem_tail hx)) (fun x hx => by
      have : x ∈ l := List.mem_of_mem_head? hx
      have := hk x this
      simpa using this)
    refine ⟨f', ?_⟩
    show runF (putM m ++ joinM l) f = _
    rw [runF_msg hn, hx]
theorem back_plain {l : List Msg} (h : rightL l) : ∃ f', feedF ⟨ByteArray.empty, firstM l, 0⟩ (joinM l) = (l, ⟨ByteArray.empty, f', 0⟩) := by
  have : feedF ⟨ByteArray.empty, firstM l, 0⟩ (joinM l) = runF (ByteArray.empty ++ joinM l) (firstM l) := if_pos rfl
  rw [this, ByteArray.empty_append]
  refine runF_join l _ h.1 h.2 ?_
  intro m hm
  cases l with
  | nil => simp at hm
  | cons x l => simp at hm; subst hm; rfl
theorem joinM_size : ∀ (l : List Msg), (∀ m ∈ l, rightF m = true) → (joinM l).size ≤ 5000 * l.length := by
  intro l
  induction l with
  | nil => intro _; simp [joinM]
  | cons m l ih =>
    intro h
    have := ih (fun x hx => h x (by simp [hx]))
    have hm := h m (by simp)
    have : (putM m).size ≤ 4997 := by
      unfold putM
      rw [if_pos hm]
      simp [rightF] at hm
      have : (headB m.kind).size ≤ 1 := by
        unfold headB
        split
        · simp
        · exact Nat.le_refl _
      rw [ByteArray.size_append, ByteArray.size_append, putF, ByteArray.size_append, strOfNums_size, beBytes_length]
      simp
      omega
    simp only [joinM, ByteArray.size_append, List.length_cons]
    omega
end Go.Proofs.Ytkaehhldloclhaa
