/- A queue's At and Next over its keys in order; a queue that is not there; the law's known. -/
import Derived.Test.YthafopnaecbjdaaExB
import Derived.Test.YthafopnaecbjdaaPax
namespace Go.Proofs.Ythafopnaecbjdaa
open Go Go.RowKit Go.Maps Go.Proofs.Ythafopnaecbjdaa.Pa Go.Proofs.YthafopnaecbjdaaW.PrintWords Go.Proofs.YthafopnaecbjdaaW.PrintLast

section
variable {w w' : World} {p mb : Nat} {hv : Value} {H L : List It} {P : List (ByteArray × Value)} {sets : Int}
theorem at_hit (h : QL w p mb hv L sets) (k : ByteArray) (hk : goodS k) (x : It) (hx : x ∈ L) (hxk : x.key = k) : Calls Try.prog 17 #[.pointer (some ⟨p, 0, none⟩), .string k] w fun e w' => e = .returned (.tuple #[.int .i64 x.at_, .bool true]) ∧ w' = w := by
  obtain ⟨H, ⟨P, a, b⟩, hh, hp⟩ := h.ex
  obtain ⟨j, hj⟩ := List.mem_iff_getElem?.1 (hp.symm.subset hx)
  obtain ⟨h1, h2⟩ := at_of hj
  have := at_some a k hk j h1 (by rw [← hxk]; exact b.hit j x hj)
  rw [h2] at this
  exact this
theorem at_miss (h : QL w p mb hv L sets) (k : ByteArray) (hk : goodS k) (hx : ∀ x ∈ L, x.key ≠ k) : Calls Try.prog 17 #[.pointer (some ⟨p, 0, none⟩), .string k] w fun e w' => e = .returned (.tuple #[.int .i64 0, .bool false]) ∧ w' = w := by
  obtain ⟨H, ⟨P, a, b⟩, hh, hp⟩ := h.ex
  exact at_none a k hk (b.miss k fun x hm => hx x (hp.subset hm))
def findL (L : List It) (k : ByteArray) : Option It := L.find? fun x => decide (x.key = k)
def atT (L : List It) (k : ByteArray) : Int × Bool := match findL L k with | some x => (x.at_, true) | none => (0, false)
theorem at_ql (h : QL w p mb hv L sets) (k : ByteArray) (hk : goodS k) : Calls Try.prog 17 #[.pointer (some ⟨p, 0, none⟩), .string k] w fun e w' => e = .returned (.tuple #[.int .i64 (atT L k).1, .bool (atT L k).2]) ∧ w' = w := by
  unfold atT
  cases hf : findL L k with
  | none => exact at_miss h k hk fun x hx => by simpa using List.find?_eq_none.1 hf x hx
  | some x => exact at_hit h k hk x (List.mem_of_find?_eq_some hf) (by simpa using List.find?_some hf)
def nextT : List It → Int × Bool
  | [] => (0, false)
  | y :: _ => (y.at_, true)
theorem next_ql (h : QL w p mb hv L sets) : Calls Try.prog 19 #[.pointer (some ⟨p, 0, none⟩)] w fun e w' => e = .returned (.tuple #[.int .i64 (nextT L).1, .bool (nextT L).2]) ∧ w' = w := by
  obtain ⟨H, ⟨P, a, b⟩, hh, hp⟩ := h.ex
  cases L with
  | nil => exact next_none a (by rw [hp.length_eq]; rfl)
  | cons y r =>
    obtain ⟨h0, e⟩ := head_ok hh hp h.ord
    have := next_some a h0
    rw [e] at this
    exact this
end

/-! ### one that is not there -/
section
variable {w : World} {x : Option Addr}
def NoQ (w : World) (x : Option Addr) : Prop := Calls Try.prog 24 #[.pointer x] w fun e w' => e = .returned (.bool false) ∧ w' = w
theorem no_set (h : NoQ w x) (k : ByteArray) (n : Int) : Calls Try.prog 9 #[.pointer x, .string k, .int .i64 n] w fun e w' => e = .returned (.int .i64 12) ∧ w' = w := by
  have HT := Lib.hid h
  clear h
  go_enter Try.func9, Try.ntmps9
  repeat (first | go_step3 | go_values | go_skip | go_guarded | go_step | go_upon)
  (go_at_call 24; refine HT.out.mono ?_; rintro e w1 ⟨rfl, rfl⟩; dsimp only)
  repeat (first | go_step3 | go_values | go_skip | go_guarded | go_step | go_upon)
  go_ret
  exact ⟨rfl, rfl⟩
theorem no_drop (h : NoQ w x) (k : ByteArray) : Calls Try.prog 11 #[.pointer x, .string k] w fun e w' => e = .returned (.bool false) ∧ w' = w := by
  have HT := Lib.hid h
  clear h
  go_enter Try.func11, Try.ntmps11
  repeat (first | go_step3 | go_values | go_skip | go_guarded | go_step | go_upon)
  (go_at_call 24; refine HT.out.mono ?_; rintro e w1 ⟨rfl, rfl⟩; dsimp only)
  repeat (first | go_step3 | go_values | go_skip | go_guarded | go_step | go_upon)
  go_ret
  exact ⟨rfl, rfl⟩
theorem no_at (h : NoQ w x) (k : ByteArray) : Calls Try.prog 17 #[.pointer x, .string k] w fun e w' => e = .returned (.tuple #[.int .i64 0, .bool false]) ∧ w' = w := by
  have HT := Lib.hid h
  clear h
  go_enter Try.func17, Try.ntmps17
  repeat (first | go_step3 | go_values | go_skip | go_guarded | go_step | go_upon)
  (go_at_call 24; refine HT.out.mono ?_; rintro e w1 ⟨rfl, rfl⟩; dsimp only)
  repeat (first | go_step3 | go_values | go_skip | go_guarded | go_step | go_upon)
  go_ret2
  exact ⟨rfl, rfl⟩
theorem no_next (h : NoQ w x) : Calls Try.prog 19 #[.pointer x] w fun e w' => e = .returned (.tuple #[.int .i64 0, .bool false]) ∧ w' = w := by
  have HT := Lib.hid h
  clear h
  go_enter Try.func19, Try.ntmps19
  repeat (first | go_step3 | go_values | go_skip | go_guarded | go_step | go_upon)
  (go_at_call 24; refine HT.out.mono ?_; rintro e w1 ⟨rfl, rfl⟩; dsimp only)
  repeat (first | go_step3 | go_values | go_skip | go_guarded | go_step | go_upon)
  go_ret2
  exact ⟨rfl, rfl⟩
theorem no_due (h : NoQ w x) (n : Int) : Calls Try.prog 14 #[.pointer x, .int .i64 n] w fun e w' => e = .returned (.slice none 0 0) ∧ w' = w := by
  have HT := Lib.hid h
  clear h
  go_enter Try.func14, Try.ntmps14
  repeat (first | go_step3 | go_values | go_skip | go_guarded | go_step | go_upon)
  (go_at_call 24; refine HT.out.mono ?_; rintro e w1 ⟨rfl, rfl⟩; dsimp only)
  repeat (first | go_step3 | go_values | go_skip | go_guarded | go_step | go_upon)
  go_ret
  exact ⟨rfl, rfl⟩
theorem no_copy (h : NoQ w x) : Calls Try.prog 16 #[.pointer x] w fun e w' => e = .returned (.pointer none) ∧ w' = w := by
  have HT := Lib.hid h
  clear h
  go_enter Try.func16, Try.ntmps16
  repeat (first | go_step3 | go_values | go_skip | go_guarded | go_step | go_upon)
  (go_at_call 24; refine HT.out.mono ?_; rintro e w1 ⟨rfl, rfl⟩; dsimp only)
  repeat (first | go_step3 | go_values | go_skip | go_guarded | go_step | go_upon)
  go_ret
  exact ⟨rfl, rfl⟩
theorem no_keys (h : NoQ w x) : Calls Try.prog 21 #[.pointer x] w fun e w' => e = .returned (.slice none 0 0) ∧ w' = w := by
  have HC := Lib.hid (no_copy h)
  have HD := Lib.hid (no_due (ethere_nil w) 1099511627776)
  clear h
  go_enter Try.func21, Try.ntmps21
  repeat (first | go_step3 | go_values | go_skip | go_guarded | go_step | go_upon)
  (go_at_call 16; refine HC.out.mono ?_; rintro e w1 ⟨rfl, rfl⟩; dsimp only)
  repeat (first | go_step3 | go_values | go_skip | go_guarded | go_step | go_upon)
  (go_at_call 14; refine HD.out.mono ?_; rintro e w1 ⟨rfl, rfl⟩; dsimp only)
  repeat (first | go_step3 | go_values | go_skip | go_guarded | go_step | go_upon)
  go_ret
  exact ⟨rfl, rfl⟩
end

/-! ### two rows of texts are the same -/
theorem rd_at (l : List ByteArray) (j : Nat) (h : j < l.length) : rdOf ByteArray.empty l (j : Int) = l[j] := by
  unfold rdOf
  rw [Int.toNat_natCast, List.getD_eq_getElem?_getD, List.getElem?_eq_getElem h]
  rfl
theorem ba_list {a b : ByteArray} : a.toList = b.toList ↔ a = b := by
  constructor
  · intro h
    rw [ByteArray.toList_eq, ByteArray.toList_eq] at h
    obtain ⟨⟨a⟩⟩ := a
    obtain ⟨⟨b⟩⟩ := b
    have h : a = b := h
    rw [h]
  · rintro rfl; rfl
theorem texts_l (l m : List ByteArray) (hl : l.length = m.length) (hb : l.length ≤ 1000000) : ∀ (k j : Nat), j ≤ l.length → l.length - j < k → pontoonref07_Texts.l0 k l m j = some (decide (l.drop j = m.drop j)) := by
  intro k
  induction k with
  | zero => intro j _ h; omega
  | succ k ih =>
    intro j hj hk
    unfold pontoonref07_Texts.l0
    by_cases h : j < l.length
    · rw [if_pos (by omega), if_pos (by omega), if_pos (by omega), rd_at l j h, rd_at m j (by omega)]
      have hw : wrap64 ((j : Int) + 1) = ((j + 1 : Nat) : Int) := by unfold wrap64; omega
      have hm : j < m.length := by omega
      have e1 : l.drop j = l[j] :: l.drop (j + 1) := List.drop_eq_getElem_cons h
      have e2 : m.drop j = m[j] :: m.drop (j + 1) := List.drop_eq_getElem_cons hm
      rw [hw, ih (j + 1) (by omega) (by omega), e1, e2]
      by_cases e : l[j] = m[j]
      · rw [if_pos (ba_list.2 e), e]
        exact congrArg some (decide_eq_decide.2 ⟨fun h => by rw [h], fun h => (List.cons.inj h).2⟩)
      · rw [if_neg (fun h => e (ba_list.1 h))]
        exact congrArg some (decide_eq_false (fun h => e (List.cons.inj h).1)).symm
    · rw [if_neg (by omega), List.drop_of_length_le (by omega), List.drop_of_length_le (by omega)]
      simp
theorem texts_f (l m : List ByteArray) (hb : l.length ≤ 1000000) : pontoonref07_Texts.f (l.length + 1) l m = some (decide (l = m)) := by
  unfold pontoonref07_Texts.f
  by_cases h : l.length = m.length
  · rw [if_pos (by omega)]
    have := texts_l l m h hb (l.length + 1) 0 (by omega) (by omega)
    simpa using this
  · rw [if_neg (by omega)]
    have : l ≠ m := fun e => h (by rw [e])
    simp [this]
theorem texts_any {w : World} {v1 v2 : Value} {l m : List ByteArray} (h1 : RowT w v1 l) (h2 : RowT w v2 m) (hb : l.length ≤ 1000000) : Calls Try.prog 13 #[v1, v2] w fun e w' => e = .returned (.bool (decide (l = m))) ∧ Below w.heap.size w w' := by
  obtain ⟨A1, c1, e1, k1, g1⟩ := h1.C
  obtain ⟨A2, c2, e2, k2, g2⟩ := h2.C
  rw [e1, e2]
  exact (pontoonref07_Texts.calls _ A1 c1 l A2 c2 m _ w k1 g1 k2 g2 (texts_f l m hb)).mono fun _ _ ⟨e, d⟩ => ⟨e, d.below⟩

/-! ### the law's known -/
def kA : ByteArray := ⟨#[97]⟩
def kB : ByteArray := ⟨#[98]⟩
def kC : ByteArray := ⟨#[99]⟩
def kD : ByteArray := ⟨#[100]⟩
def M1 : List It := putL [] kA 5 0
def M2 : List It := putL M1 kB 3 (0 + 1)
def M3 : List It := putL M2 kC 5 (0 + 1 + 1)
def M4 : List It := M3.dropWhile (soon 4)
def M5 : List It := putL M4 kA 5 (0 + 1 + 1 + 1)
theorem gA : goodS kA := by show (1 : Nat) ≤ maxLen; simp [maxLen]
theorem gB : goodS kB := by show (1 : Nat) ≤ maxLen; simp [maxLen]
theorem gC : goodS kC := by show (1 : Nat) ≤ maxLen; simp [maxLen]
theorem M1_len : M1.length = 1 := by decide
theorem M2_len : M2.length = 2 := by decide
theorem M4_len : M4.length = 2 := by decide
theorem m_due : keysL (M3.takeWhile (soon 4)) = [kB] := by decide
theorem m_next : nextT M4 = (5, true) := by decide
theorem m_at : atT M5 kC = (5, true) := by decide
theorem m_keys : keysL M5 = [kC, kA] := by decide
theorem m_drop : hasL M5 kC = true := by decide
theorem m_drop2 : hasL (dropL M5 kC) kC = false := by decide
theorem row1 {w1 : World} {g : Nat} {a : ByteArray} (h : w1.heap[g]? = some (.cells #[.string a] 9 (0, 0))) : RowT w1 (.slice (some ⟨g, 0, none⟩) 1 1) [a] :=
  ⟨rfl, .inr ⟨g, 1, _, rfl, Nat.zero_le _, h, Nat.le_refl _, by simp [maxLen], rfl, rfl⟩⟩
theorem row2 {w1 : World} {g : Nat} {a b : ByteArray} (h : w1.heap[g]? = some (.cells #[.string a, .string b] 9 (0, 0))) : RowT w1 (.slice (some ⟨g, 0, none⟩) 2 2) [a, b] :=
  ⟨rfl, .inr ⟨g, 2, _, rfl, Nat.zero_le _, h, Nat.le_refl _, by simp [maxLen], rfl, rfl⟩⟩
/-- What a law's own queue is: above what was there. -/
structure QS (w w' : World) (p mb : Nat) (hv : Value) (L : List It) (sets : Int) : Prop where
  q : QL w' p mb hv L sets
  f : ∀ j ∈ Foot p mb hv, w.heap.size ≤ j
  b : Below w.heap.size w w'
def NewS (w : World) (e : Ending) (w' : World) : Prop := ∃ p, e = .returned (.pointer (some ⟨p, 0, none⟩)) ∧ ∃ mb hv, QS w w' p mb hv [] 0
theorem new_qs (w : World) : Calls Try.prog 8 #[] w (NewS w) := by
  refine (enew_any w).mono ?_
  rintro e w' ⟨p, mb, rfl, q, h1, h2, b⟩
  refine ⟨p, rfl, mb, _, ⟨⟨[], ⟨[], q, ⟨List.nodup_nil, fun j x h => by simp at h, fun k _ => rfl⟩⟩, fun k _ hk => absurd hk (by simp), List.Perm.refl _⟩, List.Pairwise.nil, by simp, by simp, by simp⟩, fun j hj => ?_, b⟩
  simp only [Foot, Value.ownBlock, Option.toList, List.mem_cons, List.not_mem_nil, or_false] at hj
  rcases hj with rfl | rfl
  · exact h1
  · exact h2
section
variable {w w1 : World} {p mb : Nat} {hv : Value} {L : List It} {sets : Int}
theorem QS.below {w2 : World} (h : QS w w1 p mb hv L sets) (b : Below w1.heap.size w1 w2) : QS w w2 p mb hv L sets := ⟨h.q.below b, h.f, h.b.trans (b.mono h.b.size)⟩
def SetS (w w1 : World) (p mb : Nat) (hv : Value) (L : List It) (sets : Int) (k : ByteArray) (n : Int) (e : Ending) (w' : World) : Prop := e = .returned (.int .i64 0) ∧ ∃ hv', QS w w' p mb hv' (putL L k n sets) (sets + 1) ∧ Touch (Foot p mb hv) w1 w'
theorem set_qs (h : QS w w1 p mb hv L sets) (k : ByteArray) (hk : goodS k) (n : Int) (h0 : 0 ≤ n) (h1 : n ≤ 1099511627776) (hs0 : 0 ≤ sets) (hs1 : sets ≤ 1000) (hlen : L.length < 100) : Calls Try.prog 9 #[.pointer (some ⟨p, 0, none⟩), .string k, .int .i64 n] w1 (SetS w w1 p mb hv L sets k n) := by
  refine (set_any h.q k hk n h0 h1 hs0 hs1 hlen).mono ?_
  rintro e w' ⟨rfl, hv', q, f, t⟩
  refine ⟨rfl, hv', ⟨q, fun j hj => ?_, h.b.trans (t.below h.b.size h.f)⟩, t⟩
  rcases f j hj with h1 | h1
  · exact h.f j h1
  · have := h.b.size; omega
def DueS (w w1 : World) (p mb : Nat) (hv : Value) (L : List It) (sets n : Int) (e : Ending) (w' : World) : Prop := ∃ v, e = .returned v ∧ ∃ hv', QS w w' p mb hv' (L.dropWhile (soon n)) sets ∧ RowT w' v (keysL (L.takeWhile (soon n))) ∧ (∀ i, v.ownBlock = some i → w.heap.size ≤ i) ∧ (∀ i, v.ownBlock = some i → i ∉ Foot p mb hv') ∧ Foot p mb hv' = Foot p mb hv ∧ Touch (Foot p mb hv) w1 w'
theorem due_qs (h : QS w w1 p mb hv L sets) (n : Int) : Calls Try.prog 14 #[.pointer (some ⟨p, 0, none⟩), .int .i64 n] w1 (DueS w w1 p mb hv L sets n) := by
  refine (due_any h.q n).mono ?_
  rintro e w' ⟨v, rfl, hv', r, q, o, t, m⟩
  refine ⟨v, rfl, hv', ⟨q, fun j hj => h.f j (by rw [foot_own o] at hj; exact hj), h.b.trans (t.below h.b.size h.f)⟩, r, fun i hi => Nat.le_trans h.b.size (m i hi), fun i hi hm => ?_, foot_own o, t⟩
  rw [foot_own o] at hm
  have h1 := h.q.foot_lt i hm
  have h2 := m i hi
  omega
def DropS (w w1 : World) (p mb : Nat) (hv : Value) (L : List It) (sets : Int) (k : ByteArray) (e : Ending) (w' : World) : Prop := e = .returned (.bool (hasL L k)) ∧ ∃ hv', QS w w' p mb hv' (dropL L k) sets ∧ Foot p mb hv' = Foot p mb hv ∧ Touch (Foot p mb hv) w1 w'
theorem drop_qs (h : QS w w1 p mb hv L sets) (k : ByteArray) (hk : goodS k) : Calls Try.prog 11 #[.pointer (some ⟨p, 0, none⟩), .string k] w1 (DropS w w1 p mb hv L sets k) := by
  refine (drop_any h.q k hk).mono ?_
  rintro e w' ⟨rfl, hv', q, o, t⟩
  exact ⟨rfl, hv', ⟨q, fun j hj => h.f j (by rw [foot_own o] at hj; exact hj), h.b.trans (t.below h.b.size h.f)⟩, foot_own o, t⟩
end
set_option maxHeartbeats 4000000 in
theorem known_any (w : World) : Calls Try.prog 23 #[] w fun e w' => e = .returned (.bool true) ∧ Below w.heap.size w w' := by
  have HNEW := Lib.hid (new_qs w)
  go_enter Try.func23, Try.ntmps23
  repeat (first | go_step3 | go_values | go_skip | go_guarded | go_step | go_upon)
  (go_at_call 8; refine HNEW.out.mono ?_; rintro e w1 ⟨p, rfl, mb, hv0, q0⟩; have Q0 := Lib.hid q0; clear q0; dsimp only)
  have C1 := Lib.hid (set_qs Q0.out kA gA 5 (by omega) (by omega) (by omega) (by omega) (by simp))
  repeat (first | go_step3 | go_values | go_skip | go_guarded | go_step | go_upon)
  (go_at_call 9; refine C1.out.mono ?_; rintro e w2 ⟨rfl, hv1, q1, t1⟩; have Q1 := Lib.hid q1; have T1 := Lib.hid t1; clear q1 t1; dsimp only)
  have Q1 : Hid (QS w w2 p mb hv1 M1 (0 + 1)) := Q1
  have C2 := Lib.hid (set_qs Q1.out kB gB 3 (by omega) (by omega) (by omega) (by omega) (by rw [M1_len]; omega))
  repeat (first | go_step3 | go_values | go_skip | go_guarded | go_step | go_upon)
  (go_at_call 9; refine C2.out.mono ?_; rintro e w3 ⟨rfl, hv2, q2, t2⟩; have Q2 := Lib.hid q2; have T2 := Lib.hid t2; clear q2 t2; dsimp only)
  have Q2 : Hid (QS w w3 p mb hv2 M2 (0 + 1 + 1)) := Q2
  have C3 := Lib.hid (set_qs Q2.out kC gC 5 (by omega) (by omega) (by omega) (by omega) (by rw [M2_len]; omega))
  repeat (first | go_step3 | go_values | go_skip | go_guarded | go_step | go_upon)
  (go_at_call 9; refine C3.out.mono ?_; rintro e w4 ⟨rfl, hv3, q3, t3⟩; have Q3 := Lib.hid q3; have T3 := Lib.hid t3; clear q3 t3; dsimp only)
  have Q3 : Hid (QS w w4 p mb hv3 M3 (0 + 1 + 1 + 1)) := Q3
  have C4 := Lib.hid (set_bad Q3.out.q kD (-1) (by omega))
  repeat (first | go_step3 | go_values | go_skip | go_guarded | go_step | go_upon)
  (go_at_call 9; refine C4.out.mono ?_; rintro e w5 ⟨rfl, rfl⟩; dsimp only)
  have C5 := Lib.hid (due_qs Q3.out 4)
  repeat (first | go_step3 | go_values | go_skip | go_guarded | go_step | go_upon)
  (go_at_call 14; refine C5.out.mono ?_; rintro e w6 ⟨v, rfl, hv5, q5, r5, n5, m5, f5, t5⟩; have Q5 : Hid (QS w w6 p mb hv5 M4 (0 + 1 + 1 + 1)) := Lib.hid q5; have R5 := Lib.hid r5; have M5' := Lib.hid m5; clear q5 r5 n5 m5 f5 t5; dsimp only)
  have C6 := Lib.hid (next_ql Q5.out.q)
  rw [m_next] at C6
  repeat (first | go_step3 | go_values | go_skip | go_guarded | go_step | go_upon)
  (go_at_call 19; refine C6.out.mono ?_; rintro e w7 ⟨rfl, rfl⟩; dsimp only)
  have C7 := Lib.hid (set_qs Q5.out kA gA 5 (by omega) (by omega) (by omega) (by omega) (by rw [M4_len]; omega))
  repeat (first | go_step3 | go_values | go_skip | go_guarded | go_step | go_upon)
  (go_at_call 9; refine C7.out.mono ?_; rintro e w8 ⟨rfl, hv7, q7, t7⟩; have Q7 : Hid (QS w w8 p mb hv7 M5 (0 + 1 + 1 + 1 + 1)) := Lib.hid q7; have R7 := Lib.hid (R5.out.touch t7 M5'.out); clear q7 t7; dsimp only)
  have C8 := Lib.hid (at_ql Q7.out.q kC gC)
  rw [m_at] at C8
  repeat (first | go_step3 | go_values | go_skip | go_guarded | go_step | go_upon)
  (go_at_call 17; refine C8.out.mono ?_; rintro e w9 ⟨rfl, rfl⟩; dsimp only)
  repeat (first | go_step3 | go_values | go_skip | go_guarded | go_step | go_upon)
  have A9 : Hid (QS w (w9.alloc (.cells #[.string kB] 9)) p mb hv7 M5 (0 + 1 + 1 + 1 + 1)) := Lib.hid (Q7.out.below (((Touch.refl [] w9).alloc _).below (Nat.le_refl _) (by simp)))
  have B9 : Hid (RowT (w9.alloc (.cells #[.string kB] 9)) v [kB]) := Lib.hid (by
    have := R7.out.touch ((Touch.refl [] w9).alloc (.cells #[.string kB] 9)) (by simp)
    rw [m_due] at this
    exact this)
  have D9 := Lib.hid (texts_any B9.out (row1 (heap_alloc_new w9 (.cells #[.string kB] 9))) (by simp))
  rw [show (decide ([kB] = [kB])) = true from rfl] at D9
  (go_at_call 13; refine D9.out.mono ?_; rintro e w10 ⟨rfl, b10⟩; have Q10 := Lib.hid (A9.out.below b10); clear b10; dsimp only)
  have D10 := Lib.hid (ekeys_any Q10.out.q)
  repeat (first | go_step3 | go_values | go_skip | go_guarded | go_step | go_upon)
  (go_at_call 21; refine D10.out.mono ?_; rintro e w11 ⟨v2, rfl, r11, b11, n11⟩; have Q11 := Lib.hid (Q10.out.below b11); have R11 := Lib.hid r11; clear r11 b11 n11; dsimp only)
  repeat (first | go_step3 | go_values | go_skip | go_guarded | go_step | go_upon)
  have A11 : Hid (QS w (w11.alloc (.cells #[.string kC, .string kA] 9)) p mb hv7 M5 (0 + 1 + 1 + 1 + 1)) := Lib.hid (Q11.out.below (((Touch.refl [] w11).alloc _).below (Nat.le_refl _) (by simp)))
  have B11 : Hid (RowT (w11.alloc (.cells #[.string kC, .string kA] 9)) v2 [kC, kA]) := Lib.hid (by
    have := R11.out.touch ((Touch.refl [] w11).alloc (.cells #[.string kC, .string kA] 9)) (by simp)
    rw [m_keys] at this
    exact this)
  have D11 := Lib.hid (texts_any B11.out (row2 (heap_alloc_new w11 (.cells #[.string kC, .string kA] 9))) (by simp))
  rw [show (decide ([kC, kA] = [kC, kA])) = true from by decide] at D11
  (go_at_call 13; refine D11.out.mono ?_; rintro e w12 ⟨rfl, b12⟩; have Q12 := Lib.hid (A11.out.below b12); clear b12; dsimp only)
  have D12 := Lib.hid (drop_qs Q12.out kC gC)
  unfold DropS at D12
  rw [m_drop] at D12
  repeat (first | go_step3 | go_values | go_skip | go_guarded | go_step | go_upon)
  (go_at_call 11; refine D12.out.mono ?_; rintro e w13 ⟨rfl, hv13, q13, _, _⟩; have Q13 := Lib.hid q13; clear q13; dsimp only)
  have D13 := Lib.hid (drop_qs Q13.out kC gC)
  unfold DropS at D13
  rw [m_drop2] at D13
  repeat (first | go_step3 | go_values | go_skip | go_guarded | go_step | go_upon)
  (go_at_call 11; refine D13.out.mono ?_; rintro e w14 ⟨rfl, hv14, q14, _, _⟩; have Q14 := Lib.hid q14; clear q14; dsimp only)
  repeat (first | go_step3 | go_values | go_skip | go_guarded | go_step | go_upon)
  go_ret
  exact ⟨rfl, Q14.out.b⟩
end Go.Proofs.Ythafopnaecbjdaa
