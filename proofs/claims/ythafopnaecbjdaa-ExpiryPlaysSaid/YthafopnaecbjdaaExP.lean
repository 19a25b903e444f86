/- Keys with deadlines in a heap, beside the same in order, in plain words. No program in sight. -/
import Derived.Test.YthafopnaecbjdaaExS
namespace Go.Proofs.Ythafopnaecbjdaa
open Hp

structure It where
  key : ByteArray
  at_ : Int
  num : Int
def z0 : It := ⟨⟨#[]⟩, 0, 0⟩
def ltI (a b : It) : Bool := decide (a.at_ < b.at_ ∨ a.at_ = b.at_ ∧ a.num < b.num)
theorem ltI_iff (a b : It) : ltI a b = true ↔ a.at_ < b.at_ ∨ a.at_ = b.at_ ∧ a.num < b.num := by unfold ltI; exact decide_eq_true_iff
theorem leI_iff (a b : It) : le ltI a b ↔ ¬ (b.at_ < a.at_ ∨ b.at_ = a.at_ ∧ b.num < a.num) := by unfold le ltI; exact decide_eq_false_iff_not
theorem trI : ∀ a b c : It, le ltI a b → le ltI b c → le ltI a c := by
  intro a b c h1 h2
  rw [leI_iff] at *
  omega
theorem asyI : ∀ a b : It, ltI a b = true → le ltI a b := by
  intro a b h
  rw [leI_iff]
  rw [ltI_iff] at h
  omega
theorem reflI (a : It) : le ltI a a := by rw [leI_iff]; omega
/-- In order: strictly, by deadlines, then by when they were set. -/
def Ord (L : List It) : Prop := L.Pairwise fun a b => ltI a b = true
abbrev HpI (H : List It) : Prop := Heap z0 ltI H
def atI (H : List It) (j : Nat) : It := Hp.at_ z0 H j
def remI (H : List It) (i : Nat) : List It := remF z0 ltI H.length H i
def pushI (H : List It) (x : It) : List It := upF z0 ltI H.length (H ++ [x]) H.length
theorem remI_ok {H : List It} (h : HpI H) {i : Nat} (hi : i < H.length) : HpI (remI H i) ∧ H.Perm (atI H i :: remI H i) := rem_ok z0 ltI trI asyI H h i hi H.length (Nat.le_refl _)
theorem pushI_ok {H : List It} (h : HpI H) (x : It) : HpI (pushI H x) ∧ (pushI H x).Perm (H ++ [x]) := push_ok z0 ltI trI asyI H x h H.length (Nat.le_refl _)
/-- The first one in order is the heap's first. -/
theorem head_ok {H : List It} {y : It} {r : List It} (h : HpI H) (hp : H.Perm (y :: r)) (ho : Ord (y :: r)) : 0 < H.length ∧ atI H 0 = y := by
  have hl : H.length = r.length + 1 := by rw [hp.length_eq]; rfl
  have h0 : 0 < H.length := by omega
  refine ⟨h0, ?_⟩
  have hm : atI H 0 ∈ y :: r := hp.subset (by unfold atI; rw [at_lt z0 H 0 h0]; exact List.getElem_mem h0)
  obtain ⟨j, hj, hy⟩ := List.getElem_of_mem (hp.symm.subset (List.mem_cons_self (a := y) (l := r)))
  have hle := min_ok z0 ltI trI H h reflI j hj
  rw [at_lt z0 H j hj, hy] at hle
  rcases List.mem_cons.1 hm with e | e
  · exact e
  · have hlt := (List.pairwise_cons.1 ho).1 _ e
    have hle : le ltI (atI H 0) y := hle
    unfold le at hle
    rw [hle] at hlt
    cases hlt
theorem Ord.tail {y : It} {r : List It} (h : Ord (y :: r)) : Ord r := (List.pairwise_cons.1 h).2
theorem perm_tail {H : List It} {y : It} {r : List It} (h : HpI H) (hp : H.Perm (y :: r)) (ho : Ord (y :: r)) : (remI H 0).Perm r := by
  obtain ⟨h0, e⟩ := head_ok h hp ho
  have := (remI_ok h h0).2
  rw [e] at this
  exact (List.perm_cons y).1 (this.symm.trans hp)
/-- What is due: the first ones go, while their time has come. -/
def dueI (now : Int) : Nat → List It → List It × List It
  | 0, H => ([], H)
  | f + 1, H => if 0 < H.length ∧ (atI H 0).at_ ≤ now then ((atI H 0) :: (dueI now f (remI H 0)).1, (dueI now f (remI H 0)).2) else ([], H)
theorem due_ok (now : Int) : ∀ (L : List It) (f : Nat) (H : List It), HpI H → H.Perm L → Ord L → L.length ≤ f → (dueI now f H).1 = L.takeWhile (fun x => decide (x.at_ ≤ now)) ∧ HpI (dueI now f H).2 ∧ (dueI now f H).2.Perm (L.dropWhile fun x => decide (x.at_ ≤ now))
  | [], f, H, h, hp, _, _ => by
    have h0 : H.length = 0 := by rw [hp.length_eq]; rfl
    cases f with
    | zero => exact ⟨rfl, h, hp⟩
    | succ f =>
      unfold dueI
      rw [if_neg (by omega)]
      exact ⟨rfl, h, hp⟩
  | y :: r, f, H, h, hp, ho, hf => by
    cases f with
    | zero => simp at hf
    | succ f =>
      obtain ⟨h0, e⟩ := head_ok h hp ho
      unfold dueI
      by_cases hc : y.at_ ≤ now
      · rw [if_pos ⟨h0, by rw [e]; exact hc⟩, List.takeWhile_cons, List.dropWhile_cons, if_pos (by simpa using hc), if_pos (by simpa using hc)]
        obtain ⟨a, b, c⟩ := due_ok now r f (remI H 0) (remI_ok h h0).1 (perm_tail h hp ho) ho.tail (by simp at hf; omega)
        exact ⟨by rw [e, a], b, c⟩
      · rw [if_neg (fun hh => hc (by rw [← e]; exact hh.2)), List.takeWhile_cons, List.dropWhile_cons, if_neg (by simpa using hc), if_neg (by simpa using hc)]
        exact ⟨rfl, h, hp⟩
/-- One more, set last: behind all that are due no later. -/
def insI (L : List It) (x : It) : List It := L.takeWhile (fun y => decide (y.at_ ≤ x.at_)) ++ x :: L.dropWhile (fun y => decide (y.at_ ≤ x.at_))
theorem ins_perm (L : List It) (x : It) : (insI L x).Perm (x :: L) := by
  unfold insI
  have := List.perm_middle (a := x) (l₁ := L.takeWhile (fun y => decide (y.at_ ≤ x.at_))) (l₂ := L.dropWhile (fun y => decide (y.at_ ≤ x.at_)))
  rw [List.takeWhile_append_dropWhile] at this
  exact this
theorem ins_ord : ∀ (L : List It) (x : It), Ord L → (∀ y ∈ L, y.num < x.num) → Ord (insI L x)
  | [], x, _, _ => List.pairwise_singleton _ _
  | y :: r, x, ho, hn => by
    obtain ⟨h1, h2⟩ := List.pairwise_cons.1 ho
    unfold insI
    rw [List.takeWhile_cons, List.dropWhile_cons]
    by_cases hc : y.at_ ≤ x.at_
    · rw [if_pos (by simpa using hc), if_pos (by simpa using hc)]
      have ih := ins_ord r x h2 (fun u hu => hn u (List.mem_cons_of_mem _ hu))
      refine List.pairwise_cons.2 ⟨fun u hu => ?_, ih⟩
      rcases List.mem_cons.1 ((ins_perm r x).subset hu) with rfl | hu
      · rw [ltI_iff]
        have := hn y List.mem_cons_self
        omega
      · exact h1 u hu
    · rw [if_neg (by simpa using hc), if_neg (by simpa using hc)]
      show Ord (x :: y :: r)
      refine List.pairwise_cons.2 ⟨fun u hu => ?_, ho⟩
      rw [ltI_iff]
      rcases List.mem_cons.1 hu with rfl | hu
      · omega
      · have := (ltI_iff y u).1 (h1 u hu)
        omega
theorem push_ins {H L : List It} (h : HpI H) (hp : H.Perm L) (x : It) : (pushI H x).Perm (insI L x) := by
  have h1 := (pushI_ok h x).2
  have h2 : (H ++ [x]).Perm (x :: L) := (List.perm_append_singleton x H).trans (List.Perm.cons x hp)
  exact (h1.trans h2).trans (ins_perm L x).symm
/-- One goes, wherever it stands. -/
theorem rem_filter {H L : List It} (h : HpI H) (hp : H.Perm L) (hk : L.Pairwise fun a b => a.key ≠ b.key) {i : Nat} (hi : i < H.length) : (remI H i).Perm (L.filter fun y => decide (y.key ≠ (atI H i).key)) := by
  obtain ⟨_, hr⟩ := remI_ok h hi
  have hkH : (atI H i :: remI H i).Pairwise fun a b => a.key ≠ b.key := ((hp.symm.trans hr).pairwise_iff (fun h => Ne.symm h)).1 hk
  obtain ⟨h1, h2⟩ := List.pairwise_cons.1 hkH
  have e : (atI H i :: remI H i).filter (fun y => decide (y.key ≠ (atI H i).key)) = remI H i := by
    rw [List.filter_cons, if_neg (by simp), List.filter_eq_self]
    intro y hy
    exact decide_eq_true (Ne.symm (h1 y hy))
  rw [← e]
  exact ((hp.symm.trans hr).filter _).symm
end Go.Proofs.Ythafopnaecbjdaa
