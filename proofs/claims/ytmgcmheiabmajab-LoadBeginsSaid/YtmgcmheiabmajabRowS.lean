/- Rows of any elements in memory (the part that wants no maps, no appends). -/
import Derived.Test.YtmgcmheiabmajabHeap
import Derived.Deep.OwnRows
namespace Go.Proofs.Ytmgcmheiabmajab
open Go Go.RowKit

theorem add_plain (g o m : Nat) : (⟨g, o, none⟩ : Addr).add m = ⟨g, o + m, none⟩ := by unfold Addr.add; split <;> simp_all
section
variable {α : Type}
/-- The slice A of length n holds l, k cells for each. -/
def RowG (enc : α → List Value) (k : Nat) (w : World) (A : Option Addr) (n : Nat) (l : List α) : Prop :=
  n = l.length ∧ (n = 0 ∨ ∃ g o, A = some ⟨g, o, none⟩ ∧ g < w.heap.size ∧ ∀ (j : Nat) (x : α), l[j]? = some x → ∀ (i : Nat) (v : Value), (enc x)[i]? = some v → w.cell? ⟨g, o + j * k + i, none⟩ = some v)
variable {enc : α → List Value} {k : Nat} {w w' : World} {A : Option Addr} {n : Nat} {l : List α}
theorem RowG.len (h : RowG enc k w A n l) : n = l.length := h.1
theorem RowG.nil (A : Option Addr) : RowG enc k w A 0 [] := ⟨rfl, .inl rfl⟩
theorem RowG.kept {S : List Nat} (h : RowG enc k w A n l) (t : Touch S w w') (hs : ∀ a, A = some a → a.block ∉ S) : RowG enc k w' A n l := by
  obtain ⟨h1, h2⟩ := h
  refine ⟨h1, ?_⟩
  rcases h2 with h2 | ⟨g, o, rfl, hg, h2⟩
  · exact .inl h2
  · exact .inr ⟨g, o, rfl, Nat.lt_of_lt_of_le hg t.size, fun j x hj i v hv => t.cell (h2 j x hj i v hv) (hs ⟨g, o, none⟩ rfl)⟩
theorem RowG.keptX {S : List Nat} (h : RowG enc k w A n l) (t : Touch S w w') (hs : n = 0 ∨ ∀ a, A = some a → a.block ∉ S) : RowG enc k w' A n l := by
  rcases hs with h0 | hs
  · exact ⟨h.1, .inl h0⟩
  · exact h.kept t hs
theorem RowG.far (h : RowG enc k w A n l) {p : Nat} (hp : w.heap.size ≤ p) : n = 0 ∨ ∀ a, A = some a → a.block ≠ p := by
  rcases h.2 with h0 | ⟨g, o, rfl, hg, _⟩
  · exact .inl h0
  · refine .inr fun a ha => ?_
    cases ha
    show g ≠ p
    omega
theorem RowG.kept0 (h : RowG enc k w A n l) (t : Touch [] w w') : RowG enc k w' A n l := h.kept t (by simp)
/-- What was there at the start stays. -/
theorem RowG.below (h : RowG enc k w A n l) (b : Below w.heap.size w w') : RowG enc k w' A n l := by
  obtain ⟨h1, h2⟩ := h
  refine ⟨h1, ?_⟩
  rcases h2 with h2 | ⟨g, o, rfl, hg, h2⟩
  · exact .inl h2
  · exact .inr ⟨g, o, rfl, Nat.lt_of_lt_of_le hg b.size, fun j x hj i v hv => (b.cell (p := ⟨g, o + j * k + i, none⟩) hg).trans (h2 j x hj i v hv)⟩
theorem RowG.at (h : RowG enc k w A n l) {j : Nat} (hj : j < n) : ∃ g o x, A = some ⟨g, o, none⟩ ∧ g < w.heap.size ∧ l[j]? = some x ∧ x ∈ l ∧ l.take (j + 1) = l.take j ++ [x] ∧ ∀ (i : Nat) (v : Value), (enc x)[i]? = some v → w.cell? ⟨g, o + j * k + i, none⟩ = some v := by
  obtain ⟨h1, h2⟩ := h
  rcases h2 with h2 | ⟨g, o, rfl, hg, h2⟩
  · omega
  · have hjl : j < l.length := by omega
    exact ⟨g, o, l[j], rfl, hg, List.getElem?_eq_getElem hjl, List.getElem_mem hjl, by rw [List.take_succ_eq_append_getElem hjl], h2 j _ (List.getElem?_eq_getElem hjl)⟩
theorem flat_at (hk : ∀ x, (enc x).length = k) : ∀ {l : List α} {j : Nat} {x : α}, l[j]? = some x → ∀ {i : Nat} {v : Value}, (enc x)[i]? = some v → (l.flatMap enc)[j * k + i]? = some v := by
  intro l
  induction l with
  | nil => intro j x h; simp at h
  | cons y l ih =>
    intro j x h i v hv
    rw [List.flatMap_cons]
    cases j with
    | zero =>
      simp only [List.getElem?_cons_zero, Option.some.injEq] at h
      subst h
      have hi := (List.getElem?_eq_some_iff.1 hv).1
      rw [Nat.zero_mul, Nat.zero_add, List.getElem?_append_left hi]
      exact hv
    | succ j =>
      simp only [List.getElem?_cons_succ] at h
      have e : (j + 1) * k + i = (enc y).length + (j * k + i) := by rw [hk y, Nat.succ_mul]; omega
      rw [e, List.getElem?_append_right (by omega)]
      rw [Nat.add_sub_cancel_left]
      exact ih h hv
theorem flat_len (hk : ∀ x, (enc x).length = k) (l : List α) : (l.flatMap enc).length = l.length * k := by
  induction l with
  | nil => simp
  | cons y l ih => rw [List.flatMap_cons, List.length_append, ih, hk y, List.length_cons, Nat.succ_mul, Nat.add_comm]
theorem RowG.of_own {base N cp : Nat} {e : TypeId} (hk : ∀ x, (enc x).length = k) (hk0 : 0 < k) (h : w.ownsRow base e k (.slice A N cp) N (l.flatMap enc)) : RowG enc k w A N l := by
  have hl : N = l.length := by
    have h1 := h.1
    rw [flat_len hk] at h1
    exact (Nat.eq_of_mul_eq_mul_right hk0 h1).symm
  refine ⟨hl, ?_⟩
  have hc := fun g => h.cells (g := g)
  rcases h.2 with ⟨h0, h1⟩ | ⟨g, cap, cur, hv, _, hh, _⟩
  · cases h0; exact .inl h1
  · cases hv
    refine .inr ⟨g, 0, rfl, heap_lt hh, fun j x hj i v hv => ?_⟩
    have := hc g rfl (j * k + i) v (flat_at hk hj hv)
    rw [add_plain] at this
    rw [Nat.add_assoc]
    exact this
end
end Go.Proofs.Ytmgcmheiabmajab
