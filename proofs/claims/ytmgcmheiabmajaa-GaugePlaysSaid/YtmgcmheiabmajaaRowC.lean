/- Rows of any elements in memory: the cells of an element (enc), k for each; reading them out of an argument. -/
import Derived.Test.YtmgcmheiabmajaaRead
import Derived.Deep.OwnRows
import Derived.WideShapes
import Derived.Test.YtmgcmheiabmajaaProg
namespace Go.Proofs.Ytmgcmheiabmajaa
open Go Go.RowKit

theorem add_plain (g o m : Nat) : (⟨g, o, none⟩ : Addr).add m = ⟨g, o + m, none⟩ := by unfold Addr.add; split <;> simp_all
section
variable {α : Type}
/-- The slice A of length n holds l, k cells for each. -/
def RowG (enc : α → List Value) (k : Nat) (w : World) (A : Option Addr) (n : Nat) (l : List α) : Prop :=
  n = l.length ∧ (n = 0 ∨ ∃ g o, A = some ⟨g, o, none⟩ ∧ g < w.heap.size ∧ ∀ (j : Nat) (x : α), l[j]? = some x → ∀ (i : Nat) (v : Value), (enc x)[i]? = some v → w.cell? ⟨g, o + j * k + i, none⟩ = some v)
variable {enc : α → List Value} {k : Nat} {w w' : World} {A : Option Addr} {n : Nat} {l : List α}
theorem RowG.len (h : RowG enc k w A n l) : n = l.length := h.1
theorem RowG.nil (A : Option Addr) : RowG enc k w A 0 [] := ⟨rfl, .inl rfl⟩
/-- An argument's row. -/
theorem RowG.of_rd {P : Program} {t e : TypeId} {m : Nat} {cs : List Value} {G : α → Prop} (hu : P.underlying t = some (.slice e)) (hk : P.cellsOf e = k) (hk0 : 0 < k)
    (dec : ∀ (m : Nat) (cs' : List Value), Rd P w m e cs' → ∃ x, cs' = enc x ∧ G x) (h : Rd P w m t cs) :
    ∃ A n cp l, cs = [.slice A n cp] ∧ RowG enc k w A n l ∧ (∀ x ∈ l, G x) ∧ n ≤ cp ∧ cp ≤ maxLen ∧ n * P.bytesOf e ≤ 140737488351232 := by
  rcases h.slice hu with h0 | ⟨a, len, cap, m', h0, hl, hc, hb, hx⟩
  · exact ⟨none, 0, 0, [], h0, .nil _, by simp, by decide, by decide, by simp⟩
  · rw [hk] at hx
    by_cases hz : len = 0
    · subst hz
      exact ⟨some a, 0, cap, [], h0, .nil _, by simp, hl, hc, by simp⟩
    have hK : ∀ i : Nat, ∃ x : Option α, i < len → ∃ x', x = some x' ∧ w.cells? 0 (a.add (i * k)) k = some (enc x') ∧ G x' := fun i => by
      by_cases hi : i < len
      · obtain ⟨cs', h1, h2⟩ := hx i hi
        obtain ⟨x, rfl, hs⟩ := dec _ _ h2
        exact ⟨some x, fun _ => ⟨x, rfl, h1, hs⟩⟩
      · exact ⟨none, fun h => absurd h hi⟩
    obtain ⟨K, hK⟩ := Classical.axiomOfChoice hK
    obtain ⟨x0, _, h00, _⟩ := hK 0 (by omega)
    have h01 := (World.cells?_some h00).2.2 0 hk0
    have hlen0 := (World.cells?_some h00).2.1
    obtain ⟨g, o, rfl⟩ : ∃ g o, a = ⟨g, o, none⟩ := by
      obtain ⟨g, o, sp⟩ := a
      cases sp with
      | none => exact ⟨g, o, rfl⟩
      | some q =>
        have h02 : (⟨g, o, some q⟩ : Addr).add (0 * k) = ⟨g, o, some q⟩ := by simp [Addr.add]
        rw [h02] at h01
        have : (Addr.mk g o (some q)).add 0 = ⟨g, o, some q⟩ := by simp [Addr.add]
        rw [this] at h01
        rw [List.getElem?_eq_getElem (by omega)] at h01
        simp only [World.cell?, Option.isSome_some, if_true] at h01
        split at h01 <;> cases h01
    have hgl : g < w.heap.size := by
      have h1 := h01
      rw [List.getElem?_eq_getElem (by omega)] at h1
      have := World.block_lt_of_cell? w _ h1
      simpa [add_plain] using this
    have hsome : ∀ i, i < len → ∃ x, K i = some x ∧ w.cells? 0 (⟨g, o + i * k, none⟩ : Addr) k = some (enc x) ∧ G x := fun i hi => by
      obtain ⟨x, h1, h2, h3⟩ := hK i hi
      rw [add_plain] at h2
      exact ⟨x, h1, h2, h3⟩
    have hfm : ∀ i, i < len → ((List.range len).filterMap K)[i]? = K i := by
      have : ∀ m, m ≤ len → (List.range m).filterMap K = (List.range m).filterMap K ∧ ((List.range m).filterMap K).length = m ∧ ∀ i, i < m → ((List.range m).filterMap K)[i]? = K i := by
        intro m
        induction m with
        | zero => intro _; simp
        | succ m ih =>
          intro hm
          obtain ⟨_, h1, h2⟩ := ih (by omega)
          obtain ⟨x, hx1, _⟩ := hsome m (by omega)
          rw [List.range_succ, List.filterMap_append]
          have e : [m].filterMap K = [x] := by simp [hx1]
          rw [e]
          refine ⟨rfl, by simp [h1], fun i hi => ?_⟩
          by_cases him : i < m
          · rw [List.getElem?_append_left (by omega)]; exact h2 i him
          · have : i = m := by omega
            subst this
            rw [List.getElem?_append_right (by omega), h1, Nat.sub_self, hx1]; rfl
      exact (this len (Nat.le_refl _)).2.2
    have hlen : ((List.range len).filterMap K).length = len := by
      refine Nat.le_antisymm (Nat.le_trans (List.length_filterMap_le _ _) (by simp)) ?_
      refine Classical.byContradiction fun hn => ?_
      have hlt : ((List.range len).filterMap K).length < len := by omega
      have h1 := hfm _ hlt
      obtain ⟨x, h2, _⟩ := hsome _ hlt
      rw [h2, List.getElem?_eq_none (Nat.le_refl _)] at h1
      cases h1
    refine ⟨some ⟨g, o, none⟩, len, cap, (List.range len).filterMap K, h0, ⟨hlen.symm, .inr ⟨g, o, rfl, hgl, fun j x hj i v hv => ?_⟩⟩, fun x hx => ?_, hl, hc, hb⟩
    · have hjl : j < len := by have := (List.getElem?_eq_some_iff.1 hj).1; omega
      obtain ⟨x', h1, h2, _⟩ := hsome j hjl
      rw [hfm j hjl, h1] at hj
      cases hj
      obtain ⟨_, h4, h5⟩ := World.cells?_some h2
      have hi := (List.getElem?_eq_some_iff.1 hv).1
      have := h5 i (by omega)
      rw [add_plain] at this
      rw [this, hv]
    · obtain ⟨j, hj⟩ := List.mem_iff_getElem?.1 hx
      have hjl : j < len := by have := (List.getElem?_eq_some_iff.1 hj).1; omega
      obtain ⟨x', h1, _, h3⟩ := hsome j hjl
      rw [hfm j hjl, h1] at hj
      cases hj
      exact h3
end

/-! ### texts and numbers -/
end Go.Proofs.Ytmgcmheiabmajaa
