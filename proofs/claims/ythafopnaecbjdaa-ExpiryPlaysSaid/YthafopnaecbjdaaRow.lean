/- Rows of any elements in memory: the cells of an element (enc), k for each; reading them out of an argument. -/
import Derived.Test.YthafopnaecbjdaaRead
import Derived.Test.YthafopnaecbjdaaHeap
import Derived.Test.YthafopnaecbjdaaApp
import Derived.Deep.OwnRows
import Derived.WideShapes
import Derived.Test.YthafopnaecbjdaaProg
namespace Go.Proofs.Ythafopnaecbjdaa
open Go Go.RowKit

theorem add_plain (g o m : Nat) : (⟨g, o, none⟩ : Addr).add m = ⟨g, o + m, none⟩ := by unfold Addr.add; split <;> simp_all
section
variable {α : Type}
/-- The slice A of length n holds l, k cells for each. -/
def RowG (enc : α → List Value) (k : Nat) (w : World) (A : Option Addr) (n : Nat) (l : List α) : Prop :=
  n = l.length ∧ (n = 0 ∨ ∃ g o, A = some ⟨g, o, none⟩ ∧ g < w.heap.size ∧ ∀ (j : Nat) (x : α), l[j]? = some x → ∀ (i : Nat) (v : Value), (enc x)[i]? = some v → w.cell? ⟨g, o + j * k + i, none⟩ = some v)
variable {enc : α → List Value} {k : Nat} {w w' : World} {A : Option Addr} {n : Nat} {l : List α}
theorem RowG.len (h : RowG enc k w A n l) : n = l.length := h.1
theorem RowG.nil (A : Option Addr) : RowG enc k w A 0 [] := ⟨rfl, .inl rfl⟩
theorem RowG.kept {S : List Nat} (h : RowG enc k w A n l) (t : Touch S w w') (hs : ∀ a, A = some a → a.block ∉ S) : RowG enc k w' A n l := by
  obtain ⟨h1, h2⟩ := h
  refine ⟨h1, ?_⟩
  rcases h2 with h2 | ⟨g, o, rfl, hg, h2⟩
  · exact .inl h2
  · exact .inr ⟨g, o, rfl, Nat.lt_of_lt_of_le hg t.size, fun j x hj i v hv => t.cell (h2 j x hj i v hv) (hs ⟨g, o, none⟩ rfl)⟩
theorem RowG.keptX {S : List Nat} (h : RowG enc k w A n l) (t : Touch S w w') (hs : n = 0 ∨ ∀ a, A = some a → a.block ∉ S) : RowG enc k w' A n l := by
  rcases hs with h0 | hs
  · exact ⟨h.1, .inl h0⟩
  · exact h.kept t hs
theorem RowG.far (h : RowG enc k w A n l) {p : Nat} (hp : w.heap.size ≤ p) : n = 0 ∨ ∀ a, A = some a → a.block ≠ p := by
  rcases h.2 with h0 | ⟨g, o, rfl, hg, _⟩
  · exact .inl h0
  · refine .inr fun a ha => ?_
    cases ha
    show g ≠ p
    omega
theorem RowG.kept0 (h : RowG enc k w A n l) (t : Touch [] w w') : RowG enc k w' A n l := h.kept t (by simp)
/-- What was there at the start stays. -/
theorem RowG.below (h : RowG enc k w A n l) (b : Below w.heap.size w w') : RowG enc k w' A n l := by
  obtain ⟨h1, h2⟩ := h
  refine ⟨h1, ?_⟩
  rcases h2 with h2 | ⟨g, o, rfl, hg, h2⟩
  · exact .inl h2
  · exact .inr ⟨g, o, rfl, Nat.lt_of_lt_of_le hg b.size, fun j x hj i v hv => (b.cell (p := ⟨g, o + j * k + i, none⟩) hg).trans (h2 j x hj i v hv)⟩
theorem RowG.at (h : RowG enc k w A n l) {j : Nat} (hj : j < n) : ∃ g o x, A = some ⟨g, o, none⟩ ∧ g < w.heap.size ∧ l[j]? = some x ∧ x ∈ l ∧ l.take (j + 1) = l.take j ++ [x] ∧ ∀ (i : Nat) (v : Value), (enc x)[i]? = some v → w.cell? ⟨g, o + j * k + i, none⟩ = some v := by
  obtain ⟨h1, h2⟩ := h
  rcases h2 with h2 | ⟨g, o, rfl, hg, h2⟩
  · omega
  · have hjl : j < l.length := by omega
    exact ⟨g, o, l[j], rfl, hg, List.getElem?_eq_getElem hjl, List.getElem_mem hjl, by rw [List.take_succ_eq_append_getElem hjl], h2 j _ (List.getElem?_eq_getElem hjl)⟩
theorem flat_at (hk : ∀ x, (enc x).length = k) : ∀ {l : List α} {j : Nat} {x : α}, l[j]? = some x → ∀ {i : Nat} {v : Value}, (enc x)[i]? = some v → (l.flatMap enc)[j * k + i]? = some v := by
  intro l
  induction l with
  | nil => intro j x h; simp at h
  | cons y l ih =>
    intro j x h i v hv
    rw [List.flatMap_cons]
    cases j with
    | zero =>
      simp only [List.getElem?_cons_zero, Option.some.injEq] at h
      subst h
      have hi := (List.getElem?_eq_some_iff.1 hv).1
      rw [Nat.zero_mul, Nat.zero_add, List.getElem?_append_left hi]
      exact hv
    | succ j =>
      simp only [List.getElem?_cons_succ] at h
      have e : (j + 1) * k + i = (enc y).length + (j * k + i) := by rw [hk y, Nat.succ_mul]; omega
      rw [e, List.getElem?_append_right (by omega)]
      rw [Nat.add_sub_cancel_left]
      exact ih h hv
theorem flat_len (hk : ∀ x, (enc x).length = k) (l : List α) : (l.flatMap enc).length = l.length * k := by
  induction l with
  | nil => simp
  | cons y l ih => rw [List.flatMap_cons, List.length_append, ih, hk y, List.length_cons, Nat.succ_mul, Nat.add_comm]
theorem RowG.of_own {base N cp : Nat} {e : TypeId} (hk : ∀ x, (enc x).length = k) (hk0 : 0 < k) (h : w.ownsRow base e k (.slice A N cp) N (l.flatMap enc)) : RowG enc k w A N l := by
  have hl : N = l.length := by
    have h1 := h.1
    rw [flat_len hk] at h1
    exact (Nat.eq_of_mul_eq_mul_right hk0 h1).symm
  refine ⟨hl, ?_⟩
  have hc := fun g => h.cells (g := g)
  rcases h.2 with ⟨h0, h1⟩ | ⟨g, cap, cur, hv, _, hh, _⟩
  · cases h0; exact .inl h1
  · cases hv
    refine .inr ⟨g, 0, rfl, heap_lt hh, fun j x hj i v hv => ?_⟩
    have := hc g rfl (j * k + i) v (flat_at hk hj hv)
    rw [add_plain] at this
    rw [Nat.add_assoc]
    exact this
theorem RowG.src (hk : ∀ x, (enc x).length = k) (h : RowG enc k w A n l) : Src w A n k (l.flatMap enc) := by
  obtain ⟨h1, h2⟩ := h
  rcases h2 with h0 | ⟨g, o, rfl, _, h2⟩
  · subst h0
    have hl := List.eq_nil_of_length_eq_zero h1.symm
    subst hl
    cases A with
    | none => exact .inl ⟨rfl, rfl, rfl⟩
    | some a => exact .inr ⟨a, rfl, by simp, fun j u hu => by simp at hu⟩
  · refine .inr ⟨_, rfl, by rw [flat_len hk, h1], fun j u hu => ?_⟩
    have hj := (List.getElem?_eq_some_iff.1 hu).1
    rw [flat_len hk] at hj
    have hk0 : 0 < k := by
      rcases Nat.eq_zero_or_pos k with h0 | h0
      · subst h0; simp at hj
      · exact h0
    have hq : j / k < l.length := (Nat.div_lt_iff_lt_mul hk0).2 hj
    have hm := Nat.div_add_mod j k
    have hml := Nat.mod_lt j hk0
    have hx := List.getElem?_eq_getElem hq
    obtain ⟨v, hv⟩ : ∃ v, (enc (l[j / k]'hq))[j % k]? = some v := ⟨(enc (l[j / k]'hq))[j % k]'(by rw [hk]; exact hml), List.getElem?_eq_getElem (by rw [hk]; exact hml)⟩
    have e : j / k * k + j % k = j := by rw [Nat.mul_comm]; exact hm
    have h3 := flat_at hk hx hv
    rw [e, hu] at h3
    cases h3
    rw [add_plain]
    have h4 := h2 _ _ hx _ _ hv
    rwa [Nat.add_assoc, e] at h4
/-- An argument's row. -/
theorem RowG.of_rd {P : Program} {t e : TypeId} {m : Nat} {cs : List Value} {G : α → Prop} (hu : P.underlying t = some (.slice e)) (hk : P.cellsOf e = k) (hk0 : 0 < k)
    (dec : ∀ (m : Nat) (cs' : List Value), Rd P w m e cs' → ∃ x, cs' = enc x ∧ G x) (h : Rd P w m t cs) :
    ∃ A n cp l, cs = [.slice A n cp] ∧ RowG enc k w A n l ∧ (∀ x ∈ l, G x) ∧ n ≤ cp ∧ cp ≤ maxLen ∧ n * P.bytesOf e ≤ 140737488351232 := by
  rcases h.slice hu with h0 | ⟨a, len, cap, m', h0, hl, hc, hb, hx⟩
  · exact ⟨none, 0, 0, [], h0, .nil _, by simp, by decide, by decide, by simp⟩
  · rw [hk] at hx
    by_cases hz : len = 0
    · subst hz
      exact ⟨some a, 0, cap, [], h0, .nil _, by simp, hl, hc, by simp⟩
    have hK : ∀ i : Nat, ∃ x : Option α, i < len → ∃ x', x = some x' ∧ w.cells? 0 (a.add (i * k)) k = some (enc x') ∧ G x' := fun i => by
      by_cases hi : i < len
      · obtain ⟨cs', h1, h2⟩ := hx i hi
        obtain ⟨x, rfl, hs⟩ := dec _ _ h2
        exact ⟨some x, fun _ => ⟨x, rfl, h1, hs⟩⟩
      · exact ⟨none, fun h => absurd h hi⟩
    obtain ⟨K, hK⟩ := Classical.axiomOfChoice hK
    obtain ⟨x0, _, h00, _⟩ := hK 0 (by omega)
    have h01 := (World.cells?_some h00).2.2 0 hk0
    have hlen0 := (World.cells?_some h00).2.1
    obtain ⟨g, o, rfl⟩ : ∃ g o, a = ⟨g, o, none⟩ := by
      obtain ⟨g, o, sp⟩ := a
      cases sp with
      | none => exact ⟨g, o, rfl⟩
      | some q =>
        have h02 : (⟨g, o, some q⟩ : Addr).add (0 * k) = ⟨g, o, some q⟩ := by simp [Addr.add]
        rw [h02] at h01
        have : (Addr.mk g o (some q)).add 0 = ⟨g, o, some q⟩ := by simp [Addr.add]
        rw [this] at h01
        rw [List.getElem?_eq_getElem (by omega)] at h01
        simp only [World.cell?, Option.isSome_some, if_true] at h01
        split at h01 <;> cases h01
    have hgl : g < w.heap.size := by
      have h1 := h01
      rw [List.getElem?_eq_getElem (by omega)] at h1
      have := World.block_lt_of_cell? w _ h1
      simpa [add_plain] using this
    have hsome : ∀ i, i < len → ∃ x, K i = some x ∧ w.cells? 0 (⟨g, o + i * k, none⟩ : Addr) k = some (enc x) ∧ G x := fun i hi => by
      obtain ⟨x, h1, h2, h3⟩ := hK i hi
      rw [add_plain] at h2
      exact ⟨x, h1, h2, h3⟩
    have hfm : ∀ i, i < len → ((List.range len).filterMap K)[i]? = K i := by
      have : ∀ m, m ≤ len → (List.range m).filterMap K = (List.range m).filterMap K ∧ ((List.range m).filterMap K).length = m ∧ ∀ i, i < m → ((List.range m).filterMap K)[i]? = K i := by
        intro m
        induction m with
        | zero => intro _; simp
        | succ m ih =>
          intro hm
          obtain ⟨_, h1, h2⟩ := ih (by omega)
          obtain ⟨x, hx1, _⟩ := hsome m (by omega)
          rw [List.range_succ, List.filterMap_append]
          have e : [m].filterMap K = [x] := by simp [hx1]
          rw [e]
          refine ⟨rfl, by simp [h1], fun i hi => ?_⟩
          by_cases him : i < m
          · rw [List.getElem?_append_left (by omega)]; exact h2 i him
          · have : i = m := by omega
            subst this
            rw [List.getElem?_append_right (by omega), h1, Nat.sub_self, hx1]; rfl
      exact (this len (Nat.le_refl _)).2.2
    have hlen : ((List.range len).filterMap K).length = len := by
      refine Nat.le_antisymm (Nat.le_trans (List.length_filterMap_le _ _) (by simp)) ?_
      refine Classical.byContradiction fun hn => ?_
      have hlt : ((List.range len).filterMap K).length < len := by omega
      have h1 := hfm _ hlt
      obtain ⟨x, h2, _⟩ := hsome _ hlt
      rw [h2, List.getElem?_eq_none (Nat.le_refl _)] at h1
      cases h1
    refine ⟨some ⟨g, o, none⟩, len, cap, (List.range len).filterMap K, h0, ⟨hlen.symm, .inr ⟨g, o, rfl, hgl, fun j x hj i v hv => ?_⟩⟩, fun x hx => ?_, hl, hc, hb⟩
    · have hjl : j < len := by have := (List.getElem?_eq_some_iff.1 hj).1; omega
      obtain ⟨x', h1, h2, _⟩ := hsome j hjl
      rw [hfm j hjl, h1] at hj
      cases hj
      obtain ⟨_, h4, h5⟩ := World.cells?_some h2
      have hi := (List.getElem?_eq_some_iff.1 hv).1
      have := h5 i (by omega)
      rw [add_plain] at this
      rw [this, hv]
    · obtain ⟨j, hj⟩ := List.mem_iff_getElem?.1 hx
      have hjl : j < len := by have := (List.getElem?_eq_some_iff.1 hj).1; omega
      obtain ⟨x', h1, _, h3⟩ := hsome j hjl
      rw [hfm j hjl, h1] at hj
      cases hj
      exact h3
end

/-! ### texts and numbers -/
def strC (s : ByteArray) : List Value := [.string s]
def intC (n : Int) : List Value := [.int .i64 n]
def TextSz (s : ByteArray) : Prop := s.size ≤ 140737488351232
theorem strs_of_rd {w : World} {m : Nat} {cs : List Value} (h : Rd Try.prog w m 35 cs) : ∃ A n cp l, cs = [.slice A n cp] ∧ RowG strC 1 w A n l ∧ (∀ x ∈ l, TextSz x) ∧ n ≤ cp ∧ cp ≤ maxLen ∧ n * Try.prog.bytesOf 9 ≤ 140737488351232 :=
  RowG.of_rd Try.underlying35 (by kernel_rfl) (by decide) (fun m cs' h => by
    obtain ⟨s, rfl, hs⟩ := h.str Try.underlying9
    exact ⟨s, rfl, hs⟩) h
theorem str_of_arg {w : World} {m base : Nat} {v : Value} (hv : Value.okWide Try.prog w .any base 35 v) (h : Rd Try.prog w m 35 v.cells.toList) :
    ∃ A n cp l, v = .slice A n cp ∧ RowG strC 1 w A n l ∧ (∀ x ∈ l, TextSz x) ∧ n ≤ cp ∧ cp ≤ maxLen := by
  obtain ⟨A, n, cp, rfl⟩ := Go.WideShapes.okWide_slice Try.underlying35 hv
  obtain ⟨A', n', cp', l, he, h1, h2, h3, h4, _⟩ := strs_of_rd h
  simp [Value.cells] at he
  obtain ⟨rfl, rfl, rfl⟩ := he
  exact ⟨A, n, cp, l, rfl, h1, h2, h3, h4⟩
end Go.Proofs.Ythafopnaecbjdaa
