/- vers' law: its arguments, opened. -/
import Derived.Test.YtjmgookpmngmaacVeKn
import Derived.Test.YtjmgookpmngmaacRead
import Derived.WideShapes
namespace Go.Proofs.Ytjmgookpmngmaac
open Go Go.RowKit Go.Maps Go.WideShapes

/-- A row of texts among the arguments. -/
structure NamesA (w : World) (A : Option Addr) (n : Nat) (l : List ByteArray) : Prop where
  row : NamesI w A n l
  low : LowA w.heap.size [] A n
  size : ∀ s ∈ l, s.size ≤ 140737488351232
  len : n ≤ maxLen
theorem names_of_cells {w : World} {m : Nat} {cs : List Value} (h : Rd Try.prog w m 23 cs) : ∃ A n cp l, cs = [.slice A n cp] ∧ NamesA w A n l ∧ n ≤ cp ∧ cp ≤ maxLen := by
  rcases h.slice Try.underlying23 with h0 | ⟨a, len, cap, m', h0, hl, hc, _, hx⟩
  · exact ⟨none, 0, 0, [], h0, ⟨⟨rfl, .inl rfl⟩, .inl rfl, by simp, by decide⟩, by decide, by decide⟩
  · have c1 : Try.prog.cellsOf 9 = 1 := by kernel_rfl
    rw [c1] at hx
    by_cases hz : len = 0
    · subst hz
      exact ⟨some a, 0, cap, [], h0, ⟨⟨rfl, .inl rfl⟩, .inl rfl, by simp, by decide⟩, hl, hc⟩
    have hK : ∀ i, ∃ s : ByteArray, i < len → w.cell? (a.add (i * 1)) = some (.string s) ∧ s.size ≤ 140737488351232 := fun i => by
      by_cases hi : i < len
      · obtain ⟨cs', h1, h2⟩ := hx i hi
        obtain ⟨s, rfl, hs⟩ := h2.str Try.underlying9
        obtain ⟨_, _, hcell⟩ := World.cells?_some h1
        exact ⟨s, fun _ => ⟨hcell 0 (by decide), hs⟩⟩
      · exact ⟨⟨#[]⟩, fun h => absurd h hi⟩
    obtain ⟨K, hK⟩ := Classical.axiomOfChoice hK
    have h00 := (hK 0 (by omega)).1
    have hblk := World.block_lt_of_cell? w _ h00
    obtain ⟨g, o, rfl⟩ : ∃ g o, a = ⟨g, o, none⟩ := by
      obtain ⟨g, o, sp⟩ := a
      cases sp with
      | none => exact ⟨g, o, rfl⟩
      | some k =>
        have : (⟨g, o, some k⟩ : Addr).add (0 * 1) = ⟨g, o, some k⟩ := by simp [Addr.add]
        rw [this] at h00
        simp only [World.cell?, Option.isSome_some, if_true] at h00
        split at h00 <;> cases h00
    have hadd : ∀ j, (⟨g, o, none⟩ : Addr).add (j * 1) = ⟨g, o + j, none⟩ := fun j => by unfold Addr.add; split <;> simp_all
    refine ⟨some ⟨g, o, none⟩, len, cap, (List.range len).map K, h0, ⟨⟨by simp, .inr ⟨g, o, rfl, by rw [hadd] at hblk; exact hblk, fun j hj => ?_⟩⟩, .inr fun b hb => .inl (by cases hb; rw [hadd] at hblk; exact hblk), fun s hs => ?_, Nat.le_trans hl hc⟩, hl, hc⟩
    · have := (hK j hj).1
      rw [hadd] at this
      rw [this]
      simp [List.getD_eq_getElem?_getD, List.getElem?_map, List.getElem?_range hj]
    · obtain ⟨j, hj, rfl⟩ := List.mem_map.1 hs
      exact (hK j (List.mem_range.1 hj)).2

theorem names_of_arg {w : World} {m base : Nat} {v : Value} (hv : Value.okWide Try.prog w .any base 23 v) (h : Rd Try.prog w m 23 v.cells.toList) : ∃ A n cp l, v = .slice A n cp ∧ NamesA w A n l := by
  obtain ⟨A, n, cp, rfl⟩ := Go.WideShapes.okWide_slice Try.underlying23 hv
  obtain ⟨A', n', cp', l, he, hN, _⟩ := names_of_cells h
  simp [Value.cells] at he
  obtain ⟨rfl, rfl, rfl⟩ := he
  exact ⟨A, n, cp, l, rfl, hN⟩
structure OpT where
  kind : Int
  client : Int
  A : Option Addr
  n : Nat
  cp : Nat
  names : List ByteArray
/-- An operation lies there. -/
def OpAt (w : World) (p : Addr) (o : OpT) : Prop := w.cell? p = some (.int .i64 o.kind) ∧ w.cell? ⟨p.block, p.off + 1, none⟩ = some (.int .i64 o.client) ∧ w.cell? ⟨p.block, p.off + 2, none⟩ = some (.slice o.A o.n o.cp)
structure GoodO (w : World) (o : OpT) : Prop where
  kind : goodI o.kind
  client : goodI o.client
  names : NamesA w o.A o.n o.names
  cap : o.n ≤ o.cp ∧ o.cp ≤ maxLen
def RowO (w : World) (a : Addr) (n : Nat) (os : List OpT) : Prop := n = os.length ∧ ∀ (j : Nat) (o : OpT), os[j]? = some o → OpAt w (a.add (j * 3)) o
theorem op_of_cells {w : World} {n : Nat} {cs : List Value} (h : Rd Try.prog w n 29 cs) : ∃ o : OpT, cs = [.int .i64 o.kind, .int .i64 o.client, .slice o.A o.n o.cp] ∧ GoodO w o := by
  obtain ⟨hl, m, hf⟩ := h.struct Try.underlying29
  have hl3 : cs.length = 3 := hl.trans (by kernel_rfl)
  have c1 : Try.prog.cellsOf 3 = 1 := by kernel_rfl
  have c2 : Try.prog.cellsOf 23 = 1 := by kernel_rfl
  match cs, hl3 with
  | [v0, v1, v2], _ =>
    have f0 : Rd _ _ _ 3 [v0] := Rd.field hf 0 rfl c1
    have f1 : Rd _ _ _ 3 [v1] := Rd.field hf 1 rfl c1
    have f2 : Rd _ _ _ 23 [v2] := Rd.field hf 2 rfl c2
    obtain ⟨x0, e0, w0⟩ := f0.int Try.underlying3
    obtain ⟨x1, e1, w1⟩ := f1.int Try.underlying3
    obtain ⟨A, k, cp, l, e2, w2, w3⟩ := names_of_cells f2
    simp only [List.cons.injEq, and_true] at e0 e1 e2
    subst e0 e1 e2
    exact ⟨⟨x0, x1, A, k, cp, l⟩, rfl, w0, w1, w2, w3⟩
theorem ops_of_arg {w : World} {m base : Nat} {v : Value} (hv : Value.okWide Try.prog w .any base 22 v) (h : Rd Try.prog w m 22 v.cells.toList) :
    ∃ A n cp os, v = .slice A n cp ∧ n = os.length ∧ (∀ a, A = some a → RowO w a n os) ∧ (A = none → n = 0) ∧ (∀ o ∈ os, GoodO w o) ∧ n ≤ maxLen := by
  obtain ⟨A, n, cp, rfl⟩ := Go.WideShapes.okWide_slice Try.underlying22 hv
  rcases h.slice Try.underlying22 with h0 | ⟨a, len, cap, m', h0, hl, hc, _, hx⟩
  · simp [Value.cells] at h0
    obtain ⟨rfl, rfl, rfl⟩ := h0
    exact ⟨none, 0, 0, [], rfl, rfl, by simp, by simp, by simp, by decide⟩
  · simp [Value.cells] at h0
    obtain ⟨rfl, rfl, rfl⟩ := h0
    have c3 : Try.prog.cellsOf 29 = 3 := by kernel_rfl
    rw [c3] at hx
    have hK : ∀ i, ∃ o : OpT, i < n → OpAt w (a.add (i * 3)) o ∧ GoodO w o := fun i => by
      by_cases hi : i < n
      · obtain ⟨cs, h1, h2⟩ := hx i hi
        obtain ⟨o, hk, hs⟩ := op_of_cells h2
        obtain ⟨_, _, hcell⟩ := World.cells?_some h1
        subst hk
        exact ⟨o, fun _ => ⟨⟨hcell 0 (by decide), hcell 1 (by decide), hcell 2 (by decide)⟩, hs⟩⟩
      · exact ⟨⟨0, 0, none, 0, 0, []⟩, fun h => absurd h hi⟩
    obtain ⟨K, hK⟩ := Classical.axiomOfChoice hK
    refine ⟨some a, n, cp, (List.range n).map K, rfl, by simp, fun b hb => ?_, by simp, fun k hk => ?_, Nat.le_trans hl hc⟩
    · cases hb
      refine ⟨by simp, fun j k hj => ?_⟩
      simp only [List.getElem?_map, Option.map_eq_some_iff] at hj
      obtain ⟨j', hj', rfl⟩ := hj
      obtain ⟨h1, h2⟩ := List.getElem?_eq_some_iff.1 hj'
      simp at h1 h2
      subst h2
      exact (hK j h1).1
    · obtain ⟨j, hj, rfl⟩ := List.mem_map.1 hk
      exact (hK j (List.mem_range.1 hj)).2
theorem OpAt.lt {w : World} {p : Addr} {o : OpT} (h : OpAt w p o) : p.block < w.heap.size := World.block_lt_of_cell? w _ h.1
theorem OpAt.low {B : Nat} {w w' : World} {p : Addr} {o : OpT} (h : OpAt w p o) (t : Below B w w') (hg : p.block < B) : OpAt w' p o :=
  have g : ∀ {a : Addr} {v : Value}, w.cell? a = some v → a.block < B → w'.cell? a = some v := fun hc ha => (World.cell?_of_block (t.block _ ha)).trans hc
  ⟨g h.1 hg, g h.2.1 hg, g h.2.2 hg⟩
theorem NamesA.low' {w w' : World} {B : Nat} {A : Option Addr} {n : Nat} {l : List ByteArray} (h : NamesA w A n l) (hB : w.heap.size = B) (t : Below B w w') (hs : w.heap.size ≤ w'.heap.size) : NamesI w' A n l ∧ ∀ ks, LowA B ks A n := by
  subst hB
  exact ⟨h.row.keptK (B := w.heap.size) (ks := []) ⟨t, by simp⟩ h.low hs, fun ks => h.low.imp id fun hl a ha => (hl a ha).imp id (by simp)⟩
theorem NamesA.good {w : World} {A : Option Addr} {n : Nat} {l : List ByteArray} (h : NamesA w A n l) : ∀ s ∈ l, goodS s := fun s hs => Nat.le_trans (h.size s hs) (by decide)
theorem few_small {l : List ByteArray} (h : fewB l = true) : l.length ≤ 20 := by
  simp only [fewB, Bool.and_eq_true, decide_eq_true_eq] at h
  exact h.1
end Go.Proofs.Ytjmgookpmngmaac
