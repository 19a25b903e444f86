/- What a call may touch of the memory that was there: the blocks of a list, and no other. -/
import Derived.OwnWalk
import Derived.WalkSmall
import Derived.ChangeMaps4
namespace Go.Proofs.Ythafopnaecbjdaa
open Go Go.RowKit Go.ChangeMaps

/-- w' is w with new blocks, and with blocks of S turned. -/
structure Touch (S : List Nat) (w w' : World) : Prop where
  os : w'.os = w.os
  tape : w'.tape = w.tape
  output : w'.output = w.output
  size : w.heap.size ≤ w'.heap.size
  block : ∀ i, i < w.heap.size → i ∉ S → w'.heap[i]? = w.heap[i]?

theorem Touch.refl (S : List Nat) (w : World) : Touch S w w := ⟨rfl, rfl, rfl, Nat.le_refl _, fun _ _ _ => rfl⟩
theorem Touch.mono {S S' : List Nat} {w w' : World} (h : Touch S w w') (hs : ∀ i ∈ S, i ∈ S') : Touch S' w w' := ⟨h.os, h.tape, h.output, h.size, fun i hi hn => h.block i hi (fun hm => hn (hs i hm))⟩
/-- What the second one touches is touched by the first, or new. -/
theorem Touch.trans {S S' : List Nat} {w w1 w2 : World} (h : Touch S w w1) (k : Touch S' w1 w2) (hs : ∀ i ∈ S', i ∈ S ∨ w.heap.size ≤ i) : Touch S w w2 :=
  ⟨k.os.trans h.os, k.tape.trans h.tape, k.output.trans h.output, Nat.le_trans h.size k.size, fun i hi hn =>
    (k.block i (Nat.lt_of_lt_of_le hi h.size) (fun hm => by rcases hs i hm with h1 | h1; exact hn h1; omega)).trans (h.block i hi hn)⟩
theorem Touch.drewN {S : List Nat} {w w' : World} (h : Touch S w w') (n : Nat) : Touch S w (w'.drewN n) := ⟨h.os, h.tape, h.output, h.size, h.block⟩
theorem Touch.drew {S : List Nat} {w w' : World} (h : Touch S w w') : Touch S w w'.drew := ⟨h.os, h.tape, h.output, h.size, h.block⟩
theorem Touch.alloc {S : List Nat} {w w' : World} (h : Touch S w w') (o : Obj) : Touch S w (w'.alloc o) :=
  h.trans (S' := []) ⟨rfl, rfl, rfl, by simp, fun i hi _ => RowKit.Below.heap_alloc w' o i hi⟩ (by simp)
theorem Touch.grownBy {S : List Nat} {w w1 w2 : World} (h : Touch S w w1) {row : Option Nat} (g : w1.grownBy w2 row) (hr : ∀ k, row = some k → k ∈ S ∨ w.heap.size ≤ k) : Touch S w w2 :=
  ⟨g.os.trans h.os, g.tape.trans h.tape, g.output.trans h.output, Nat.le_trans h.size g.size, fun i hi hn =>
    (g.block i (Nat.lt_of_lt_of_le hi h.size) (fun e => by rcases hr i e.symm with h1 | h1; exact hn h1; omega)).trans (h.block i hi hn)⟩
theorem Touch.setBlock {S : List Nat} {w w1 : World} (h : Touch S w w1) (b : Nat) (o : Obj) (hb : b ∈ S ∨ w.heap.size ≤ b) : Touch S w (setBlock w1 b o) :=
  ⟨h.os, h.tape, h.output, by simp [ChangeMaps.setBlock]; exact h.size, fun i hi hn => by
    have hne : i ≠ b := fun e => by subst e; rcases hb with h1 | h1; exact hn h1; omega
    have : (ChangeMaps.setBlock w1 b o).heap[i]? = w1.heap[i]? := by
      unfold ChangeMaps.setBlock
      exact Array.getElem?_setIfInBounds_ne (Ne.symm hne)
    exact this.trans (h.block i hi hn)⟩
theorem Touch.setCell {S : List Nat} {w w1 : World} (h : Touch S w w1) {a : Addr} (v : Value) (hb : a.block ∈ S ∨ w.heap.size ≤ a.block) : Touch S w (w1.setCell a v) :=
  ⟨h.os, h.tape, h.output, by simp [World.setCell]; exact h.size, fun i hi hn => by
    have hne : i ≠ a.block := fun e => by subst e; rcases hb with h1 | h1; exact hn h1; omega
    exact (RowKit.Below.heap_setCell _ _ _ _ hne).trans (h.block i hi hn)⟩
theorem Touch.below {S : List Nat} {w w' : World} (h : Touch S w w') {B : Nat} (hB : B ≤ w.heap.size) (hs : ∀ i ∈ S, B ≤ i) : Below B w w' :=
  ⟨h.os, h.tape, h.output, h.size, fun i hi => h.block i (by omega) (fun hm => by have := hs i hm; omega)⟩
theorem Touch.of_below {w w' : World} (h : Below w.heap.size w w') : Touch [] w w' := ⟨h.os, h.tape, h.output, h.size, fun i hi _ => h.block i hi⟩
theorem Touch.cell {S : List Nat} {w w' : World} (h : Touch S w w') {a : Addr} {v : Value} (hc : w.cell? a = some v) (ha : a.block ∉ S) : w'.cell? a = some v :=
  (World.cell?_of_block (h.block a.block (World.block_lt_of_cell? w a hc) ha)).trans hc

theorem heap_lt {w : World} {i : Nat} {o : Obj} (h : w.heap[i]? = some o) : i < w.heap.size := (Array.getElem?_eq_some_iff.1 h).1
theorem cell_of {w : World} {g : Nat} {cs : Array Value} {t : TypeId} {fr : Nat × Nat} (h : w.heap[g]? = some (.cells cs t fr)) (i : Nat) : w.cell? ⟨g, i, none⟩ = cs[i]? := by simp [World.cell?, h]
theorem frozen_of {w : World} {g : Nat} {cs : Array Value} {t : TypeId} (h : w.heap[g]? = some (.cells cs t (0, 0))) (i : Nat) : w.frozen? ⟨g, i, none⟩ = false := by simp [World.frozen?, h]
theorem block_set {w : World} {g i : Nat} {cs : Array Value} {t : TypeId} {fr : Nat × Nat} (h : w.heap[g]? = some (.cells cs t fr)) (v : Value) : (w.setCell ⟨g, i, none⟩ v).heap[g]? = some (.cells (cs.setIfInBounds i v) t fr) := by
  simp [World.setCell, Array.getElem?_modify, h]
end Go.Proofs.Ythafopnaecbjdaa
