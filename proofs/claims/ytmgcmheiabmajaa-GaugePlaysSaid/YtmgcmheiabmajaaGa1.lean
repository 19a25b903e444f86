/- A gauge in memory: its block, and its row of buckets. -/
import Derived.Test.YtmgcmheiabmajaaQu
import Derived.Test.YtmgcmheiabmajaaProg
import Derived.Test.YtmgcmheiabmajaaWWords
import Derived.Lib.Hide
import Derived.Below
import Derived.Tactics
import Derived.WalkKit
import Derived.BigQuiet
import Derived.RowKit
import Derived.RowKit3
import Derived.Deep.LoopGhost
import Derived.KernelRfl
namespace Go.Proofs.Ytmgcmheiabmajaa
open Go Go.RowKit Go.Proofs.YtmgcmheiabmajaaW.PrintWords

structure SB where
  b : Int
  c : Int
structure GA (w : World) (p b cp : Nat) (L : List SB) (t s : Int) : Prop where
  blk : w.heap[p]? = some (.cells #[.slice (some ⟨b, 0, none⟩) L.length cp, .int .i64 t, .int .i64 s] 48 (0, 0))
  row : ∃ C : Array Value, w.heap[b]? = some (.cells C 50 (0, 0)) ∧ ∀ (j : Nat) (x : SB), L[j]? = some x → C[j * 2]? = some (.int .i64 x.b) ∧ C[j * 2 + 1]? = some (.int .i64 x.c)
  cap : L.length ≤ cp
  few : 0 < L.length ∧ L.length ≤ 101
section
variable {w w' : World} {p b cp : Nat} {L : List SB} {t s : Int}
theorem GA.ne (h : GA w p b cp L t s) : p ≠ b := by
  intro e
  obtain ⟨C, hC, _⟩ := h.row
  have := h.blk
  rw [e, hC] at this
  exact absurd (Obj.cells.inj (Option.some.inj this)).2.1 (by decide)
theorem GA.kept {S : List Nat} (h : GA w p b cp L t s) (k : Touch S w w') (hp : p ∉ S) (hb : b ∉ S) : GA w' p b cp L t s := by
  obtain ⟨C, hC, hx⟩ := h.row
  exact ⟨(k.block p (heap_lt h.blk) hp).trans h.blk, ⟨C, (k.block b (heap_lt hC) hb).trans hC, hx⟩, h.cap, h.few⟩
theorem GA.lt (h : GA w p b cp L t s) : p < w.heap.size ∧ b < w.heap.size := by
  obtain ⟨C, hC, _⟩ := h.row
  exact ⟨heap_lt h.blk, heap_lt hC⟩
theorem GA.cells (h : GA w p b cp L t s) : w.cell? ⟨p, 0, none⟩ = some (.slice (some ⟨b, 0, none⟩) L.length cp) ∧ w.cell? ⟨p, 1, none⟩ = some (.int .i64 t) ∧ w.cell? ⟨p, 2, none⟩ = some (.int .i64 s) ∧ w.frozen? ⟨p, 0, none⟩ = false ∧ w.frozen? ⟨p, 1, none⟩ = false ∧ w.frozen? ⟨p, 2, none⟩ = false :=
  ⟨by rw [cell_of h.blk]; rfl, by rw [cell_of h.blk]; rfl, by rw [cell_of h.blk]; rfl, frozen_of h.blk 0, frozen_of h.blk 1, frozen_of h.blk 2⟩
theorem GA.at (h : GA w p b cp L t s) (j : Nat) (x : SB) (hj : L[j]? = some x) : w.cell? ⟨b, j * 2, none⟩ = some (.int .i64 x.b) ∧ w.cell? ⟨b, j * 2 + 1, none⟩ = some (.int .i64 x.c) ∧ w.frozen? ⟨b, j * 2 + 1, none⟩ = false := by
  obtain ⟨C, hC, hx⟩ := h.row
  obtain ⟨h1, h2⟩ := hx j x hj
  exact ⟨by rw [cell_of hC]; exact h1, by rw [cell_of hC]; exact h2, frozen_of hC _⟩
theorem GA.setT (h : GA w p b cp L t s) (t' : Int) : GA (w.setCell ⟨p, 1, none⟩ (.int .i64 t')) p b cp L t' s := by
  obtain ⟨C, hC, hx⟩ := h.row
  exact ⟨(block_set h.blk _).trans rfl, ⟨C, (RowKit.Below.heap_setCell _ _ _ _ (Ne.symm h.ne)).trans hC, hx⟩, h.cap, h.few⟩
theorem GA.setS (h : GA w p b cp L t s) (s' : Int) : GA (w.setCell ⟨p, 2, none⟩ (.int .i64 s')) p b cp L t s' := by
  obtain ⟨C, hC, hx⟩ := h.row
  exact ⟨(block_set h.blk _).trans rfl, ⟨C, (RowKit.Below.heap_setCell _ _ _ _ (Ne.symm h.ne)).trans hC, hx⟩, h.cap, h.few⟩
/-- One bucket's count. -/
def putC (L : List SB) (j : Nat) (c : Int) : List SB := L.modify j fun x => ⟨x.b, c⟩
theorem putC_len (L : List SB) (j : Nat) (c : Int) : (putC L j c).length = L.length := by unfold putC; rw [List.length_modify]
theorem GA.setC (h : GA w p b cp L t s) (j : Nat) (_hj : j < L.length) (c : Int) : GA (w.setCell ⟨b, j * 2 + 1, none⟩ (.int .i64 c)) p b cp (putC L j c) t s := by
  obtain ⟨C, hC, hx⟩ := h.row
  have hsz : ∀ (i : Nat) (x : SB), L[i]? = some x → i * 2 + 1 < C.size := fun i x hi => (Array.getElem?_eq_some_iff.1 (hx i x hi).2).1
  refine ⟨?_, ⟨_, block_set hC _, fun i x hi => ?_⟩, by rw [putC_len]; exact h.cap, by rw [putC_len]; exact h.few⟩
  · rw [putC_len]
    exact (RowKit.Below.heap_setCell _ _ _ _ h.ne).trans h.blk
  · unfold putC at hi
    rw [List.getElem?_modify] at hi
    rw [Array.getElem?_setIfInBounds, Array.getElem?_setIfInBounds]
    rw [if_neg (by omega)]
    by_cases e : j = i
    · subst e
      obtain ⟨y, hy, he⟩ := Option.map_eq_some_iff.1 hi
      rw [if_pos rfl] at he
      subst he
      rw [if_pos rfl, if_pos (hsz j y hy)]
      exact ⟨(hx j y hy).1, rfl⟩
    · obtain ⟨y, hy, he⟩ := Option.map_eq_some_iff.1 hi
      rw [if_neg e] at he
      subst he
      rw [if_neg (by omega)]
      exact hx i y hy
theorem there_any (h : GA w p b cp L t s) : Calls Try.prog 23 #[.pointer (some ⟨p, 0, none⟩)] w fun e w' => e = .returned (.bool true) ∧ w' = w := by
  obtain ⟨c0, _⟩ := h.cells
  have H1 := Lib.hid (decide_eq_true h.few.1)
  clear h
  go_enter Try.func23, Try.ntmps23
  repeat (first | go_step3 | go_values | go_skip | go_guarded | go_step | go_upon)
  go_ret
  exact ⟨by show Ending.returned (.bool (decide (0 < L.length))) = _; rw [H1.out], rfl⟩
theorem there_nil (w : World) : Calls Try.prog 23 #[.pointer none] w fun e w' => e = .returned (.bool false) ∧ w' = w := by
  go_enter Try.func23, Try.ntmps23
  repeat (first | go_step3 | go_values | go_skip | go_guarded | go_step | go_upon)
  go_ret
  exact ⟨rfl, rfl⟩
theorem total_any (h : GA w p b cp L t s) : Calls Try.prog 11 #[.pointer (some ⟨p, 0, none⟩)] w fun e w' => e = .returned (.tuple #[.int .i64 t, .int .i64 s]) ∧ Touch [] w w' := by
  obtain ⟨c0, c1, c2, _⟩ := h.cells
  have HT := Lib.hid (there_any h)
  clear h
  go_enter Try.func11, Try.ntmps11
  repeat (first | go_step3 | go_values | go_skip | go_guarded | go_step | go_upon)
  (go_at_call 23; refine HT.out.mono ?_; rintro e w1 ⟨rfl, rfl⟩; dsimp only)
  repeat (first | go_step3 | go_values | go_skip | go_guarded | go_step | go_upon)
  refine wp_region_tw (by kernel_rfl) (by kernel_rfl) ?_
  have q1 := TW.cell c1
  have q2 := TW.cell c2
  repeat (go_big_quiet_step (fail))
  refine wpQuiet_nil ?_
  rintro _ ⟨x, rfl⟩
  repeat (first | go_step3 | go_values | go_skip | go_guarded | go_step | go_upon)
  go_ret2
  exact ⟨rfl, x.t⟩
end
end Go.Proofs.Ytmgcmheiabmajaa
