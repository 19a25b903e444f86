/- frame: the next message is wrong. -/
import Derived.Test.YtkaehhldloclhaaFr4
namespace Go.Proofs.Ytkaehhldloclhaa
open Go Go.RowKit

/-- All that the walk of next needs to know ahead. -/
structure NW (w W : World) (p : Nat) (g o n cp : Nat) (M : FM) (L : Nat × Nat) : Prop where
  r : RdB W p (some ⟨g, o, none⟩) n cp M L
  t : Touch [] w W
  b : W.heap[w.heap.size]? = some (.cells #[.int .u8 0, .string ⟨#[]⟩] 23 (0, 0))
  h : hd M.first ≤ n
  p : p < w.heap.size
  gl : g < w.heap.size
theorem NW.next {w W W' : World} {p g o n cp : Nat} {L : Nat × Nat} {M : FM} (h : NW w W p g o n cp M L) (t : Touch [] W W') : NW w W' p g o n cp M L :=
  ⟨h.r.kept0 t, h.t.trans t (by simp), (t.block _ (heap_lt h.b) (by simp)).trans h.b, h.h, h.p, h.gl⟩
theorem NW.start {w : World} {p : Nat} {L : Nat × Nat} {M : FM} (h : RdE w p M L) (hs : hd M.first ≤ M.left.size) : ∃ g o n cp, NW w (w.alloc (.cells #[.int .u8 0, .string ⟨#[]⟩] 23)) p g o n cp M L := by
  have ta : Touch [] w (w.alloc (.cells #[.int .u8 0, .string ⟨#[]⟩] 23)) := (Touch.refl _ _).alloc _
  have hp := h.lt
  obtain ⟨A, n, cp, h⟩ := h
  have hn := h.n_eq
  have h0 := hd_pos M.first
  obtain ⟨g, o, rfl, hgl, _⟩ := row_at h.row (by omega)
  exact ⟨g, o, n, cp, h.kept0 ta, ta, heap_alloc_new w _, by omega, hp, hgl⟩
/-- What the walk reads. -/
theorem NW.facts {w W : World} {p g o n cp : Nat} {L : Nat × Nat} {M : FM} (h : NW w W p g o n cp M L) :
    W.cell? ⟨p, 0, none⟩ = some (.slice (some ⟨g, o, none⟩) n cp) ∧ W.cell? ⟨p, 1, none⟩ = some (.bool M.first) ∧ W.cell? ⟨p, 2, none⟩ = some (.int .i64 M.e) ∧
    W.cell? ⟨g, o, none⟩ = some (.int .u8 (kindF M.left false).toNat) ∧ (convert 45 9 (.slice (some ⟨g, o, none⟩) (hd M.first) cp)).run Try.prog W = .ok (.string (M.left.extract 0 (hd M.first))) W := by
  obtain ⟨c0, c1, c2, _⟩ := h.r.cells
  have h0 := hd_pos M.first
  have hn := h.h
  obtain ⟨g', o', he, _, hc⟩ := row_at h.r.row (by omega)
  cases he
  exact ⟨c0, c1, c2, hc, conv_row (h.r.row.sub 0 (hd M.first) (Nat.zero_le _) hn) cp⟩
theorem head_f {w W : World} {p g o n cp : Nat} {L : Nat × Nat} {M : FM} (h : NW w W p g o n cp M L) : Calls Try.prog 27 #[.pointer (some ⟨p, 0, none⟩)] W fun e w' => e = .returned (.int .i64 (hd M.first)) ∧ W = w' := head_any ⟨_, _, _, h.r⟩
theorem get_f {w W : World} {p g o n cp : Nat} {L : Nat × Nat} {M : FM} (h : NW w W p g o n cp M L) (W' : World) : Calls Try.prog 28 #[.string (M.left.extract 0 (hd M.first)), .int .i64 ((hd M.first : Int) - 4)] W' fun e w' => e = .returned (.tuple #[.int .i64 (lenF M.left M.first), .int .i64 (hd M.first), .int .i64 0]) ∧ Touch [] W' w' := by
  have h0 := hd_pos M.first
  have hn := h.h
  have h1 := h.r.n_eq
  refine (Get32_any (M.left.extract 0 (hd M.first)) ((hd M.first : Int) - 4) W' (by rw [ByteArray.size_extract]; omega) (by omega)).mono ?_
  rintro e w' ⟨rfl, hb⟩
  exact ⟨by rw [lenF_pre _ _ (by omega)]; rfl, Touch.of_below hb⟩

theorem NW.wrote {w W : World} {p g o n cp : Nat} {L : Nat × Nat} {M : FM} (h : NW w W p g o n cp M L) (v : Value) :
    W.frozen? ⟨p, 2, none⟩ = false ∧ (W.setCell ⟨p, 2, none⟩ v).cell? ⟨p, 0, none⟩ = some (.slice (some ⟨g, o, none⟩) n cp) ∧ (W.setCell ⟨p, 2, none⟩ v).cell? ⟨p, 2, none⟩ = some v ∧
    (W.setCell ⟨p, 2, none⟩ v).heap[w.heap.size]? = some (.cells #[.int .u8 0, .string ⟨#[]⟩] 23 (0, 0)) := by
  have hne : w.heap.size ≠ p := by have := h.p; omega
  have hb := block_set (i := 2) h.r.blk v
  exact ⟨frozen_of h.r.blk 2, (cell_of hb 0).trans rfl, (cell_of hb 2).trans rfl, (cell_other hne).trans h.b⟩
theorem wrote2 {W : World} {b : Nat} {x y : Value} {t : TypeId} (h : W.heap[b]? = some (.cells #[x, y] t (0, 0))) (v u : Value) :
    W.cell? ⟨b, 0, none⟩ = some x ∧ W.frozen? ⟨b, 0, none⟩ = false ∧ (W.setCell ⟨b, 0, none⟩ v).cell? ⟨b, 1, none⟩ = some y ∧ (W.setCell ⟨b, 0, none⟩ v).frozen? ⟨b, 1, none⟩ = false ∧
    ((W.setCell ⟨b, 0, none⟩ v).setCell ⟨b, 1, none⟩ u).cell? ⟨b, 0, none⟩ = some v ∧ ((W.setCell ⟨b, 0, none⟩ v).setCell ⟨b, 1, none⟩ u).cell? ⟨b, 1, none⟩ = some u := by
  obtain ⟨a1, a2, a3, a4⟩ := set2 h
  obtain ⟨b1, b2, b3, b4⟩ := set2 (set2' h v)
  obtain ⟨d1, d2, d3, d4⟩ := set2 (set2'' h v u)
  exact ⟨a1, a3, b2, b4, d1, d2⟩
/-- What stands when an error was noted. -/
theorem NW.doneE {w W : World} {p g o n cp : Nat} {L : Nat × Nat} {M : FM} (h : NW w W p g o n cp M L) (e : Nat) (he : e ≤ 16) (v u : Value) :
    RdE (((W.setCell ⟨p, 2, none⟩ (.int .i64 e)).setCell ⟨w.heap.size, 0, none⟩ v).setCell ⟨w.heap.size, 1, none⟩ u) p ⟨M.left, M.first, e⟩ L ∧ Touch [p] w (((W.setCell ⟨p, 2, none⟩ (.int .i64 e)).setCell ⟨w.heap.size, 0, none⟩ v).setCell ⟨w.heap.size, 1, none⟩ u) := by
  have hp := h.p
  have hgl := h.gl
  have t : Touch [w.heap.size] (W.setCell ⟨p, 2, none⟩ (.int .i64 e)) (((W.setCell ⟨p, 2, none⟩ (.int .i64 e)).setCell ⟨w.heap.size, 0, none⟩ v).setCell ⟨w.heap.size, 1, none⟩ u) :=
    ((Touch.refl _ _).setCell v (.inl (by simp))).setCell u (.inl (by simp))
  refine ⟨⟨_, _, _, (h.r.setE e he).kept t (by simp; omega) (.inr fun a ha => by cases ha; simp; omega)⟩, ?_⟩
  exact (((h.t.mono (by simp)).setCell (a := ⟨p, 2, none⟩) _ (.inl (by simp))).setCell v (.inr (Nat.le_refl _))).setCell u (.inr (Nat.le_refl _))
/-- What stands when the message waits. -/
theorem NW.doneW {w W : World} {p g o n cp : Nat} {L : Nat × Nat} {M : FM} (h : NW w W p g o n cp M L) (v u : Value) :
    RdE ((W.setCell ⟨w.heap.size, 0, none⟩ v).setCell ⟨w.heap.size, 1, none⟩ u) p M L ∧ Touch [p] w ((W.setCell ⟨w.heap.size, 0, none⟩ v).setCell ⟨w.heap.size, 1, none⟩ u) := by
  have hp := h.p
  have hgl := h.gl
  have t : Touch [w.heap.size] W ((W.setCell ⟨w.heap.size, 0, none⟩ v).setCell ⟨w.heap.size, 1, none⟩ u) :=
    ((Touch.refl _ _).setCell v (.inl (by simp))).setCell u (.inl (by simp))
  refine ⟨⟨_, _, _, h.r.kept t (by simp; omega) (.inr fun a ha => by cases ha; simp; omega)⟩, ?_⟩
  exact ((h.t.mono (by simp)).setCell (a := ⟨w.heap.size, 0, none⟩) v (.inr (Nat.le_refl _))).setCell u (.inr (Nat.le_refl _))
end Go.Proofs.Ytkaehhldloclhaa
