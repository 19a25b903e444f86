/- A queue's less. -/
import Derived.Test.YthafopnaecbjdaaEx1
import Derived.Deep.RegionHeld3
namespace Go.Proofs.Ythafopnaecbjdaa
open Go Go.RowKit Go.Maps Go.Proofs.YthafopnaecbjdaaW.PrintWords Go.Proofs.YthafopnaecbjdaaW.PrintLast

section
variable {w w' : World} {p mb : Nat} {hv : Value} {H : List It} {P : List (ByteArray × Value)} {sets : Int}
set_option maxHeartbeats 1000000 in
theorem less_any (h : QA w p mb hv H P sets) (i k : Nat) (hi : i < H.length) (hk : k < H.length) : Calls Try.prog 27 #[.pointer (some ⟨p, 0, none⟩), .int .i64 i, .int .i64 k] w fun e w' => e = .returned (.bool (ltI (atI H i) (atI H k))) ∧ Below w.heap.size w w' := by
  have hui := Try.underlying52
  have HQ := Lib.hid h
  obtain ⟨c0, _⟩ := h.cells
  have ea : atI H i = H[i] := Hp.at_lt z0 H i hi
  have eb : atI H k = H[k] := Hp.at_lt z0 H k hk
  rw [ea, eb]
  obtain ⟨hb, cp, e1, a0, a1, a2⟩ := h.at i H[i] (List.getElem?_eq_getElem hi)
  obtain ⟨hb', cp', e2, b0, b1, b2⟩ := h.at k H[k] (List.getElem?_eq_getElem hk)
  obtain ⟨rfl, rfl⟩ : hb = hb' ∧ cp = cp' := by rw [e1] at e2; cases e2; exact ⟨rfl, rfl⟩
  rw [e1] at c0
  obtain ⟨n, hn⟩ : ∃ n, n = H.length := ⟨_, rfl⟩
  rw [← hn] at c0
  have hi1 : (i : Int) < n := by omega
  have hk1 : (k : Int) < n := by omega
  have hi0 : (0 : Int) ≤ i := by omega
  have hk0 : (0 : Int) ≤ k := by omega
  generalize H[i] = x at *
  generalize H[k] = y at *
  obtain ⟨xk, xa, xn⟩ := x
  obtain ⟨yk, ya, yn⟩ := y
  dsimp only at *
  clear h ea eb e1 e2 hn hi hk
  go_enter Try.func27, Try.ntmps27
  repeat (first | go_step3 | go_values | go_skip | go_guarded | go_step | go_upon)
  have hlt : hb < w.heap.size := World.block_lt_of_cell? _ _ a0
  have plt : p < w.heap.size := World.block_lt_of_cell? _ _ c0
  have n1 : hb ≠ w.heap.size := by omega
  have n2 : hb ≠ w.heap.size + 1 := by omega
  have n3 : p ≠ w.heap.size := by omega
  have n4 : p ≠ w.heap.size + 1 := by omega
  go_region_held3 (fun W' => W'.cell? ⟨p, 0, none⟩ = some (.slice (some ⟨hb, 0, none⟩) n cp) ∧ W'.cell? ⟨hb, i * 3, none⟩ = some (.string xk) ∧ W'.cell? ⟨hb, i * 3 + 1, none⟩ = some (.int .i64 xa) ∧ W'.cell? ⟨hb, i * 3 + 2, none⟩ = some (.int .i64 xn) ∧ W'.cell? ⟨hb, k * 3, none⟩ = some (.string yk) ∧ W'.cell? ⟨hb, k * 3 + 1, none⟩ = some (.int .i64 ya) ∧ W'.cell? ⟨hb, k * 3 + 2, none⟩ = some (.int .i64 yn)) ((go_keep; done)) (fail)
  · have hx : ((w.alloc (.cells #[.string xk, .int .i64 xa, .int .i64 xn] 52)).alloc (.cells #[.string yk, .int .i64 ya, .int .i64 yn] 52)).drew.heap[w.heap.size]? = some (.cells #[.string xk, .int .i64 xa, .int .i64 xn] 52 (0, 0)) := (RowKit.Below.heap_alloc _ _ _ (by simp)).trans (heap_alloc_new w _)
    have hy : ((w.alloc (.cells #[.string xk, .int .i64 xa, .int .i64 xn] 52)).alloc (.cells #[.string yk, .int .i64 ya, .int .i64 yn] 52)).drew.heap[(w.heap.size + 1)]? = some (.cells #[.string yk, .int .i64 ya, .int .i64 yn] 52 (0, 0)) := by have h0 : (w.alloc (.cells #[.string xk, .int .i64 xa, .int .i64 xn] 52)).heap.size = w.heap.size + 1 := (by simp); have h1 := heap_alloc_new (w.alloc (.cells #[.string xk, .int .i64 xa, .int .i64 xn] 52)) (.cells #[.string yk, .int .i64 ya, .int .i64 yn] 52); rw [h0] at h1; exact h1
    have HBL : Hid (Below w.heap.size w ((w.alloc (.cells #[.string xk, .int .i64 xa, .int .i64 xn] 52)).alloc (.cells #[.string yk, .int .i64 ya, .int .i64 yn] 52)).drew) := Lib.hid (((Touch.refl [] w).alloc _).alloc _ |>.drew |>.below (Nat.le_refl _) (by simp))
    have x1 := (cell_of hx 1).trans rfl
    have x2 := (cell_of hx 2).trans rfl
    have y1 := (cell_of hy 1).trans rfl
    have y2 := (cell_of hy 2).trans rfl
    clear hx hy
    generalize ((w.alloc (.cells #[.string xk, .int .i64 xa, .int .i64 xn] 52)).alloc (.cells #[.string yk, .int .i64 ya, .int .i64 yn] 52)).drew = W at *
    by_cases h1 : xa < ya
    · have HE : Hid (ltI ⟨xk, xa, xn⟩ ⟨yk, ya, yn⟩ = true) := Lib.hid ((ltI_iff _ _).2 (.inl h1))
      repeat (first | go_step3 | go_values | go_skip | go_guarded | go_step | go_upon)
      go_ret
      exact ⟨by rw [HE.out]; rfl, HBL.out⟩
    · by_cases h2 : xa = ya
      · have h2i : (xa == ya) = true := beq_iff_eq.2 h2
        by_cases h3 : xn < yn
        · have HE : Hid (ltI ⟨xk, xa, xn⟩ ⟨yk, ya, yn⟩ = true) := Lib.hid ((ltI_iff _ _).2 (.inr ⟨h2, h3⟩))
          clear h2
          repeat (first | go_step3 | go_values | go_skip | go_guarded | go_step | go_upon)
          go_ret
          exact ⟨by rw [HE.out]; rfl, HBL.out⟩
        · have HE : Hid (ltI ⟨xk, xa, xn⟩ ⟨yk, ya, yn⟩ = false) := Lib.hid (Bool.eq_false_iff.2 (fun h => by rcases (ltI_iff _ _).1 h with h | h; exact h1 h; exact h3 h.2))
          clear h2
          repeat (first | go_step3 | go_values | go_skip | go_guarded | go_step | go_upon)
          go_ret
          exact ⟨by rw [HE.out]; rfl, HBL.out⟩
      · have h2i : (xa == ya) = false := beq_eq_false_iff_ne.2 h2
        have HE : Hid (ltI ⟨xk, xa, xn⟩ ⟨yk, ya, yn⟩ = false) := Lib.hid (Bool.eq_false_iff.2 (fun h => by rcases (ltI_iff _ _).1 h with h | h; exact h1 h; exact h2 h.1))
        clear h2
        repeat (first | go_step3 | go_values | go_skip | go_guarded | go_step | go_upon)
        go_ret
        exact ⟨by rw [HE.out]; rfl, HBL.out⟩
  · have hx : ((w.alloc (.cells #[.string yk, .int .i64 ya, .int .i64 yn] 52)).alloc (.cells #[.string xk, .int .i64 xa, .int .i64 xn] 52)).drew.heap[(w.heap.size + 1)]? = some (.cells #[.string xk, .int .i64 xa, .int .i64 xn] 52 (0, 0)) := by have h0 : (w.alloc (.cells #[.string yk, .int .i64 ya, .int .i64 yn] 52)).heap.size = w.heap.size + 1 := (by simp); have h1 := heap_alloc_new (w.alloc (.cells #[.string yk, .int .i64 ya, .int .i64 yn] 52)) (.cells #[.string xk, .int .i64 xa, .int .i64 xn] 52); rw [h0] at h1; exact h1
    have hy : ((w.alloc (.cells #[.string yk, .int .i64 ya, .int .i64 yn] 52)).alloc (.cells #[.string xk, .int .i64 xa, .int .i64 xn] 52)).drew.heap[w.heap.size]? = some (.cells #[.string yk, .int .i64 ya, .int .i64 yn] 52 (0, 0)) := (RowKit.Below.heap_alloc _ _ _ (by simp)).trans (heap_alloc_new w _)
    have HBL : Hid (Below w.heap.size w ((w.alloc (.cells #[.string yk, .int .i64 ya, .int .i64 yn] 52)).alloc (.cells #[.string xk, .int .i64 xa, .int .i64 xn] 52)).drew) := Lib.hid (((Touch.refl [] w).alloc _).alloc _ |>.drew |>.below (Nat.le_refl _) (by simp))
    have x1 := (cell_of hx 1).trans rfl
    have x2 := (cell_of hx 2).trans rfl
    have y1 := (cell_of hy 1).trans rfl
    have y2 := (cell_of hy 2).trans rfl
    clear hx hy
    generalize ((w.alloc (.cells #[.string yk, .int .i64 ya, .int .i64 yn] 52)).alloc (.cells #[.string xk, .int .i64 xa, .int .i64 xn] 52)).drew = W at *
    by_cases h1 : xa < ya
    · have HE : Hid (ltI ⟨xk, xa, xn⟩ ⟨yk, ya, yn⟩ = true) := Lib.hid ((ltI_iff _ _).2 (.inl h1))
      repeat (first | go_step3 | go_values | go_skip | go_guarded | go_step | go_upon)
      go_ret
      exact ⟨by rw [HE.out]; rfl, HBL.out⟩
    · by_cases h2 : xa = ya
      · have h2i : (xa == ya) = true := beq_iff_eq.2 h2
        by_cases h3 : xn < yn
        · have HE : Hid (ltI ⟨xk, xa, xn⟩ ⟨yk, ya, yn⟩ = true) := Lib.hid ((ltI_iff _ _).2 (.inr ⟨h2, h3⟩))
          clear h2
          repeat (first | go_step3 | go_values | go_skip | go_guarded | go_step | go_upon)
          go_ret
          exact ⟨by rw [HE.out]; rfl, HBL.out⟩
        · have HE : Hid (ltI ⟨xk, xa, xn⟩ ⟨yk, ya, yn⟩ = false) := Lib.hid (Bool.eq_false_iff.2 (fun h => by rcases (ltI_iff _ _).1 h with h | h; exact h1 h; exact h3 h.2))
          clear h2
          repeat (first | go_step3 | go_values | go_skip | go_guarded | go_step | go_upon)
          go_ret
          exact ⟨by rw [HE.out]; rfl, HBL.out⟩
      · have h2i : (xa == ya) = false := beq_eq_false_iff_ne.2 h2
        have HE : Hid (ltI ⟨xk, xa, xn⟩ ⟨yk, ya, yn⟩ = false) := Lib.hid (Bool.eq_false_iff.2 (fun h => by rcases (ltI_iff _ _).1 h with h | h; exact h1 h; exact h2 h.1))
        clear h2
        repeat (first | go_step3 | go_values | go_skip | go_guarded | go_step | go_upon)
        go_ret
        exact ⟨by rw [HE.out]; rfl, HBL.out⟩
end
end Go.Proofs.Ythafopnaecbjdaa
