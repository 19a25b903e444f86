/- frame: Rest, Copy, Right, Put. -/
import Derived.Test.YtkaehhldloclhaaFr1
import Derived.Laws.BytesString
namespace Go.Proofs.Ytkaehhldloclhaa
open Go Go.RowKit

theorem conv_zero {P : Program} (w : World) (src e : TypeId) (hs : P.underlying src = some (.slice e)) (he : P.underlying e = some (.int .u8)) (p : Option Addr) (c : Nat) :
    ∀ dst, P.underlying dst = some .string → (convert src dst (.slice p 0 c)).run P w = .ok (.string ByteArray.empty) w := by
  intro dst hd
  rw [run_convert_bytes_string w src dst e _ 0 c hs he hd]
  cases p <;> simp [Conv.bytesToString, loadCells]
  all_goals rfl
theorem conv_row {w : World} {A : Option Addr} {n : Nat} {l : ByteArray} (h : RowG u8C 1 w A n l.data.toList) (cp : Nat) :
    (convert 45 9 (.slice A n cp)).run Try.prog w = .ok (.string l) w := by
  obtain ⟨h1, h2⟩ := h
  rcases h2 with h0 | ⟨g, o, rfl, hg, h2⟩
  · subst h0
    have hl : l = ByteArray.empty := by
      apply ByteArray.ext
      apply Array.toList_inj.1
      exact List.eq_nil_of_length_eq_zero h1.symm
    subst hl
    exact conv_zero w _ _ Try.underlying45 Try.underlying5 A cp _ Try.underlying9
  · have hr := run_convert_bytes_arg (P := Try.prog) w 45 5 Try.underlying45 Try.underlying5 g o n cp (startNums l) (by simp [startNums]; simpa using h1.symm) (fun i hi => by
      have hi' : i < l.data.toList.length := by omega
      have := h2 i _ (List.getElem?_eq_getElem hi') 0 _ rfl
      rw [Nat.mul_one, Nat.add_zero] at this
      have hd : (startNums l).getD i 0 = ((l.data.toList[i]'hi').toNat : Int) := by
        unfold startNums
        rw [List.getD_eq_getElem?_getD, List.getElem?_map, List.getElem?_eq_getElem hi']
        rfl
      rw [this, hd]) 9 Try.underlying9
    rw [hr]
    congr 2
    apply ByteArray.ext
    apply Array.toList_inj.1
    rw [strOfNums_data, startNums, List.map_map]
    conv => rhs; rw [← List.map_id l.data.toList]
    apply List.map_congr_left
    intro b _
    exact UInt8.toNat_inj.1 (by simp)
theorem Rest_any {w : World} {p : Nat} {L : Nat × Nat} {M : FM} (h : RdE w p M L) : Calls Try.prog 17 #[.pointer (some ⟨p, 0, none⟩)] w fun e w' => e = .returned (.string M.left) ∧ w = w' := by
  have ht := there_any h
  obtain ⟨A, n, cp, h⟩ := h
  have h1 := h.cells.1
  have h2 := conv_row h.row cp
  clear h
  have Ht := Lib.hid ht; clear ht
  go_enter Try.func17, Try.ntmps17
  go_wp2_with (go_at_call 23; refine Ht.out.mono ?_; rintro e w1 ⟨rfl, rfl⟩)
  go_ret
  exact ⟨rfl, rfl⟩
theorem Copy_any {w : World} {p : Nat} {L : Nat × Nat} {M : FM} (h : RdE w p M L) : Calls Try.prog 18 #[.pointer (some ⟨p, 0, none⟩)] w fun e w' => e = .returned (.pointer (some ⟨w.heap.size, 0, none⟩)) ∧ RdE w' w.heap.size M L ∧ Touch [] w w' := by
  have ht := there_any h
  obtain ⟨A, n, cp, h⟩ := h
  obtain ⟨c0, c1, c2, c3⟩ := h.cells
  have hb : (w.alloc (.cells #[.slice A n cp, .bool M.first, .int .i64 M.e, .bool true] 47)).heap[w.heap.size]? = some (.cells #[.slice A n cp, .bool M.first, .int .i64 M.e, .bool true] 47 (0, 0)) := heap_alloc_new w _
  have ta : Touch [] w (w.alloc (.cells #[.slice A n cp, .bool M.first, .int .i64 M.e, .bool true] 47)) := (Touch.refl _ _).alloc _
  have hfar : n = 0 ∨ ∀ a, A = some a → a.block ≠ w.heap.size := h.row.far (Nat.le_refl _)
  have K := Lib.hid (And.intro hb (And.intro ta (And.intro (h.row.kept0 ta) (And.intro h.le (And.intro hfar (And.intro h.sz (And.intro h.bl (And.intro h.e (h.ty.kept0 ta)))))))))
  clear hb ta h hfar
  have Ht := Lib.hid ht; clear ht
  go_enter Try.func18, Try.ntmps18
  go_wp2_with (go_at_call 23; refine Ht.out.mono ?_; rintro e w1 ⟨rfl, rfl⟩)
  go_ret
  obtain ⟨k1, k2, k3, k4, k5, k6, k8, k7, k9⟩ := K.out
  exact ⟨rfl, ⟨A, n, cp, k1, k3, k4, k5, k6, k8, k7, k9⟩, k2⟩
end Go.Proofs.Ytkaehhldloclhaa
