/- A reader in memory; the small functions of frame. -/
import Derived.Test.YtkaehhldloclhaaFrO
import Derived.Test.YtkaehhldloclhaaFrP
import Derived.Test.YtkaehhldloclhaaRow
namespace Go.Proofs.Ytkaehhldloclhaa
open Go Go.RowKit

def u8C (b : UInt8) : List Value := [.int .u8 b.toNat]
/-- A slice's block is a row of bytes. -/
def TyB (w : World) (A : Option Addr) (n : Nat) : Prop := n = 0 ∨ ∀ a, A = some a → ∃ cs fr, w.heap[a.block]? = some (.cells cs 5 fr)
theorem TyB.keptX {w w' : World} {A : Option Addr} {n : Nat} {S : List Nat} (h : TyB w A n) (t : Touch S w w') (hs : n = 0 ∨ ∀ a, A = some a → a.block ∉ S) : TyB w' A n := by
  rcases h with h | h
  · exact .inl h
  rcases hs with hs | hs
  · exact .inl hs
  · refine .inr fun a ha => ?_
    obtain ⟨cs, fr, hc⟩ := h a ha
    exact ⟨cs, fr, (t.block _ (heap_lt hc) (hs a ha)).trans hc⟩
theorem TyB.kept0 {w w' : World} {A : Option Addr} {n : Nat} (h : TyB w A n) (t : Touch [] w w') : TyB w' A n := h.keptX t (.inr fun _ _ => by simp)
structure RdB (w : World) (p : Nat) (A : Option Addr) (n cp : Nat) (M : FM) (L : Nat × Nat) : Prop where
  blk : w.heap[p]? = some (.cells #[.slice A n cp, .bool M.first, .int .i64 M.e, .bool true] 47 (0, 0))
  row : RowG u8C 1 w A n M.left.data.toList
  le : n ≤ cp ∧ cp ≤ maxLen
  far : n = 0 ∨ ∀ a, A = some a → a.block ≠ p
  sz : M.left.size ≤ L.1
  bl : n = 0 ∨ ∀ a, A = some a → a.block < L.2
  e : M.e ≤ 16
  ty : TyB w A n
def RdE (w : World) (p : Nat) (M : FM) (L : Nat × Nat) : Prop := ∃ A n cp, RdB w p A n cp M L
theorem RdB.n_eq {w : World} {p n cp : Nat} {L : Nat × Nat} {A : Option Addr} {M : FM} (h : RdB w p A n cp M L) : n = M.left.size := by
  have := h.row.1
  simpa using this
theorem RdB.cells {w : World} {p n cp : Nat} {L : Nat × Nat} {A : Option Addr} {M : FM} (h : RdB w p A n cp M L) :
    w.cell? ⟨p, 0, none⟩ = some (.slice A n cp) ∧ w.cell? ⟨p, 1, none⟩ = some (.bool M.first) ∧ w.cell? ⟨p, 2, none⟩ = some (.int .i64 M.e) ∧ w.cell? ⟨p, 3, none⟩ = some (.bool true) := by
  refine ⟨?_, ?_, ?_, ?_⟩ <;> rw [cell_of h.blk] <;> rfl
theorem RdB.kept {w w' : World} {p n cp : Nat} {L : Nat × Nat} {A : Option Addr} {M : FM} (h : RdB w p A n cp M L) {S : List Nat} (t : Touch S w w') (hp : p ∉ S) (hs : n = 0 ∨ ∀ a, A = some a → a.block ∉ S) : RdB w' p A n cp M L :=
  ⟨(t.block p (heap_lt h.blk) hp).trans h.blk, h.row.keptX t hs, h.le, h.far, h.sz, h.bl, h.e, h.ty.keptX t hs⟩
theorem RdB.kept0 {w w' : World} {p n cp : Nat} {L : Nat × Nat} {A : Option Addr} {M : FM} (h : RdB w p A n cp M L) (t : Touch [] w w') : RdB w' p A n cp M L := h.kept t (by simp) (.inr fun _ _ => by simp)
theorem RdE.kept0 {w w' : World} {p : Nat} {L : Nat × Nat} {M : FM} (h : RdE w p M L) (t : Touch [] w w') : RdE w' p M L := by
  obtain ⟨A, n, cp, h⟩ := h
  exact ⟨A, n, cp, h.kept0 t⟩
theorem RdE.lt {w : World} {p : Nat} {L : Nat × Nat} {M : FM} (h : RdE w p M L) : p < w.heap.size := by
  obtain ⟨A, n, cp, h⟩ := h
  exact heap_lt h.blk
theorem RdE.wide {w : World} {p : Nat} {L L' : Nat × Nat} {M : FM} (h : RdE w p M L) (hl : M.left.size ≤ L'.1) (hb : L.2 ≤ L'.2) : RdE w p M L' := by
  obtain ⟨A, n, cp, h⟩ := h
  refine ⟨A, n, cp, h.blk, h.row, h.le, h.far, hl, ?_, h.e, h.ty⟩
  rcases h.bl with h0 | h0
  · exact .inl h0
  · exact .inr fun a ha => Nat.lt_of_lt_of_le (h0 a ha) hb
theorem RdE.top {w : World} {p B : Nat} {L : Nat × Nat} {M : FM} (h : RdE w p M L) (hB : w.heap.size ≤ B) : RdE w p M (L.1, B) := by
  obtain ⟨A, n, cp, h⟩ := h
  refine ⟨A, n, cp, h.blk, h.row, h.le, h.far, h.sz, ?_, h.e, h.ty⟩
  rcases h.row.2 with h0 | ⟨g, o, rfl, hg, _⟩
  · exact .inl h0
  · exact .inr fun a ha => by cases ha; exact Nat.lt_of_lt_of_le hg hB

theorem New_any (f : Bool) (w : World) :
    Calls Try.prog 13 #[.bool f] w fun e w' => e = .returned (.pointer (some ⟨w.heap.size, 0, none⟩)) ∧ RdE w' w.heap.size ⟨ByteArray.empty, f, 0⟩ (0, 0) ∧ Touch [] w w' := by
  have hb : (w.alloc (.cells #[.slice none 0 0, .bool f, .int .i64 0, .bool true] 47)).heap[w.heap.size]? = some (.cells #[.slice none 0 0, .bool f, .int .i64 0, .bool true] 47 (0, 0)) := heap_alloc_new w _
  have ta : Touch [] w (w.alloc (.cells #[.slice none 0 0, .bool f, .int .i64 0, .bool true] 47)) := (Touch.refl _ _).alloc _
  have K := Lib.hid (And.intro hb ta)
  clear hb ta
  go_enter Try.func13, Try.ntmps13
  go_wp2_with fail
  go_ret
  exact ⟨rfl, ⟨none, 0, 0, K.out.1, .nil _, ⟨Nat.le_refl _, by decide⟩, .inl rfl, by simp, .inl rfl, by simp, .inl rfl⟩, K.out.2⟩
theorem there_nil (w : World) : Calls Try.prog 23 #[.pointer none] w fun e w' => e = .returned (.bool false) ∧ w = w' := by
  go_enter Try.func23, Try.ntmps23
  go_wp2
  go_ret
  exact ⟨rfl, rfl⟩
theorem there_cell (w : World) (p : Nat) (b : Bool) (h : w.cell? ⟨p, 3, none⟩ = some (.bool b)) : Calls Try.prog 23 #[.pointer (some ⟨p, 0, none⟩)] w fun e w' => e = .returned (.bool b) ∧ w = w' := by
  go_enter Try.func23, Try.ntmps23
  go_wp2
  go_ret
  exact ⟨rfl, rfl⟩
theorem there_any {w : World} {p : Nat} {L : Nat × Nat} {M : FM} (h : RdE w p M L) : Calls Try.prog 23 #[.pointer (some ⟨p, 0, none⟩)] w fun e w' => e = .returned (.bool true) ∧ w = w' := by
  obtain ⟨A, n, cp, h⟩ := h
  exact there_cell w p true h.cells.2.2.2
theorem head_any {w : World} {p : Nat} {L : Nat × Nat} {M : FM} (h : RdE w p M L) : Calls Try.prog 27 #[.pointer (some ⟨p, 0, none⟩)] w fun e w' => e = .returned (.int .i64 (hd M.first)) ∧ w = w' := by
  obtain ⟨A, n, cp, h⟩ := h
  have h1 := h.cells.2.1
  clear h
  obtain ⟨l, f, e⟩ := M
  dsimp only at *
  cases f
  · go_enter Try.func27, Try.ntmps27
    go_wp2
    go_ret
    exact ⟨rfl, rfl⟩
  · go_enter Try.func27, Try.ntmps27
    go_wp2
    go_ret
    exact ⟨rfl, rfl⟩
theorem printable_any (c : UInt8) (w : World) : Calls Try.prog 20 #[.int .u8 c.toNat] w fun e w' => e = .returned (.bool (printable c)) ∧ w = w' := by
  by_cases h1 : 33 ≤ c.toNat
  · by_cases h2 : c.toNat ≤ 126
    · have hp : Hid (printable c = true) := Lib.hid (by simp [printable, h1, h2])
      go_enter Try.func20, Try.ntmps20
      go_wp2
      go_ret
      exact ⟨by rw [hp.out]; simp <;> omega, rfl⟩
    · have hp : Hid (printable c = false) := Lib.hid (by simp [printable, h2])
      go_enter Try.func20, Try.ntmps20
      go_wp2
      go_ret
      exact ⟨by rw [hp.out]; simp <;> omega, rfl⟩
  · have hp : Hid (printable c = false) := Lib.hid (by simp [printable, h1])
    go_enter Try.func20, Try.ntmps20
    go_wp2
    go_ret
    exact ⟨by rw [hp.out]; simp <;> omega, rfl⟩
theorem Bad_any {w : World} {p : Nat} {L : Nat × Nat} {M : FM} (h : RdE w p M L) : Calls Try.prog 16 #[.pointer (some ⟨p, 0, none⟩)] w fun e w' => e = .returned (.int .i64 M.e) ∧ w = w' := by
  have ht := there_any h
  obtain ⟨A, n, cp, h⟩ := h
  have h1 := h.cells.2.2.1
  clear h
  have Ht := Lib.hid ht; clear ht
  go_enter Try.func16, Try.ntmps16
  go_wp2_with (go_at_call 23; refine Ht.out.mono ?_; rintro e w1 ⟨rfl, rfl⟩)
  go_ret
  exact ⟨rfl, rfl⟩
theorem Bad_not {w : World} {v : Value} (ht : Calls Try.prog 23 #[v] w fun e w' => e = .returned (.bool false) ∧ w = w') : Calls Try.prog 16 #[v] w fun e w' => e = .returned (.int .i64 12) ∧ w = w' := by
  have Ht := Lib.hid ht; clear ht
  go_enter Try.func16, Try.ntmps16
  go_wp2_with (go_at_call 23; refine Ht.out.mono ?_; rintro e w1 ⟨rfl, rfl⟩)
  go_ret
  exact ⟨rfl, rfl⟩
theorem Rest_not {w : World} {v : Value} (ht : Calls Try.prog 23 #[v] w fun e w' => e = .returned (.bool false) ∧ w = w') : Calls Try.prog 17 #[v] w fun e w' => e = .returned (.string ByteArray.empty) ∧ w = w' := by
  have Ht := Lib.hid ht; clear ht
  go_enter Try.func17, Try.ntmps17
  go_wp2_with (go_at_call 23; refine Ht.out.mono ?_; rintro e w1 ⟨rfl, rfl⟩)
  go_ret
  exact ⟨rfl, rfl⟩
theorem Copy_not {w : World} {v : Value} (ht : Calls Try.prog 23 #[v] w fun e w' => e = .returned (.bool false) ∧ w = w') : Calls Try.prog 18 #[v] w fun e w' => e = .returned (.pointer none) ∧ w = w' := by
  have Ht := Lib.hid ht; clear ht
  go_enter Try.func18, Try.ntmps18
  go_wp2_with (go_at_call 23; refine Ht.out.mono ?_; rintro e w1 ⟨rfl, rfl⟩)
  go_ret
  exact ⟨rfl, rfl⟩
end Go.Proofs.Ytkaehhldloclhaa
