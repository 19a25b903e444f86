/- VersPlays: the plain facts; the stamp among the arguments. -/
import Derived.Test.YtjmgookpmngmaacVrBi
namespace Go.Proofs.Ytjmgookpmngmaac
open Go Go.RowKit Go.Maps Go.WideShapes

theorem bump_num {M : VA} {bumps l : List ByteArray} {N : Nat} (h : ∀ s, M.num s = cntB bumps s) (hl : N = l.length) (s : ByteArray) : (M.bump l).num s = cntB (bumpTo bumps l N) s := by
  have := bumpTo_cnt (bumps := bumps) (l := l) s N (by omega)
  rw [show l.take N = l by rw [hl]; exact List.take_length] at this
  rw [this]
  simp only [VA.bump, h]
  cases hasB l s <;> simp
theorem mark_dirty {M : VA} {marks : List (Int × ByteArray)} (h : ∀ s c, M.dirty s c = true ↔ (c, s) ∈ marks) (c : Int) (l : List ByteArray) (s : ByteArray) (c' : Int) : (M.mark c l).dirty s c' = true ↔ (c', s) ∈ markTo marks c l := by
  simp only [VA.mark, markTo, Bool.or_eq_true, Bool.and_eq_true, decide_eq_true_eq, h, List.mem_append, List.mem_map, Prod.mk.injEq]
  constructor
  · rintro (h | ⟨h1, h2⟩)
    · exact .inl h
    · exact .inr ⟨s, hasB_iff.1 h2, h1, rfl⟩
  · rintro (h | ⟨x, hx, h1, rfl⟩)
    · exact .inl h
    · exact .inr ⟨h1, hasB_iff.2 hx⟩
theorem clean_dirty {M : VA} {marks : List (Int × ByteArray)} (h : ∀ s c, M.dirty s c = true ↔ (c, s) ∈ marks) (c : Int) (s : ByteArray) (c' : Int) : (M.clean c).dirty s c' = true ↔ (c', s) ∈ unmark marks c := by
  simp only [VA.clean, unmark, Bool.and_eq_true, Bool.not_eq_true', decide_eq_false_iff_not, h, List.mem_filter, decide_eq_true_eq]
  exact ⟨fun ⟨a, b⟩ => ⟨a, fun e => b e.symm⟩, fun ⟨a, b⟩ => ⟨a, fun e => b e.symm⟩⟩
theorem busy_same {M : VA} {marks : List (Int × ByteArray)} (h : ∀ s c, M.dirty s c = true ↔ (c, s) ∈ marks) (l : List ByteArray) {b : Bool} (hb : b = true ↔ ∃ s ∈ l, ∃ c, M.dirty s c = true) : b = rbusyB marks l := by
  rw [Bool.eq_iff_iff, hb]
  simp only [rbusyB, List.any_eq_true, hasB_iff]
  constructor
  · rintro ⟨s, hs, c, hc⟩; exact ⟨(c, s), (h s c).1 hc, hs⟩
  · rintro ⟨⟨c, s⟩, hm, hs⟩; exact ⟨s, hs, c, (h s c).2 hm⟩

/-- A row of numbers among the arguments. -/
structure NumsA (w : World) (A : Option Addr) (n : Nat) (l : List Int) : Prop where
  row : NumsI w A n l
  low : LowA w.heap.size [] A n
  len : n ≤ maxLen
theorem nums_of_cells {w : World} {m : Nat} {cs : List Value} (h : Rd Try.prog w m 31 cs) : ∃ A n cp l, cs = [.slice A n cp] ∧ NumsA w A n l := by
  rcases h.slice Try.underlying31 with h0 | ⟨a, len, cap, m', h0, hl, hc, _, hx⟩
  · exact ⟨none, 0, 0, [], h0, ⟨rfl, .inl rfl⟩, .inl rfl, by decide⟩
  · have c1 : Try.prog.cellsOf 3 = 1 := by kernel_rfl
    rw [c1] at hx
    by_cases hz : len = 0
    · subst hz
      exact ⟨some a, 0, cap, [], h0, ⟨rfl, .inl rfl⟩, .inl rfl, by decide⟩
    have hK : ∀ i, ∃ s : Int, i < len → w.cell? (a.add (i * 1)) = some (.int .i64 s) := fun i => by
      by_cases hi : i < len
      · obtain ⟨cs', h1, h2⟩ := hx i hi
        obtain ⟨s, rfl, hs⟩ := h2.int Try.underlying3
        obtain ⟨_, _, hcell⟩ := World.cells?_some h1
        exact ⟨s, fun _ => hcell 0 (by decide)⟩
      · exact ⟨0, fun h => absurd h hi⟩
    obtain ⟨K, hK⟩ := Classical.axiomOfChoice hK
    have h00 := hK 0 (by omega)
    have hblk := World.block_lt_of_cell? w _ h00
    obtain ⟨g, o, rfl⟩ : ∃ g o, a = ⟨g, o, none⟩ := by
      obtain ⟨g, o, sp⟩ := a
      cases sp with
      | none => exact ⟨g, o, rfl⟩
      | some k =>
        have : (⟨g, o, some k⟩ : Addr).add (0 * 1) = ⟨g, o, some k⟩ := by simp [Addr.add]
        rw [this] at h00
        simp only [World.cell?, Option.isSome_some, if_true] at h00
        split at h00 <;> cases h00
    have hadd : ∀ j, (⟨g, o, none⟩ : Addr).add (j * 1) = ⟨g, o + j, none⟩ := fun j => by unfold Addr.add; split <;> simp_all
    refine ⟨some ⟨g, o, none⟩, len, cap, (List.range len).map K, h0, ⟨by simp, .inr ⟨g, o, rfl, by rw [hadd] at hblk; exact hblk, fun j hj => ?_⟩⟩, .inr fun b hb => .inl (by cases hb; rw [hadd] at hblk; exact hblk), Nat.le_trans hl hc⟩
    have := hK j hj
    rw [hadd] at this
    rw [this]
    simp [List.getD_eq_getElem?_getD, List.getElem?_map, List.getElem?_range hj]
theorem stamp_of_arg {w : World} {n base : Nat} {v : Value} (hv : Value.okWide Try.prog w .any base 33 v) (h : Rd Try.prog w n 33 v.cells.toList) :
    ∃ E A1 n1 c1 names A2 n2 c2 nums, v = .agg #[.int .i64 E, .slice A1 n1 c1, .slice A2 n2 c2] ∧ NamesA w A1 n1 names ∧ NumsA w A2 n2 nums := by
  obtain ⟨cs, rfl, _⟩ := okWide_struct Try.underlying33 hv
  obtain ⟨hl, m, hf⟩ := h.struct Try.underlying33
  have hl3 : cs.toList.length = 3 := hl.trans (by kernel_rfl)
  have c1 : Try.prog.cellsOf 3 = 1 := by kernel_rfl
  have c2 : Try.prog.cellsOf 23 = 1 := by kernel_rfl
  have c3 : Try.prog.cellsOf 31 = 1 := by kernel_rfl
  obtain ⟨cs⟩ := cs
  match cs, hl3 with
  | [v0, v1, v2], _ =>
    have f0 : Rd _ _ _ 3 [v0] := Rd.field hf 0 rfl c1
    have f1 : Rd _ _ _ 23 [v1] := Rd.field hf 1 rfl c2
    have f2 : Rd _ _ _ 31 [v2] := Rd.field hf 2 rfl c3
    obtain ⟨E, e0, _⟩ := f0.int Try.underlying3
    obtain ⟨A1, n1, cp1, l1, e1, w1, _⟩ := names_of_cells f1
    obtain ⟨A2, n2, cp2, l2, e2, w2⟩ := nums_of_cells f2
    simp only [List.cons.injEq, and_true] at e0 e1 e2
    subst e0 e1 e2
    exact ⟨E, A1, n1, cp1, l1, A2, n2, cp2, l2, rfl, w1, w2⟩
theorem NumsA.low' {w w' : World} {B : Nat} {A : Option Addr} {n : Nat} {l : List Int} (h : NumsA w A n l) (hB : w.heap.size = B) (t : Below B w w') (hs : w.heap.size ≤ w'.heap.size) : NumsI w' A n l := by
  subst hB
  exact h.row.keptK (B := w.heap.size) (ks := []) ⟨t, by simp⟩ h.low hs

/-- Copy, packed: the copy takes the place, whatever becomes of the elder one. -/
theorem CopyV {B : Nat} {ks : List Nat} {w : World} {pv : Nat} {M : VA} {n : Nat} (h : Ver B ks w pv M n) (hn : n < 1000000) :
    Calls Try.prog 26 #[.pointer (some ⟨pv, 0, none⟩)] w fun e w' => ∃ pc bc rs' L, e = .returned (.pointer (some ⟨pc, 0, none⟩)) ∧ L = blocks pc bc rs' ∧ VerC w' pc bc M.ep rs' ∧ (∀ s, numOf rs' s = M.num s) ∧ (∀ s c, dirtyOf rs' s c = M.dirty s c) ∧ Small rs' n ∧
      Ver B (L ++ ks) w' pv M n ∧ Touch [] w w' ∧ (∀ i ∈ L, w.heap.size ≤ i) := by
  obtain ⟨bm, rs, h1, h2, h3, h4, h5, h6, h7, h8, h9⟩ := h
  refine (Copy_any h1 h4 hn).mono ?_
  rintro e w' ⟨pc, bc, rs', rfl, c1, c2, c3, c4, t⟩
  refine ⟨pc, bc, rs', _, rfl, rfl, c1, fun s => by rw [c2.num, h2], fun s c => by rw [c2.dirty, h3], c3, ?_, t, c4⟩
  exact Ver.watchL ⟨bm, rs, h1, h2, h3, h4, h5, h6, h7, h8, h9⟩ t _ fun g hg => ⟨c4 g hg, c1.lt g hg⟩
end Go.Proofs.Ytjmgookpmngmaac
