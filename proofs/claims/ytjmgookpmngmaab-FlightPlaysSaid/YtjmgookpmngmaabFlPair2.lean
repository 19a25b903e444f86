/- The board and the document's board in one memory: what a call on one of them leaves of the other. -/
import Derived.Test.YtjmgookpmngmaabFlPair
namespace Go.Proofs.Ytjmgookpmngmaab
open Go Go.RowKit Go.Maps

theorem RBR.keptK {B : Nat} {w w' : World} {pr : Nat} {F : List Nat} {L : List (Key × List Int)} (h : RBR w pr F L) (t : Kept B F w w') : RBR w' pr F L := by
  obtain ⟨v, rs, h1, h2, h3, h4, hF, hn⟩ := h
  have hv : ∀ i, v.ownBlock = some i → i ∈ F := fun i hi => by rw [hF]; simp [hi]
  have hr : ∀ r ∈ rs, ∀ i, r.2.1.ownBlock = some i → i ∈ F := fun r hr i hi => by
    rw [hF]; simp only [List.mem_cons, List.mem_append, mem_rowBlocks]; exact .inr (.inr ⟨r, hr, hi⟩)
  exact ⟨v, rs, (t.2 pr (by rw [hF]; simp)).trans h1, own_kept h2 t hv, fun r hm => own_kept (h3 r hm) t (hr r hm), h4, hF, hn⟩

/-- Both in one memory. -/
def Pair (B : Nat) (w : World) (pb pr : Nat) (M : BM) (L : List (Key × List Int)) (n : Nat) : Prop := ∃ Fr, Bd B Fr w pb M n ∧ RBR w pr Fr L ∧ ∀ i ∈ Fr, B ≤ i

theorem Pair.kept {B : Nat} {w w' : World} {pb pr : Nat} {M : BM} {L : List (Key × List Int)} {n : Nat} (h : Pair B w pb pr M L n) (t : Touch [] w w') : Pair B w' pb pr M L n := by
  obtain ⟨Fr, h1, h2, h3⟩ := h
  exact ⟨Fr, h1.kept t, h2.kept t (by simp), h3⟩
theorem Pair.size {B : Nat} {w : World} {pb pr : Nat} {M : BM} {L : List (Key × List Int)} {n : Nat} (h : Pair B w pb pr M L n) : B ≤ w.heap.size := by
  obtain ⟨Fr, h1, _⟩ := h
  exact h1.2.2.1
/-- A call that turned the document's board. -/
theorem Pair.ref {B : Nat} {w w' : World} {pb pr : Nat} {M : BM} {L' : List (Key × List Int)} {n : Nat} {Fr : List Nat} (h1 : Bd B Fr w pb M n) (h3 : ∀ i ∈ Fr, B ≤ i) (m : RMoved w w' pr Fr L') : Pair B w' pb pr M L' n ∧ Below B w w' := by
  obtain ⟨⟨F, b1, b2⟩, b3, b4, b5⟩ := h1
  obtain ⟨F', r1, r2, r3⟩ := m
  refine ⟨⟨F', ⟨⟨F, b1.kept r2 (fun i hi => (b2 i hi).2), fun i hi => ⟨(b2 i hi).1, fun hm => ?_⟩⟩, b3, Nat.le_trans b4 r2.size, fun k hk => r1.lt k hk⟩, r1, fun i hi => ?_⟩, r2.below b4 h3⟩
  · rcases r3 i hm with h | h
    · exact (b2 i hi).2 h
    · have := b1.lt i hi; omega
  · rcases r3 i hi with h | h
    · exact h3 i h
    · omega
/-- A call that turned the board. -/
theorem Pair.board {B : Nat} {w w' : World} {pb pr : Nat} {M' : BM} {L : List (Key × List Int)} {n' : Nat} {Fr : List Nat} (h2 : RBR w pr Fr L) (h3 : ∀ i ∈ Fr, B ≤ i) (b : Bd B Fr w' pb M' n') (k : Kept B Fr w w') : Pair B w' pb pr M' L n' :=
  ⟨Fr, b, h2.keptK k, h3⟩

/-- plain: a key for the document's answer is that key. -/
theorem plain_any (w : World) (k : Key) : Calls Try.prog 18 #[.agg #[.string k.db, .string k.role, .int .i64 k.format, .string k.norm]] w fun e w' => e = .returned (keyV k) ∧ Touch [] w w' := by
  go_enter Try.func18, Try.ntmps18
  go_wp2
  exact bodyPost_ret (v := keyV k) (by simp [results, Try.results18, go_sem, keyV]) rfl ⟨rfl, ((Touch.refl _ _).alloc _).alloc _⟩

theorem BoardR.keptK {B : Nat} {w w' : World} {pb : Nat} {F : List Nat} {M : BM} (h : BoardR w pb F M) (t : Kept B F w w') : BoardR w' pb F M := by
  obtain ⟨bf, bc, rs, h1, h2, h3, h4, h5, hF, hn⟩ := h
  refine ⟨bf, bc, rs, (t.2 pb (by rw [hF]; simp)).trans h1, h2.of_block (t.2 bf (by rw [hF]; simp)), h3.of_block (t.2 bc (by rw [hF]; simp)), h4, fun r hr => own_kept (h5 r hr) t (fun i hi => ?_), hF, hn⟩
  rw [hF]; simp only [List.mem_cons, mem_rowBlocks]; exact .inr (.inr (.inr ⟨r, hr, hi⟩))
theorem Kept.rest {B : Nat} {ks ks' : List Nat} {w w' : World} (h : Kept B ks w w') (hk : ∀ k ∈ ks', k ∈ ks) : Kept B ks' w w' := ⟨h.1, fun k hm => h.2 k (hk k hm)⟩

/-- Copy: two boards, and the document's. -/
theorem CopyB {B : Nat} {ks : List Nat} {w : World} {pb : Nat} {M : BM} {n : Nat} (h : Bd B ks w pb M n) (hn : n < 1000000) :
    Calls Try.prog 22 #[.pointer (some ⟨pb, 0, none⟩)] w fun e w' => ∃ pc F' M', e = .returned (.pointer (some ⟨pc, 0, none⟩)) ∧ BoardR w' pc F' M' ∧ M'.fl.Perm M.fl ∧ M'.cl.Perm M.cl ∧
      Bd B (F' ++ ks) w' pb M n ∧ Touch [] w w' ∧ ∀ i ∈ F', B ≤ i ∧ i ∉ ks := by
  obtain ⟨⟨F, h1, h2⟩, h3, h4, h5⟩ := h
  refine (Copy_any h1 h3 hn).mono ?_
  rintro e w' ⟨pc, F', M', rfl, r1, t, r2, p1, p2⟩
  refine ⟨pc, F', M', rfl, r1, p1, p2, ⟨⟨F, h1.kept t (by simp), fun i hi => ⟨(h2 i hi).1, ?_⟩⟩, h3, Nat.le_trans h4 t.size, fun k hk => ?_⟩, t, fun i hi => ⟨Nat.le_trans h4 (r2 i hi), fun hm => by have := h5 i hm; have := r2 i hi; omega⟩⟩
  · rw [List.mem_append]
    rintro (hm | hm)
    · have := r2 i hm; have := h1.lt i hi; omega
    · exact (h2 i hi).2 hm
  · rcases List.mem_append.1 hk with hm | hm
    · exact r1.lt k hm
    · exact Nat.lt_of_lt_of_le (h5 k hm) t.size
end Go.Proofs.Ytjmgookpmngmaab
