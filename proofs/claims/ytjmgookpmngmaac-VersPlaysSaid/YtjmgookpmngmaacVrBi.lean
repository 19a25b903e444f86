/- vers and the document's vers, in one memory. -/
import Derived.Test.YtjmgookpmngmaacVeCopy2
import Derived.Test.YtjmgookpmngmaacVr4
namespace Go.Proofs.Ytjmgookpmngmaac
open Go Go.RowKit Go.Maps

theorem RVC.keptK {B : Nat} {ks : List Nat} {w w' : World} {pr : Nat} {v1 v2 : Value} {ep : Int} {bumps : List ByteArray} {marks : List (Int × ByteArray)} (h : RVC w pr v1 v2 ep bumps marks) (k : Kept B ks w w') (hk : ∀ i ∈ rblocks pr v1 v2, i ∈ ks) : RVC w' pr v1 v2 ep bumps marks := by
  have own : ∀ {e : TypeId} {size n : Nat} {v : Value} {xs : List Value}, w.ownsRow 0 e size v n xs → (∀ i, v.ownBlock = some i → i ∈ ks) → w'.ownsRow 0 e size v n xs := fun h hs => by
    refine ⟨h.1, ?_⟩
    rcases h.2 with hn | ⟨g, cap, cur, rfl, hb, hgg, rest⟩
    · exact .inl hn
    · exact .inr ⟨g, cap, cur, rfl, hb, (k.2 g (hs g rfl)).trans hgg, rest⟩
  exact ⟨(k.2 pr (hk pr (by simp [rblocks]))).trans h.cells, own h.own1 fun i hi => hk i (by simp [rblocks, hi]), own h.own2 fun i hi => hk i (by simp [rblocks, hi]), h.ap1, h.ap2⟩
/-- What is watched may be turned. -/
theorem Ver.keptW {B : Nat} {ks S : List Nat} {w w' : World} {pv : Nat} {M : VA} {n : Nat} (h : Ver B ks w pv M n) (t : Touch S w w') (hS : ∀ i ∈ S, i ∈ ks ∨ w.heap.size ≤ i) : Ver B ks w' pv M n := by
  obtain ⟨bm, rs, h1, h2, h3, h4, h5, h6, h7, h8, h9⟩ := h
  refine ⟨bm, rs, h1.kept t fun i hi hm => ?_, h2, h3, h4, h5, Nat.le_trans h6 t.size, fun k hk => Nat.lt_of_lt_of_le (h7 k hk) t.size, h8, h9⟩
  rcases hS i hm with q | q
  · exact (h5 i hi).2 q
  · have := h1.lt i hi; omega
/-- Other blocks are watched: none of one's own. -/
theorem Ver.swap {B : Nat} {ks ks' S : List Nat} {w w' : World} {pv : Nat} {M : VA} {n : Nat} (h : Ver B ks w pv M n) (t : Touch S w w') (hS : ∀ i ∈ S, i ∈ ks) (hk : ∀ k ∈ ks', k ∈ ks ∨ w.heap.size ≤ k) (hl : ∀ k ∈ ks', k < w'.heap.size) : Ver B ks' w' pv M n := by
  obtain ⟨bm, rs, h1, h2, h3, h4, h5, h6, h7, h8, h9⟩ := h
  refine ⟨bm, rs, h1.kept t (fun i hi hm => (h5 i hi).2 (hS i hm)), h2, h3, h4, fun i hi => ⟨(h5 i hi).1, fun hm => ?_⟩, Nat.le_trans h6 t.size, hl, h8, h9⟩
  rcases hk i hm with q | q
  · exact (h5 i hi).2 q
  · have := h1.lt i hi; omega

structure Bi (B : Nat) (X : List Nat) (w : World) (pv pr : Nat) (M : VA) (n : Nat) (v1 v2 : Value) (bumps : List ByteArray) (marks : List (Int × ByteArray)) : Prop where
  v : Ver B (rblocks pr v1 v2 ++ X) w pv M n
  r : RVC w pr v1 v2 M.ep bumps marks
  lo : ∀ i ∈ rblocks pr v1 v2, B ≤ i ∧ i ∉ X
  num : ∀ s, M.num s = cntB bumps s
  dirty : ∀ s c, M.dirty s c = true ↔ (c, s) ∈ marks
  lenb : bumps.length ≤ n
  lenm : marks.length ≤ n
section
variable {B : Nat} {X : List Nat} {w w' w'' : World} {pv pr : Nat} {M M' : VA} {n n' : Nat} {v1 v2 : Value} {bumps bumps' : List ByteArray} {marks marks' : List (Int × ByteArray)}
theorem Bi.kept (h : Bi B X w pv pr M n v1 v2 bumps marks) (t : Touch [] w w') : Bi B X w' pv pr M n v1 v2 bumps marks :=
  ⟨h.v.kept t, h.r.kept0 t, h.lo, h.num, h.dirty, h.lenb, h.lenm⟩
theorem Bi.mono (h : Bi B X w pv pr M n v1 v2 bumps marks) {m : Nat} (hm : n ≤ m) : Bi B X w pv pr M m v1 v2 bumps marks :=
  ⟨h.v.mono hm, h.r, h.lo, h.num, h.dirty, Nat.le_trans h.lenb hm, Nat.le_trans h.lenm hm⟩
theorem Bi.size (h : Bi B X w pv pr M n v1 v2 bumps marks) : B ≤ w.heap.size := h.v.size
/-- A new block is watched beside. -/
theorem Bi.box (h : Bi B X w pv pr M n v1 v2 bumps marks) (o : Obj) : Bi B (w.heap.size :: X) (w.alloc o) pv pr M n v1 v2 bumps marks := by
  have t : Touch [] w (w.alloc o) := (Touch.refl _ _).alloc o
  have k := h.kept t
  have hl := h.r.lt
  refine ⟨(h.v.watch t w.heap.size (Nat.le_refl _) (by simp)).rest (fun k hk => by simp only [List.mem_append, List.mem_cons] at hk ⊢; rcases hk with q | q | q <;> simp [q]), k.r, fun i hi => ⟨(h.lo i hi).1, fun hm => ?_⟩, h.num, h.dirty, h.lenb, h.lenm⟩
  rcases List.mem_cons.1 hm with e | hm
  · have := hl i hi; omega
  · exact (h.lo i hi).2 hm
theorem Bi.drop {X' : List Nat} (h : Bi B X w pv pr M n v1 v2 bumps marks) (hx : ∀ i ∈ X', i ∈ X) : Bi B X' w pv pr M n v1 v2 bumps marks :=
  ⟨h.v.rest fun k hk => by rcases List.mem_append.1 hk with q | q; exact List.mem_append.2 (.inl q); exact List.mem_append.2 (.inr (hx k q)), h.r, fun i hi => ⟨(h.lo i hi).1, fun hm => (h.lo i hi).2 (hx i hm)⟩, h.num, h.dirty, h.lenb, h.lenm⟩
/-- A call on the one, then a call on the other. -/
theorem Bi.both (h : Bi B X w pv pr M n v1 v2 bumps marks) (v : Ver B (rblocks pr v1 v2 ++ X) w' pv M' n') (k : Kept B (rblocks pr v1 v2 ++ X) w w') (m : RVM w' w'' pr v1 v2 M'.ep bumps' marks') (hnum : ∀ s, M'.num s = cntB bumps' s) (hd : ∀ s c, M'.dirty s c = true ↔ (c, s) ∈ marks') (lb : bumps'.length ≤ n') (lm : marks'.length ≤ n') :
    (∃ v1' v2', Bi B X w'' pv pr M' n' v1' v2' bumps' marks') ∧ Below B w w'' ∧ (∀ x ∈ X, w''.heap[x]? = w.heap[x]?) ∧ w'.heap.size ≤ w''.heap.size := by
  obtain ⟨⟨v1', v2', r', hnew⟩, t⟩ := m
  have hlow : ∀ i ∈ rblocks pr v1 v2, B ≤ i := fun i hi => (h.lo i hi).1
  have hX : ∀ x ∈ X, x < w'.heap.size := by
    obtain ⟨_, _, _, _, _, _, _, _, h7, _⟩ := v
    exact fun x hx => h7 x (List.mem_append.2 (.inr hx))
  refine ⟨⟨v1', v2', ⟨v.swap t (fun i hi => List.mem_append.2 (.inl hi)) (fun i hi => ?_) (fun i hi => ?_), r', fun i hi => ?_, hnum, hd, lb, lm⟩⟩, k.1.trans (t.below v.size hlow), fun x hx => ?_, t.size⟩
  · rcases List.mem_append.1 hi with q | q
    · rcases hnew i q with q2 | q2
      · exact .inl (List.mem_append.2 (.inl q2))
      · exact .inr q2
    · exact .inl (List.mem_append.2 (.inr q))
  · rcases List.mem_append.1 hi with q | q
    · exact r'.lt i q
    · exact Nat.lt_of_lt_of_le (hX i q) t.size
  · rcases hnew i hi with q | q
    · exact h.lo i q
    · exact ⟨by have := v.size; omega, fun hx => by have := hX i hx; omega⟩
  · exact (t.block x (hX x hx) (fun hm => (h.lo x hm).2 hx)).trans (k.2 x (List.mem_append.2 (.inr hx)))
end
end Go.Proofs.Ytjmgookpmngmaac
