/- A queue's swap. -/
import Derived.Test.YthafopnaecbjdaaEx3
import Derived.BigRegion
import Derived.StillTailTactics
import Derived.Deep.MidRow
namespace Go.Proofs.Ythafopnaecbjdaa
open Go Go.RowKit Go.Maps Go.Proofs.YthafopnaecbjdaaW.PrintWords Go.Proofs.YthafopnaecbjdaaW.PrintLast

/-! ### cells -/
def setL (C : Array Value) : Nat → List Value → Array Value
  | _, [] => C
  | o, v :: r => setL (C.setIfInBounds o v) (o + 1) r
theorem setL_size : ∀ (vs : List Value) (o : Nat) (C : Array Value), (setL C o vs).size = C.size
  | [], _, _ => rfl
  | v :: r, o, C => by rw [setL, setL_size r (o + 1)]; simp
theorem block_setCells (b : Nat) (t : TypeId) (fr : Nat × Nat) : ∀ (vs : List Value) (o : Nat) (w : World) (C : Array Value), w.heap[b]? = some (.cells C t fr) → (w.setCells b o vs).heap[b]? = some (.cells (setL C o vs) t fr)
  | [], _, _, _, h => h
  | v :: r, o, w, C, h => by
    rw [World.setCells, setL]
    exact block_setCells b t fr r (o + 1) _ _ (block_set h v)
theorem touch_setCells {S : List Nat} {w : World} (b : Nat) (hb : b ∈ S ∨ w.heap.size ≤ b) : ∀ (vs : List Value) (o : Nat) (w' : World), Touch S w w' → Touch S w (w'.setCells b o vs)
  | [], _, _, h => h
  | v :: r, o, w', h => by
    rw [World.setCells]
    exact touch_setCells b hb r (o + 1) _ (h.setCell (a := ⟨b, o, none⟩) v hb)
def cellsI (x : It) : List Value := [.string x.key, .int .i64 x.at_, .int .i64 x.num]
def RowAt (C : Array Value) (j : Nat) (x : It) : Prop := C[j * 3]? = some (.string x.key) ∧ C[j * 3 + 1]? = some (.int .i64 x.at_) ∧ C[j * 3 + 2]? = some (.int .i64 x.num)
theorem rowAt_same (C : Array Value) (i : Nat) (x : It) (h : i * 3 + 2 < C.size) : RowAt (setL C (i * 3) (cellsI x)) i x := by
  unfold RowAt cellsI
  simp only [setL, Array.getElem?_setIfInBounds, Array.size_setIfInBounds]
  refine ⟨?_, ?_, ?_⟩
  · rw [if_neg (by omega), if_neg (by omega), if_pos trivial, if_pos (by omega)]
  · rw [if_neg (by omega), if_pos trivial, if_pos (by omega)]
  · rw [if_pos trivial, if_pos (by omega)]
theorem rowAt_other (C : Array Value) (i j : Nat) (x y : It) (h : RowAt C j y) (hne : j ≠ i) : RowAt (setL C (i * 3) (cellsI x)) j y := by
  obtain ⟨a, b, c⟩ := h
  unfold RowAt cellsI
  simp only [setL, Array.getElem?_setIfInBounds, Array.size_setIfInBounds]
  refine ⟨?_, ?_, ?_⟩
  · rw [if_neg (by omega), if_neg (by omega), if_neg (by omega)]; exact a
  · rw [if_neg (by omega), if_neg (by omega), if_neg (by omega)]; exact b
  · rw [if_neg (by omega), if_neg (by omega), if_neg (by omega)]; exact c
theorem at_of {H : List It} {j : Nat} {x : It} (h : H[j]? = some x) : j < H.length ∧ atI H j = x := by
  obtain ⟨h1, h2⟩ := List.getElem?_eq_some_iff.1 h
  exact ⟨h1, (Hp.at_lt z0 H j h1).trans h2⟩
theorem of_at {H : List It} {j : Nat} (h : j < H.length) : H[j]? = some (atI H j) := by
  rw [List.getElem?_eq_getElem h]; exact congrArg some (Hp.at_lt z0 H j h).symm
abbrev swI (H : List It) (i k : Nat) : List It := Hp.sw z0 H i k
theorem at_swI (H : List It) (i k j : Nat) (hi : i < H.length) (hk : k < H.length) (hj : j < H.length) : atI (swI H i k) j = if j = k then atI H i else if j = i then atI H k else atI H j := Hp.at_sw z0 H i k j hi hk hj
/-- The row, two of its elements swapped. -/
theorem rowAt_sw {C : Array Value} {H : List It} {cp i k : Nat} (hs : C.size = cp * 3) (hl : H.length ≤ cp) (h : ∀ (j : Nat) (x : It), H[j]? = some x → RowAt C j x) (hi : i < H.length) (hk : k < H.length) :
    ∀ (j : Nat) (x : It), (swI H i k)[j]? = some x → RowAt (setL (setL C (i * 3) (cellsI (atI H k))) (k * 3) (cellsI (atI H i))) j x := by
  intro j x hx
  obtain ⟨hj, rfl⟩ := at_of hx
  rw [Hp.sw_len] at hj
  rw [at_swI H i k j hi hk hj]
  by_cases e1 : j = k
  · subst e1
    rw [if_pos rfl]
    exact rowAt_same _ _ _ (by rw [setL_size]; omega)
  · rw [if_neg e1]
    refine rowAt_other _ _ _ _ _ ?_ e1
    by_cases e2 : j = i
    · subst e2
      rw [if_pos rfl]
      exact rowAt_same _ _ _ (by omega)
    · rw [if_neg e2]
      exact rowAt_other _ _ _ _ _ (h j _ (of_at hj)) e2

/-! ### places -/
theorem Places.ne {P : List (ByteArray × Value)} {H : List It} (h : Places P H) {i j : Nat} (hi : i < H.length) (hj : j < H.length) (hne : i ≠ j) : (atI H i).key ≠ (atI H j).key := by
  intro e
  have h1 := h.nodup
  have e1 : (H.map (·.key))[i]'(by simpa using hi) = (H.map (·.key))[j]'(by simpa using hj) := by
    simp only [List.getElem_map]
    have a := Hp.at_lt z0 H i hi
    have b := Hp.at_lt z0 H j hj
    rw [← a, ← b]
    exact e
  exact hne ((List.getElem_inj h1).1 e1)
theorem Places.len {P : List (ByteArray × Value)} {H : List It} (h : Places P H) (hn : (P.map (·.1)).Nodup) : P.length = H.length := by
  have hp : (P.map (·.1)).Perm (H.map (·.key)) := (List.perm_ext_iff_of_nodup hn h.nodup).2 fun k => by
    constructor
    · intro hk
      obtain ⟨p, hp, rfl⟩ := List.mem_map.1 hk
      by_cases hm : ∀ x ∈ H, x.key ≠ p.1
      · exact absurd rfl (mget_none.1 (h.miss _ hm) p hp)
      · simp only [Classical.not_forall] at hm
        obtain ⟨x, hx, he⟩ := hm
        exact List.mem_map.2 ⟨x, hx, Classical.not_not.1 he⟩
    · intro hk
      obtain ⟨x, hx, rfl⟩ := List.mem_map.1 hk
      obtain ⟨j, hj⟩ := List.mem_iff_getElem?.1 hx
      exact List.mem_map.2 ⟨_, mget_mem (h.hit j x hj), rfl⟩
  simpa using hp.length_eq
theorem mput_len {l : List (ByteArray × Value)} {x : ByteArray} {v u : Value} (h : mget l x = some u) : (mput l x v).length = l.length := by
  have := congrArg List.length (mput_keys l x v)
  rw [if_pos (List.mem_map.2 ⟨_, mget_mem h, rfl⟩)] at this
  simpa using this
theorem Places.sw {P : List (ByteArray × Value)} {H : List It} (h : Places P H) {i k : Nat} (hi : i < H.length) (hk : k < H.length) : Places (mput (mput P (atI H k).key (.int .i64 i)) (atI H i).key (.int .i64 k)) (swI H i k) := by
  have hp := Hp.sw_perm z0 H i k hi hk
  refine ⟨(hp.map _).nodup_iff.2 h.nodup, fun j x hx => ?_, fun q hq => ?_⟩
  · obtain ⟨hj, rfl⟩ := at_of hx
    rw [Hp.sw_len] at hj
    rw [at_swI H i k j hi hk hj, mget_mput]
    by_cases e1 : j = k
    · subst e1
      rw [if_pos rfl, if_pos rfl]
    · rw [if_neg e1]
      by_cases e2 : j = i
      · subst e2
        rw [if_pos rfl, if_neg (h.ne hj hk e1), mget_mput, if_pos rfl]
      · rw [if_neg e2, if_neg (h.ne hi hj (Ne.symm e2)), mget_mput, if_neg (h.ne hk hj (Ne.symm e1))]
        exact h.hit j _ (of_at hj)
  · have hq' : ∀ x ∈ H, x.key ≠ q := fun x hx => hq x (hp.symm.subset hx)
    rw [mget_mput, if_neg (hq' _ (List.mem_of_getElem? (of_at hi))), mget_mput, if_neg (hq' _ (List.mem_of_getElem? (of_at hk)))]
    exact h.miss q hq'

/-- What a call of the queue may turn. -/
def Foot (p mb : Nat) (hv : Value) : List Nat := p :: mb :: hv.ownBlock.toList
section
variable {w w' : World} {p mb hb cp n : Nat} {hv : Value} {H : List It} {P : List (ByteArray × Value)} {sets : Int}
theorem QA.ne_row (h : QA w p mb (.slice (some ⟨hb, 0, none⟩) n cp) H P sets) : p ≠ hb := by
  rintro rfl
  rcases h.row with ⟨e, _⟩ | ⟨hb, cp, C, e, hh, _⟩
  · cases e
  · cases e
    have := h.blk
    rw [hh] at this
    cases this
theorem QA.fr (h : QA w p mb (.slice (some ⟨hb, 0, none⟩) n cp) H P sets) (j : Nat) : w.frozen? ⟨hb, j, none⟩ = false := by
  rcases h.row with ⟨e, _⟩ | ⟨hb, cp, C, e, hh, _⟩
  · cases e
  · cases e
    exact frozen_of hh j
/-- Behind the swap of the two elements. -/
structure After (w w2 : World) (p hb mb cp : Nat) (H : List It) (i k : Nat) (P : List (ByteArray × Value)) (sets : Int) : Prop where
  blk : w2.heap[p]? = some (.cells #[.slice (some ⟨hb, 0, none⟩) H.length cp, .map (some mb), .int .i64 sets] 49 (0, 0))
  row : RowI w2 (.slice (some ⟨hb, 0, none⟩) (swI H i k).length cp) (swI H i k)
  map : MapT w2 mb strV goodS P
  t : Touch [hb] w w2
theorem after_ok (h : QA w p mb (.slice (some ⟨hb, 0, none⟩) H.length cp) H P sets) {i k : Nat} (hi : i < H.length) (hk : k < H.length) : After w (((w.setCells hb (i * 3) (cellsI (atI H k))).setCells hb (k * 3) (cellsI (atI H i))).drew) p hb mb cp H i k P sets := by
  have hp := h.ne_row
  have t : Touch [hb] w (((w.setCells hb (i * 3) (cellsI (atI H k))).setCells hb (k * 3) (cellsI (atI H i))).drew) := (touch_setCells hb (.inl (by simp)) _ _ _ (touch_setCells hb (.inl (by simp)) _ _ _ (Touch.refl _ w))).drew
  refine ⟨(t.block p (heap_lt h.blk) (by simpa using hp)).trans h.blk, ?_, ?_, t⟩
  · clear t
    rcases h.row with ⟨e, _⟩ | ⟨hb', cp', C, e, hh, hs, hl, hm, hx⟩
    · cases e
    · cases e
      have hC := block_setCells hb _ _ (cellsI (atI H i)) (k * 3) _ _ (block_setCells hb _ _ (cellsI (atI H k)) (i * 3) _ _ hh)
      generalize (w.setCells hb (i * 3) (cellsI (atI H k))).setCells hb (k * 3) (cellsI (atI H i)) = W at hC ⊢
      exact .inr ⟨hb, cp, _, rfl, hC, by rw [setL_size, setL_size]; exact hs, by rw [Hp.sw_len]; exact hl, hm, rowAt_sw hs hl hx hi hk⟩
  · refine h.map.of_block (t.block mb h.map.lt ?_)
    rcases h.row with ⟨e, _⟩ | ⟨hb', cp', C, e, hh, _⟩
    · cases e
    · cases e
      obtain ⟨es, cl, hmm, _⟩ := h.map
      simp only [List.mem_singleton]
      rintro rfl
      rw [hh] at hmm
      cases hmm
theorem After.cells {w2 : World} {i k : Nat} (h : After w w2 p hb mb cp H i k P sets) (hi : i < H.length) (hk : k < H.length) : w2.cell? ⟨p, 0, none⟩ = some (.slice (some ⟨hb, 0, none⟩) H.length cp) ∧ w2.cell? ⟨p, 1, none⟩ = some (.map (some mb)) ∧ w2.cell? ⟨hb, i * 3, none⟩ = some (.string (atI H k).key) ∧ w2.cell? ⟨hb, k * 3, none⟩ = some (.string (atI H i).key) := by
  refine ⟨by rw [cell_of h.blk]; rfl, by rw [cell_of h.blk]; rfl, ?_⟩
  rcases h.row with ⟨e, _⟩ | ⟨hb', cp', C, e, hh, hs, hl, hm, hx⟩
  · cases e
  · cases e
    have a1 := (hx i _ (of_at (by rw [Hp.sw_len]; exact hi))).1
    have a2 := (hx k _ (of_at (by rw [Hp.sw_len]; exact hk))).1
    rw [at_swI H i k i hi hk hi] at a1
    rw [at_swI H i k k hi hk hk, if_pos rfl] at a2
    refine ⟨?_, by rw [cell_of hh]; exact a2⟩
    rw [cell_of hh, a1]
    by_cases e : i = k
    · subst e; rw [if_pos rfl]
    · rw [if_neg e, if_pos rfl]
theorem Touch.undrew {S : List Nat} {w w' : World} (h : Touch S w.drew w') : Touch S w w' := ⟨h.os, h.tape, h.output, h.size, h.block⟩
structure After2 (w2 w3 : World) (mb : Nat) (P' : List (ByteArray × Value)) : Prop where
  t : Touch [mb] w2 w3
  map : MapT w3 mb strV goodS P'
theorem After.apart {w2 : World} {i k : Nat} (h : After w w2 p hb mb cp H i k P sets) : p ≠ mb ∧ hb ≠ mb := by
  obtain ⟨es, cl, hmm, _⟩ := h.map
  refine ⟨fun e => ?_, fun e => ?_⟩
  · subst e
    have := h.blk
    rw [hmm] at this
    cases this
  · subst e
    rcases h.row with ⟨e, _⟩ | ⟨hb', cp', C, e, hh, _⟩
    · cases e
    · cases e
      rw [hmm] at hh
      cases hh
theorem After.next {w2 w3 : World} {i k : Nat} {P' : List (ByteArray × Value)} (h : After w w2 p hb mb cp H i k P sets) (h3 : After2 w2 w3 mb P') (hi : i < H.length) (hk : k < H.length) : w3.cell? ⟨p, 0, none⟩ = some (.slice (some ⟨hb, 0, none⟩) H.length cp) ∧ w3.cell? ⟨p, 1, none⟩ = some (.map (some mb)) ∧ w3.cell? ⟨hb, k * 3, none⟩ = some (.string (atI H i).key) := by
  obtain ⟨a, b, c, d⟩ := h.cells hi hk
  obtain ⟨e1, e2⟩ := h.apart
  exact ⟨h3.t.cell a (by simpa using e1), h3.t.cell b (by simpa using e1), h3.t.cell d (by simpa using e2)⟩
theorem swap_end {w2 w3 w4 : World} {i k : Nat} (h : QA w p mb (.slice (some ⟨hb, 0, none⟩) H.length cp) H P sets) (hpl : Places P H) (hi : i < H.length) (hk : k < H.length) (h2 : After w w2 p hb mb cp H i k P sets) (h3 : After2 w2 w3 mb (mput P (atI H k).key (.int .i64 i))) (h4 : After2 w3 w4 mb (mput (mput P (atI H k).key (.int .i64 i)) (atI H i).key (.int .i64 k))) :
    (∃ P', QA w4 p mb (.slice (some ⟨hb, 0, none⟩) H.length cp) (swI H i k) P' sets ∧ Places P' (swI H i k)) ∧ Touch (Foot p mb (.slice (some ⟨hb, 0, none⟩) H.length cp)) w w4 := by
  obtain ⟨e1, e2⟩ := h2.apart
  have t : Touch [mb] w2 w4 := h3.t.trans h4.t (by simp)
  have hr := h2.row
  rw [Hp.sw_len] at hr
  refine ⟨⟨_, ⟨(t.block p (heap_lt h2.blk) (by simpa using e1)).trans h2.blk, hr.touch t (by simp [Value.ownBlock, e2]), h4.map, fun x hx => h.keys x ((Hp.sw_perm z0 H i k hi hk).subset hx)⟩, hpl.sw hi hk⟩, ?_⟩
  exact (h2.t.mono (by simp [Foot, Value.ownBlock])).trans t (fun q hq => .inl (by simp [Foot]; simp at hq; exact .inr (.inl hq)))
set_option maxHeartbeats 4000000 in
theorem swap_any (h : QA w p mb hv H P sets) (hpl : Places P H) (hsm : H.length ≤ 100) (i k : Nat) (hi : i < H.length) (hk : k < H.length) : Calls Try.prog 28 #[.pointer (some ⟨p, 0, none⟩), .int .i64 i, .int .i64 k] w fun e w' => e = .returned (.tuple #[]) ∧ (∃ P', QA w' p mb hv (swI H i k) P' sets ∧ Places P' (swI H i k)) ∧ Touch (Foot p mb hv) w w' := by
  have hui := Try.underlying52
  have HQ := Lib.hid h
  obtain ⟨c0, c1, _⟩ := h.cells
  have ea : atI H i = H[i] := Hp.at_lt z0 H i hi
  have eb : atI H k = H[k] := Hp.at_lt z0 H k hk
  obtain ⟨hb, cp, e1, a0, a1, a2⟩ := h.at i _ (of_at hi)
  obtain ⟨hb', cp', e2, b0, b1, b2⟩ := h.at k _ (of_at hk)
  obtain ⟨rfl, rfl⟩ : hb = hb' ∧ cp = cp' := by rw [e1] at e2; cases e2; exact ⟨rfl, rfl⟩
  subst e1
  obtain ⟨n, hn⟩ : ∃ n, n = H.length := ⟨_, rfl⟩
  rw [← hn] at c0
  have hi1 : (i : Int) < n := by omega
  have hk1 : (k : Int) < n := by omega
  have hi0 : (0 : Int) ≤ i := by omega
  have hk0 : (0 : Int) ≤ k := by omega
  have f0 := h.fr (i * 3)
  have f1 := h.fr (i * 3 + 1)
  have f2 := h.fr (i * 3 + 2)
  have g0 := h.fr (k * 3)
  have g1 := h.fr (k * 3 + 1)
  have g2 := h.fr (k * 3 + 2)
  clear h ea eb e2
  go_enter Try.func28, Try.ntmps28
  repeat (first | go_step3 | go_values | go_skip | go_guarded | go_step | go_upon)
  have plt : p ≠ hb := HQ.out.ne_row
  have pn := Ne.symm plt
  by_cases hik : i = k
  · subst hik
    go_region
    have HW : Hid (After w ((((((w.setCell ⟨hb, i * 3, none⟩ (.string (atI H i).key)).setCell ⟨hb, i * 3 + 1, none⟩ (.int .i64 (atI H i).at_)).setCell ⟨hb, i * 3 + 2, none⟩ (.int .i64 (atI H i).num)).setCell ⟨hb, i * 3, none⟩ (.string (atI H i).key)).setCell ⟨hb, i * 3 + 1, none⟩ (.int .i64 (atI H i).at_)).setCell ⟨hb, i * 3 + 2, none⟩ (.int .i64 (atI H i).num)).drew p hb mb cp H i i P sets) := Lib.hid (after_ok HQ.out hi hk)
    generalize ((((((w.setCell ⟨hb, i * 3, none⟩ (.string (atI H i).key)).setCell ⟨hb, i * 3 + 1, none⟩ (.int .i64 (atI H i).at_)).setCell ⟨hb, i * 3 + 2, none⟩ (.int .i64 (atI H i).num)).setCell ⟨hb, i * 3, none⟩ (.string (atI H i).key)).setCell ⟨hb, i * 3 + 1, none⟩ (.int .i64 (atI H i).at_)).setCell ⟨hb, i * 3 + 2, none⟩ (.int .i64 (atI H i).num)).drew = w2 at HW ⊢
    obtain ⟨c0', c1', r0, r1⟩ := HW.out.cells hi hk
    rw [← hn] at c0'
    clear c0 c1 a0 a1 a2 b0 b1 b2 f0 f1 f2 g0 g1 g2
    repeat (first | go_step3 | go_values | go_skip | go_guarded | go_step | go_upon)
    go_still_tail 13, (by kernel_rfl)
    refine wpList_mt_store _ rfl _ _ _ _ _ rfl encS Try.underlying47 (HW.out.map.of_block rfl) (by have := hpl.len HQ.out.map.nodup; simp [maxLen]; omega) (HQ.out.keys _ (List.mem_of_getElem? (of_at hk))) rfl rfl (.int .i64 i) rfl fun w3 m3 t3 => ?_
    have HW3 : Hid (After2 w2 w3 mb (mput P (atI H i).key (.int .i64 i))) := Lib.hid ⟨t3.undrew, m3⟩
    clear m3 t3
    obtain ⟨d0, d1, d2⟩ := HW.out.next HW3.out hi hk
    rw [← hn] at d0
    clear c0' c1' r0 r1
    dsimp only
    repeat (first | go_step3 | go_values | go_skip | go_guarded | go_step | go_upon)
    go_still_tail 13, (by kernel_rfl)
    refine wpList_mt_store _ rfl _ _ _ _ _ rfl encS Try.underlying47 (HW3.out.map.of_block rfl) (by have := hpl.len HQ.out.map.nodup; rw [mput_len (hpl.hit _ _ (of_at hk))]; simp [maxLen]; omega) (HQ.out.keys _ (List.mem_of_getElem? (of_at hi))) rfl rfl (.int .i64 i) rfl fun w4 m4 t4 => ?_
    have HW4 : Hid (After2 w3 w4 mb (mput (mput P (atI H i).key (.int .i64 i)) (atI H i).key (.int .i64 i))) := Lib.hid ⟨t4.undrew, m4⟩
    clear m4 t4
    dsimp only
    repeat (first | go_step3 | go_values | go_skip | go_guarded | go_step | go_upon)
    simp only [Act.put]
    go_end0
    exact ⟨rfl, swap_end HQ.out hpl hi hk HW.out HW3.out HW4.out⟩
  · have d0 : i * 3 ≠ k * 3 := by omega
    have d1 : i * 3 ≠ k * 3 + 1 := by omega
    have d2 : i * 3 ≠ k * 3 + 2 := by omega
    have d3 : i * 3 + 1 ≠ k * 3 := by omega
    have d4 : i * 3 + 1 ≠ k * 3 + 1 := by omega
    have d5 : i * 3 + 1 ≠ k * 3 + 2 := by omega
    have d6 : i * 3 + 2 ≠ k * 3 := by omega
    have d7 : i * 3 + 2 ≠ k * 3 + 1 := by omega
    have d8 : i * 3 + 2 ≠ k * 3 + 2 := by omega
    go_region
    clear d0 d1 d2 d3 d4 d5 d6 d7 d8
    have HW : Hid (After w ((((((w.setCell ⟨hb, i * 3, none⟩ (.string (atI H k).key)).setCell ⟨hb, i * 3 + 1, none⟩ (.int .i64 (atI H k).at_)).setCell ⟨hb, i * 3 + 2, none⟩ (.int .i64 (atI H k).num)).setCell ⟨hb, k * 3, none⟩ (.string (atI H i).key)).setCell ⟨hb, k * 3 + 1, none⟩ (.int .i64 (atI H i).at_)).setCell ⟨hb, k * 3 + 2, none⟩ (.int .i64 (atI H i).num)).drew p hb mb cp H i k P sets) := Lib.hid (after_ok HQ.out hi hk)
    generalize ((((((w.setCell ⟨hb, i * 3, none⟩ (.string (atI H k).key)).setCell ⟨hb, i * 3 + 1, none⟩ (.int .i64 (atI H k).at_)).setCell ⟨hb, i * 3 + 2, none⟩ (.int .i64 (atI H k).num)).setCell ⟨hb, k * 3, none⟩ (.string (atI H i).key)).setCell ⟨hb, k * 3 + 1, none⟩ (.int .i64 (atI H i).at_)).setCell ⟨hb, k * 3 + 2, none⟩ (.int .i64 (atI H i).num)).drew = w2 at HW ⊢
    obtain ⟨c0', c1', r0, r1⟩ := HW.out.cells hi hk
    rw [← hn] at c0'
    clear c0 c1 a0 a1 a2 b0 b1 b2 f0 f1 f2 g0 g1 g2
    repeat (first | go_step3 | go_values | go_skip | go_guarded | go_step | go_upon)
    go_still_tail 13, (by kernel_rfl)
    refine wpList_mt_store _ rfl _ _ _ _ _ rfl encS Try.underlying47 (HW.out.map.of_block rfl) (by have := hpl.len HQ.out.map.nodup; simp [maxLen]; omega) (HQ.out.keys _ (List.mem_of_getElem? (of_at hk))) rfl rfl (.int .i64 i) rfl fun w3 m3 t3 => ?_
    have HW3 : Hid (After2 w2 w3 mb (mput P (atI H k).key (.int .i64 i))) := Lib.hid ⟨t3.undrew, m3⟩
    clear m3 t3
    obtain ⟨d0, d1, d2⟩ := HW.out.next HW3.out hi hk
    rw [← hn] at d0
    clear c0' c1' r0 r1
    dsimp only
    repeat (first | go_step3 | go_values | go_skip | go_guarded | go_step | go_upon)
    go_still_tail 13, (by kernel_rfl)
    refine wpList_mt_store _ rfl _ _ _ _ _ rfl encS Try.underlying47 (HW3.out.map.of_block rfl) (by have := hpl.len HQ.out.map.nodup; rw [mput_len (hpl.hit _ _ (of_at hk))]; simp [maxLen]; omega) (HQ.out.keys _ (List.mem_of_getElem? (of_at hi))) rfl rfl (.int .i64 k) rfl fun w4 m4 t4 => ?_
    have HW4 : Hid (After2 w3 w4 mb (mput (mput P (atI H k).key (.int .i64 i)) (atI H i).key (.int .i64 k))) := Lib.hid ⟨t4.undrew, m4⟩
    clear m4 t4
    dsimp only
    repeat (first | go_step3 | go_values | go_skip | go_guarded | go_step | go_upon)
    simp only [Act.put]
    go_end0
    exact ⟨rfl, swap_end HQ.out hpl hi hk HW.out HW3.out HW4.out⟩
end
end Go.Proofs.Ythafopnaecbjdaa
