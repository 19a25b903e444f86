/- The document's queue: At, Next, Keys. -/
import Derived.Test.YthafopnaecbjdaaExD
namespace Go.Proofs.Ythafopnaecbjdaa
open Go Go.RowKit Go.Maps Go.Proofs.Ythafopnaecbjdaa.Pa Go.Proofs.YthafopnaecbjdaaW.PrintWords Go.Proofs.YthafopnaecbjdaaW.PrintLast Go.Proofs.YthafopnaecbjdaaW.PrintMore

def itC (x : It) : List Value := [.string x.key, .int .i64 x.at_]
def fl2 (L : List It) : List Value := L.flatMap itC
theorem fl2_app (L : List It) (x : It) : fl2 (L ++ [x]) = fl2 L ++ itC x := by
  unfold fl2
  rw [List.flatMap_append]
  simp
theorem fl2_app' (L M : List It) : fl2 (L ++ M) = fl2 L ++ fl2 M := by unfold fl2; exact List.flatMap_append
theorem fl2_len (L : List It) : (fl2 L).length = L.length * 2 := flat_len (enc := itC) (k := 2) (fun _ => rfl) L
theorem fl2_one (L : List It) : ∀ u ∈ fl2 L, u.oneCell' = true := by
  intro u hu
  obtain ⟨x, _, hx⟩ := List.mem_flatMap.1 hu
  simp only [itC, List.mem_cons, List.not_mem_nil, or_false] at hx
  rcases hx with rfl | rfl <;> rfl
def RowR (w : World) (v : Value) (L : List It) : Prop := w.ownsRow 0 55 2 v L.length (fl2 L)
theorem RowR.nil (w : World) : RowR w (.slice none 0 0) [] := World.ownsRow_nil _ _ _ _
theorem RowR.touch {w w' : World} {v : Value} {L : List It} {S : List Nat} (h : RowR w v L) (t : Touch S w w') (hs : ∀ i, v.ownBlock = some i → i ∉ S) : RowR w' v L := own_touch' h t hs
theorem RowR.slice {w : World} {v : Value} {L : List It} (h : RowR w v L) : ∃ A c, v = .slice A L.length c := own_slice2 h
theorem RowR.at {w : World} {v : Value} {L : List It} (h : RowR w v L) (j : Nat) (x : It) (hj : L[j]? = some x) : ∃ g c, v = .slice (some ⟨g, 0, none⟩) L.length c ∧ w.cell? ⟨g, j * 2, none⟩ = some (.string x.key) ∧ w.cell? ⟨g, j * 2 + 1, none⟩ = some (.int .i64 x.at_) := by
  have hc := fun g => h.cells (g := g)
  have hlt := (List.getElem?_eq_some_iff.1 hj).1
  rcases h.2 with ⟨rfl, h0⟩ | ⟨g, cap, cur, rfl, _, hg, hle, _⟩
  · omega
  · have h1 := hc g rfl (j * 2 + 0) (.string x.key) (flat_at (enc := itC) (k := 2) (fun _ => rfl) hj rfl)
    have h2 := hc g rfl (j * 2 + 1) (.int .i64 x.at_) (flat_at (enc := itC) (k := 2) (fun _ => rfl) hj rfl)
    rw [add_plain, Nat.zero_add] at h1 h2
    exact ⟨g, cap, rfl, h1, h2⟩
structure RQ (w : World) (r : Nat) (v : Value) (L : List It) : Prop where
  blk : w.heap[r]? = some (.cells #[v] 28 (0, 0))
  row : RowR w v L
theorem RQ.cell {w : World} {r : Nat} {v : Value} {L : List It} (h : RQ w r v L) : w.cell? ⟨r, 0, none⟩ = some v := (cell_of h.blk 0).trans rfl
theorem RQ.kept {w w' : World} {r : Nat} {v : Value} {L : List It} {S : List Nat} (h : RQ w r v L) (t : Touch S w w') (hr : r ∉ S) (hs : ∀ i, v.ownBlock = some i → i ∉ S) : RQ w' r v L := ⟨(t.block r (heap_lt h.blk) hr).trans h.blk, h.row.touch t hs⟩
theorem RQ.kept0 {w w' : World} {r : Nat} {v : Value} {L : List It} (h : RQ w r v L) (t : Touch [] w w') : RQ w' r v L := h.kept t (by simp) (by simp)
section
variable {w : World} {r : Nat} {v : Value} {L : List It}
theorem find_step (L : List It) (k : ByteArray) (j : Nat) (x : It) (hx : L[j]? = some x) : findL (L.drop j) k = if x.key = k then some x else findL (L.drop (j + 1)) k := by
  have hl := (List.getElem?_eq_some_iff.1 hx).1
  have he := (List.getElem?_eq_some_iff.1 hx).2
  rw [List.drop_eq_getElem_cons hl, he]
  unfold findL
  rw [List.find?_cons]
  by_cases h : x.key = k
  · rw [if_pos h, decide_eq_true h]
  · rw [if_neg h, decide_eq_false h]
set_option maxHeartbeats 2000000 in
theorem rat_any (h : RQ w r v L) (hl : L.length ≤ 100) (k : ByteArray) : Calls Try.prog 18 #[.pointer (some ⟨r, 0, none⟩), .string k] w fun e w' => e = .returned (.tuple #[.int .i64 (atT L k).1, .bool (atT L k).2]) ∧ w' = w := by
  have HR := Lib.hid h
  have c0 := h.cell
  obtain ⟨A, c, e⟩ := h.row.slice
  obtain ⟨n, hn⟩ : ∃ n, n = L.length := ⟨_, rfl⟩
  have HN := Lib.hid hn
  rw [← hn] at e hl
  subst e
  obtain ⟨ra, hra⟩ : ∃ q, q = (atT L k).1 := ⟨_, rfl⟩
  obtain ⟨rb, hrb⟩ : ∃ q, q = (atT L k).2 := ⟨_, rfl⟩
  rw [← hra, ← hrb]
  have HX : Hid (∀ q, findL L k = q → (q = none → ra = 0 ∧ rb = false) ∧ ∀ x, q = some x → ra = x.at_ ∧ rb = true) := Lib.hid (by
    intro q hq
    rw [hra, hrb]
    unfold atT
    rw [hq]
    refine ⟨?_, ?_⟩
    · rintro rfl; exact ⟨rfl, rfl⟩
    · rintro x rfl; exact ⟨rfl, rfl⟩)
  clear h hn hra hrb
  go_enter Try.func18, Try.ntmps18
  repeat (first | go_step3 | go_values | go_skip | go_guarded | go_step | go_upon)
  go_loopw [6] (fun i wr => wr = w ∧ ∃ j : Nat, i = .int .i64 j ∧ j ≤ n ∧ Hid (findL L k = findL (L.drop j) k)) (fun i _ => n - (intOf i).toNat)
  case atStart => exact ⟨rfl, 0, rfl, Nat.zero_le _, Lib.hid rfl⟩
  case round =>
    obtain ⟨rfl, j, rfl, hj, HF⟩ := hrel
    by_cases hlt : j < n
    · have hji : (j : Int) < n := by omega
      have hj0 : (0 : Int) ≤ j := by omega
      obtain ⟨x, hx⟩ : ∃ x, L[j]? = some x := ⟨_, List.getElem?_eq_getElem (by have := HN.out; omega)⟩
      obtain ⟨g, c', e, d0, d1⟩ := HR.out.row.at j x hx
      obtain ⟨rfl, rfl⟩ : A = some ⟨g, 0, none⟩ ∧ c = c' := by
        injection e with q1 _ q3
        exact ⟨q1, q3⟩
      have HST := Lib.hid (find_step L k j x hx)
      have HLT := Lib.hid hlt
      clear hx e hlt
      by_cases hk : x.key = k
      · have q0 : (x.key.toList == k.toList) = true := by rw [hk]; simp
        have q1 : (x.key.toList != k.toList) = false := by rw [hk]; simp
        have HE : Hid (ra = x.at_ ∧ rb = true) := Lib.hid ((HX.out _ (HF.out.trans (HST.out.trans (if_pos hk)))).2 x rfl)
        clear hk
        repeat (first | go_step3 | go_values | go_skip | go_guarded | go_step | go_upon)
        go_ret2
        exact ⟨by rw [HE.out.1, HE.out.2]; rfl, rfl⟩
      · have q0 : (x.key.toList == k.toList) = false := by rw [beq_eq_false_iff_ne]; exact fun h => hk (ba_list.1 h)
        have q1 : (x.key.toList != k.toList) = true := by rw [bne_iff_ne]; exact fun h => hk (ba_list.1 h)
        have HE : Hid (findL L k = findL (L.drop (j + 1)) k) := Lib.hid (HF.out.trans (HST.out.trans (if_neg hk)))
        clear hk
        repeat (first | go_step3 | go_values | go_skip | go_guarded | go_step | go_upon)
        try go_roundw
        case rel => exact ⟨trivial, j + 1, by go_num, HLT.out, HE⟩
        case measure => have := HLT.out; simp [intOf]; omega
    · have hji : ¬ (j : Int) < n := by omega
      have HE : Hid (ra = 0 ∧ rb = false) := Lib.hid ((HX.out _ HF.out).1 (by rw [List.drop_of_length_le (by have := HN.out; omega)]; rfl))
      clear hlt
      repeat (first | go_step3 | go_values | go_skip | go_guarded | go_step | go_upon)
      go_ret2
      exact ⟨by rw [HE.out.1, HE.out.2]; rfl, rfl⟩
theorem rnext_any (h : RQ w r v L) (hl : L.length ≤ 100) : Calls Try.prog 20 #[.pointer (some ⟨r, 0, none⟩)] w fun e w' => e = .returned (.tuple #[.int .i64 (nextT L).1, .bool (nextT L).2]) ∧ w' = w := by
  have c0 := h.cell
  obtain ⟨A, c, e⟩ := h.row.slice
  cases hL : L with
  | nil =>
    subst e
    rw [hL] at c0
    have hk0 : ([] : List It).length = 0 := rfl
    clear h
    go_enter Try.func20, Try.ntmps20
    repeat (first | go_step3 | go_values | go_skip | go_guarded | go_step | go_upon)
    go_ret2
    exact ⟨rfl, rfl⟩
  | cons y s =>
    obtain ⟨g, c', e2, d0, d1⟩ := h.row.at 0 y (by rw [hL]; rfl)
    obtain ⟨n, hn⟩ : ∃ n, n = L.length := ⟨_, rfl⟩
    rw [← hn] at e e2 hl
    subst e2
    have hn0 : (0 : Int) < n := by rw [hn, hL]; simp
    have hni : ((n : Int) == 0) = false := by rw [beq_eq_false_iff_ne]; omega
    have hnn : ¬ n = 0 := by omega
    have d1 : w.cell? ⟨g, 1, none⟩ = some (.int .i64 y.at_) := by simpa using d1
    clear h e hL hn
    go_enter Try.func20, Try.ntmps20
    repeat (first | go_step3 | go_values | go_skip | go_guarded | go_step | go_upon)
    go_ret2
    exact ⟨rfl, rfl⟩
theorem keysL_take (L : List It) (j : Nat) (x : It) (hx : L[j]? = some x) : keysL (L.take (j + 1)) = keysL (L.take j) ++ [x.key] := by
  have hl := (List.getElem?_eq_some_iff.1 hx).1
  have he := (List.getElem?_eq_some_iff.1 hx).2
  rw [List.take_succ_eq_append_getElem hl, he]
  unfold keysL
  rw [List.map_append]
  rfl
/-- One more text at the end of a row of one's own. -/
theorem RowT.app {w w5 w6 : World} {v v6 : Value} {l : List ByteArray} {y : ByteArray} {S : List Nat} {N : Nat} (_h : RowT w5 v l) (ho : w6.ownsRow 0 9 1 v6 (l.length + 1) (strs l ++ [.string y])) (hg : w5.grownBy w6 v.ownBlock) (hat : v6.ownBlock = v.ownBlock ∨ v6.ownBlock = some w5.heap.size) (t : Touch S w w5) (hn : ∀ i, v.ownBlock = some i → w.heap.size ≤ i) (hN : N = l.length) :
    RowT w6 v6 (l ++ [y]) ∧ Touch S w w6 ∧ (∀ i, v6.ownBlock = some i → w.heap.size ≤ i) ∧ ∃ A c, v6 = .slice A (N + 1) c := by
  have hr : RowT w6 v6 (l ++ [y]) := by
    unfold RowT
    rw [List.length_append]
    have e2 : strs (l ++ [y]) = strs l ++ [.string y] := by unfold strs; rw [List.map_append]; rfl
    rw [e2]
    exact ho
  refine ⟨hr, t.grownBy hg (fun i hi => .inr (hn i hi)), fun i hi => ?_, ?_⟩
  · rcases hat with e | e
    · exact hn i (e ▸ hi)
    · rw [e] at hi; cases hi; exact t.size
  · obtain ⟨A, c, e⟩ := hr.slice
    rw [List.length_append, ← hN] at e
    exact ⟨A, c, e⟩
end
end Go.Proofs.Ythafopnaecbjdaa
