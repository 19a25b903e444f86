/- The document's queue: Due. -/
import Derived.Test.YthafopnaecbjdaaExG
namespace Go.Proofs.Ythafopnaecbjdaa
open Go Go.RowKit Go.Maps Go.Proofs.Ythafopnaecbjdaa.Pa Go.Proofs.YthafopnaecbjdaaW.PrintWords Go.Proofs.YthafopnaecbjdaaW.PrintLast Go.Proofs.YthafopnaecbjdaaW.PrintMore

section
variable {w : World} {r : Nat} {v : Value} {L : List It}
def late (now : Int) (x : It) : Bool := !soon now x
theorem part_take (f : It → Bool) (L : List It) (j : Nat) (x : It) (hx : L[j]? = some x) : (L.take (j + 1)).filter f = (L.take j).filter f ++ if f x = true then [x] else [] := by
  have hl := (List.getElem?_eq_some_iff.1 hx).1
  have he := (List.getElem?_eq_some_iff.1 hx).2
  rw [List.take_succ_eq_append_getElem hl, he, List.filter_append]
  congr 1
  by_cases h : f x = true
  · rw [if_pos h, List.filter_cons, if_pos h]; rfl
  · rw [if_neg h, List.filter_cons, if_neg h]; rfl
theorem ord_part (now : Int) : ∀ L : List It, Ord L → L.filter (soon now) = L.takeWhile (soon now) ∧ L.filter (late now) = L.dropWhile (soon now)
  | [], _ => ⟨rfl, rfl⟩
  | a :: r, h => by
    obtain ⟨h1, h2⟩ := List.pairwise_cons.1 h
    obtain ⟨e1, e2⟩ := ord_part now r h2
    rw [List.filter_cons, List.filter_cons, List.takeWhile_cons, List.dropWhile_cons]
    unfold late
    by_cases ha : soon now a = true
    · rw [if_pos ha, if_pos ha, if_pos ha, if_neg (by rw [ha]; simp), e1]
      exact ⟨rfl, e2⟩
    · have hall : ∀ x ∈ r, soon now x = false := fun x hx => by
        have h3 := (ltI_iff a x).1 (h1 x hx)
        unfold soon at ha ⊢
        simp at ha ⊢
        omega
      rw [if_neg ha, if_neg ha, if_neg ha, if_pos (by simpa using ha)]
      refine ⟨List.filter_eq_nil_iff.2 fun x hx => by rw [hall x hx]; simp, ?_⟩
      congr 1
      exact List.filter_eq_self.2 fun x hx => by rw [hall x hx]; rfl
/-- The two rows of a Due. -/
structure DU (w wr : World) (va vb : Value) (l : List ByteArray) (F : List It) : Prop where
  a : RowT wr va l
  b : DI w wr vb F
  n : ∀ i, va.ownBlock = some i → w.heap.size ≤ i ∧ vb.ownBlock ≠ some i
theorem DU.appA {wr w6 : World} {va vb v6 : Value} {l : List ByteArray} {F : List It} {y : ByteArray} {o : Obj} (h : DU w wr va vb l F) (ho : w6.ownsRow 0 9 1 v6 (l.length + 1) (strs l ++ [.string y])) (hg : (wr.alloc o).grownBy w6 va.ownBlock) (hat : v6.ownBlock = va.ownBlock ∨ v6.ownBlock = some (wr.alloc o).heap.size) : DU w w6 v6 vb (l ++ [y]) F := by
  have t5 : Touch va.ownBlock.toList wr w6 := ((Touch.refl _ wr).alloc o).grownBy hg (fun i hi => .inl (by simp [hi]))
  refine ⟨?_, ⟨h.b.row.touch t5 (fun i hi hm => (h.n i (by simpa using hm)).2 hi), ?_, h.b.n⟩, fun i hi => ?_⟩
  · unfold RowT
    rw [List.length_append]
    have e2 : strs (l ++ [y]) = strs l ++ [.string y] := by unfold strs; rw [List.map_append]; rfl
    rw [e2]
    exact ho
  · exact h.b.t.trans t5 (fun i hi => .inr (h.n i (by simpa using hi)).1)
  · rcases hat with e | e
    · exact h.n i (e ▸ hi)
    · rw [e] at hi
      cases hi
      have := h.b.t.size
      refine ⟨by simp; omega, fun e => ?_⟩
      have h2 := h.b.row
      rcases h2.2 with ⟨e1, _⟩ | ⟨g, cap, cur, e1, _, hh, _⟩
      · rw [e1] at e; cases e
      · rw [e1] at e
        simp only [Value.ownBlock, Option.some.injEq] at e
        have := heap_lt hh
        simp at e
        omega
theorem DU.appB {wr w6 : World} {va vb v6 : Value} {l : List ByteArray} {F : List It} {y : It} {o : Obj} (h : DU w wr va vb l F) (ho : w6.ownsRow 0 55 2 v6 (F.length + 1) (fl2 F ++ fl2 [y])) (hg : (wr.alloc o).grownBy w6 vb.ownBlock) (hat : v6.ownBlock = vb.ownBlock ∨ v6.ownBlock = some (wr.alloc o).heap.size) : DU w w6 va v6 l (F ++ [y]) := by
  have t5 : Touch vb.ownBlock.toList wr w6 := ((Touch.refl _ wr).alloc o).grownBy hg (fun i hi => .inl (by simp [hi]))
  obtain ⟨i6, _⟩ := h.b.app (M := [y]) ((Touch.refl [] wr).alloc o) rfl rfl ho hg hat
  refine ⟨h.a.touch t5 (fun i hi hm => (h.n i hi).2 (by simpa using hm)), i6, fun i hi => ⟨(h.n i hi).1, fun e => ?_⟩⟩
  rcases hat with e2 | e2
  · exact (h.n i hi).2 (e2 ▸ e)
  · rw [e2] at e
    cases e
    have := h.a.lt _ hi
    simp at this
    omega
def RDueP (w : World) (r : Nat) (L : List It) (now : Int) (e : Ending) (w' : World) : Prop := ∃ va, e = .returned va ∧ ∃ v', RQ w' r v' (L.dropWhile (soon now)) ∧ RowT w' va (keysL (L.takeWhile (soon now))) ∧ Touch [r] w w' ∧ (∀ i, v'.ownBlock = some i → w.heap.size ≤ i) ∧ ∀ i, va.ownBlock = some i → w.heap.size ≤ i
set_option maxHeartbeats 4000000 in
theorem rdue_any (h : RQ w r v L) (hl : L.length ≤ 100) (hord : Ord L) (now : Int) : Calls Try.prog 15 #[.pointer (some ⟨r, 0, none⟩), .int .i64 now] w (RDueP w r L now) := by
  have HR := Lib.hid h
  have HO := Lib.hid (ord_part now L hord)
  obtain ⟨A, c, e⟩ := h.row.slice
  obtain ⟨n, hn⟩ : ∃ n, n = L.length := ⟨_, rfl⟩
  have HN := Lib.hid hn
  rw [← hn] at e hl
  subst e
  obtain ⟨j0, hi0, hz0, hz1, hz2⟩ := info_t infoIm
  have HJ0 := Lib.hid (And.intro hi0 (And.intro hz0 (And.intro hz1 hz2)))
  clear hi0 hz0 hz1 hz2
  obtain ⟨i0, hi0, hz0, hz1, hz2⟩ := info_t infoT
  have HI0 := Lib.hid (And.intro hi0 (And.intro hz0 (And.intro hz1 hz2)))
  have hui := Try.underlying55
  clear h hn hi0 hz0 hz1 hz2 hord
  go_enter Try.func15, Try.ntmps15
  repeat (first | go_step3 | go_values | go_skip | go_guarded | go_step | go_upon)
  go_loopw [5, 6, 7] (fun a b i wr => ∃ (j : Nat) (va vb : Value), va = a ∧ vb = b ∧ i = .int .i64 j ∧ j ≤ n ∧ Hid (DU w wr va vb (keysL ((L.take j).filter (soon now))) ((L.take j).filter (late now)))) (fun _ _ i _ => n - (intOf i).toNat)
  case atStart => exact ⟨0, _, _, rfl, rfl, rfl, Nat.zero_le _, Lib.hid ⟨RowT.nil _, ⟨RowR.nil _, Touch.refl _ _, fun i h => (by cases h)⟩, fun i h => (by cases h)⟩⟩
  case round =>
    obtain ⟨j, va, vb, rfl, rfl, rfl, hj, HI⟩ := hrel
    have HRr := Lib.hid (HR.out.kept0 HI.out.b.t)
    have c0 := HRr.out.cell
    by_cases hlt : j < n
    · have hji : (j : Int) < n := by omega
      have hj0 : (0 : Int) ≤ j := by omega
      obtain ⟨x, hx⟩ : ∃ x, L[j]? = some x := ⟨_, List.getElem?_eq_getElem (by have := HN.out; omega)⟩
      obtain ⟨g, c', e, d0, d1⟩ := HRr.out.row.at j x hx
      obtain ⟨rfl, rfl⟩ : A = some ⟨g, 0, none⟩ ∧ c = c' := by
        injection e with q1 _ q3
        exact ⟨q1, q3⟩
      have HK := Lib.hid (And.intro (part_take (soon now) L j x hx) (part_take (late now) L j x hx))
      have HLT := Lib.hid hlt
      have HLL : Hid ((keysL ((L.take j).filter (soon now))).length ≤ 100 ∧ ((L.take j).filter (late now)).length ≤ 100) := Lib.hid ⟨by unfold keysL; rw [List.length_map]; exact Nat.le_trans (List.length_filter_le _ _) (by rw [List.length_take]; omega), Nat.le_trans (List.length_filter_le _ _) (by rw [List.length_take]; omega)⟩
      clear hx e hlt
      obtain ⟨xk, xa, xn⟩ := x
      dsimp only at d0 d1
      by_cases hk : xa ≤ now
      · have HK2 : Hid (keysL ((L.take (j + 1)).filter (soon now)) = keysL ((L.take j).filter (soon now)) ++ [xk] ∧ (L.take (j + 1)).filter (late now) = (L.take j).filter (late now)) := Lib.hid (by
          have hs : soon now ⟨xk, xa, xn⟩ = true := decide_eq_true hk
          rw [HK.out.1, HK.out.2, if_pos hs, if_neg (by unfold late; rw [hs]; simp), List.append_nil]
          refine ⟨?_, rfl⟩
          unfold keysL
          rw [List.map_append]
          rfl)
        clear HK
        generalize keysL ((L.take j).filter (soon now)) = F at *
        generalize (L.take j).filter (late now) = G at *
        repeat ((fail_if_success (with_reducible refine gate_builtin (b := .append) (xs := #[.tmp 27, .tmp 36]) rfl ?_)); first | go_step3 | go_values | go_skip | go_guarded | go_step | go_upon)
        have HROW : Hid (RowT (wr.alloc (Obj.cells #[.string xk] 9)) va F) := Lib.hid (HI.out.a.touch ((Touch.refl [] wr).alloc _) (by simp))
        ((with_reducible refine gate_builtin (b := .append) (xs := #[.tmp 27, .tmp 36]) rfl ?_); at_builtin; refine wpList_append_own_at _ rfl _ _ 35 rfl 0 9 i0 (.string (⟨#[]⟩ : ByteArray)) 1 16 Try.underlying35 HI0.out.1 HI0.out.2.1 HI0.out.2.2.1 HI0.out.2.2.2 rfl (by decide) va (F).length (strs (F)) rfl HROW.out ⟨wr.heap.size, 0, none⟩ 1 1 [.string xk] rfl rfl (news_of (cs := #[.string xk]) (t := 9) (fr := (0, 0)) (heap_alloc_new wr _)) (by simp [Value.oneCell']) (by have := HLL.out.1; simp only [maxLen]; omega) (by have := HLL.out.1; omega) (Nat.zero_le _) ?_)
        intro v6 w6 ho hg6 _ hat6
        have HI6 : Hid (DU w w6 v6 vb (keysL ((L.take (j + 1)).filter (soon now))) ((L.take (j + 1)).filter (late now))) := Lib.hid (by rw [HK2.out.1, HK2.out.2]; exact HI.out.appA ho hg6 hat6)
        clear ho hg6 hat6 d0 d1 c0
        dsimp only
        repeat (first | go_step3 | go_values | go_skip | go_guarded | go_step | go_upon)
        try go_roundw
        case rel => exact ⟨j + 1, _, _, rfl, rfl, by go_num, HLT.out, HI6⟩
        case measure => have := HLT.out; simp [intOf]; omega
      · have HK2 : Hid (keysL ((L.take (j + 1)).filter (soon now)) = keysL ((L.take j).filter (soon now)) ∧ (L.take (j + 1)).filter (late now) = (L.take j).filter (late now) ++ [⟨xk, xa, xn⟩]) := Lib.hid (by
          have hs : soon now ⟨xk, xa, xn⟩ = false := decide_eq_false hk
          rw [HK.out.1, HK.out.2, if_neg (by rw [hs]; simp), if_pos (by unfold late; rw [hs]; rfl), List.append_nil]
          exact ⟨rfl, rfl⟩)
        clear HK
        generalize keysL ((L.take j).filter (soon now)) = F at *
        generalize (L.take j).filter (late now) = G at *
        repeat ((fail_if_success (with_reducible refine gate_builtin (b := .append) (xs := #[.tmp 38, .tmp 46]) rfl ?_)); first | go_step3 | go_values | go_skip | go_guarded | go_step | go_upon)
        have HROW : Hid (RowR (wr.alloc (Obj.cells #[.string xk, .int .i64 xa] 55)) vb G) := Lib.hid (HI.out.b.row.touch ((Touch.refl [] wr).alloc _) (by simp))
        ((with_reducible refine gate_builtin (b := .append) (xs := #[.tmp 38, .tmp 46]) rfl ?_); at_builtin; refine wpList_append_own_at _ rfl _ _ 26 rfl 0 55 j0 (.agg #[.string (⟨#[]⟩ : ByteArray), .int .i64 0]) 2 24 Try.underlying26 HJ0.out.1 HJ0.out.2.1 HJ0.out.2.2.1 HJ0.out.2.2.2 rfl (by decide) vb (G).length (fl2 (G)) rfl HROW.out ⟨wr.heap.size, 0, none⟩ 1 1 [.string xk, .int .i64 xa] rfl rfl (news_of (cs := #[.string xk, .int .i64 xa]) (t := 55) (fr := (0, 0)) (heap_alloc_new wr _)) (by simp [Value.oneCell']) (by have := HLL.out.2; simp only [maxLen]; omega) (by have := HLL.out.2; omega) (Nat.zero_le _) ?_)
        intro v6 w6 ho hg6 _ hat6
        have HI6 : Hid (DU w w6 va v6 (keysL ((L.take (j + 1)).filter (soon now))) ((L.take (j + 1)).filter (late now))) := Lib.hid (by rw [HK2.out.1, HK2.out.2]; exact HI.out.appB (y := ⟨xk, xa, xn⟩) ho hg6 hat6)
        clear ho hg6 hat6 d0 d1 c0
        dsimp only
        repeat (first | go_step3 | go_values | go_skip | go_guarded | go_step | go_upon)
        try go_roundw
        case rel => exact ⟨j + 1, _, _, rfl, rfl, by go_num, HLT.out, HI6⟩
        case measure => have := HLT.out; simp [intOf]; omega
    · have hji : ¬ (j : Int) < n := by omega
      clear hlt
      have HI2 : Hid (DU w wr va vb (keysL (L.takeWhile (soon now))) (L.dropWhile (soon now))) := Lib.hid (by
        have := HI.out
        rw [List.take_of_length_le (by have := HN.out; omega), HO.out.1, HO.out.2] at this
        exact this)
      obtain ⟨A8, c8, e8⟩ := HI2.out.b.row.slice
      generalize (L.dropWhile (soon now)).length = d8 at e8
      subst e8
      have f0 := frozen_of HRr.out.blk 0
      have HP := Lib.hid (HR.out.put HI2.out.b)
      have HV : Hid (RowT (wr.setCell ⟨r, 0, none⟩ (.slice A8 d8 c8)) va (keysL (L.takeWhile (soon now)))) := Lib.hid (HI2.out.a.touch ((Touch.refl [r] wr).setCell (a := ⟨r, 0, none⟩) (.slice A8 d8 c8) (.inl (by simp))) (fun i hi hm => by
        have h1 := (HI2.out.n i hi).1
        have h2 := heap_lt HR.out.blk
        simp at hm
        omega))
      repeat (first | go_step3 | go_values | go_skip | go_guarded | go_step | go_upon)
      go_ret
      exact ⟨va, rfl, _, HP.out.1, HV.out, HP.out.2, HI2.out.b.n, fun i hi => (HI2.out.n i hi).1⟩
end
end Go.Proofs.Ythafopnaecbjdaa
