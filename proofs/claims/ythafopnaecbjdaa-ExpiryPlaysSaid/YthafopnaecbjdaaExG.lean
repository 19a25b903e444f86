/- The document's queue: Drop. -/
import Derived.Test.YthafopnaecbjdaaExF
namespace Go.Proofs.Ythafopnaecbjdaa
open Go Go.RowKit Go.Maps Go.Proofs.Ythafopnaecbjdaa.Pa Go.Proofs.YthafopnaecbjdaaW.PrintWords Go.Proofs.YthafopnaecbjdaaW.PrintLast Go.Proofs.YthafopnaecbjdaaW.PrintMore

theorem infoIm : (Try.prog.info? 55).map (fun i => (i.zero, i.size, i.bytes)) = some (some (.agg #[.string (⟨#[]⟩ : ByteArray), .int .i64 0]), 2, 24) := by kernel_rfl
section
variable {w : World} {r : Nat} {v : Value} {L : List It}
/-- A row of items of one's own, above what was there. -/
structure DI (w wr : World) (va : Value) (F : List It) : Prop where
  row : RowR wr va F
  t : Touch [] w wr
  n : ∀ i, va.ownBlock = some i → w.heap.size ≤ i
theorem DI.app {wr w5 w6 : World} {va v6 : Value} {F M : List It} (h : DI w wr va F) (t5 : Touch [] wr w5) {m N : Nat} (hm : M.length = m) (hN : F.length = N) (ho : w6.ownsRow 0 55 2 v6 (N + m) (fl2 F ++ fl2 M)) (hg : w5.grownBy w6 va.ownBlock) (hat : v6.ownBlock = va.ownBlock ∨ v6.ownBlock = some w5.heap.size) :
    DI w w6 v6 (F ++ M) ∧ ∃ A c, v6 = .slice A (F ++ M).length c := by
  have hr : RowR w6 v6 (F ++ M) := by
    unfold RowR
    rw [List.length_append, hm, hN, fl2_app']
    exact ho
  refine ⟨⟨hr, (h.t.trans t5 (by simp)).grownBy hg (fun i hi => .inr (h.n i hi)), fun i hi => ?_⟩, hr.slice⟩
  rcases hat with e | e
  · exact h.n i (e ▸ hi)
  · rw [e] at hi; cases hi; have := (h.t.trans t5 (by simp)).size; omega
theorem drop_take (L : List It) (k : ByteArray) (j : Nat) (x : It) (hx : L[j]? = some x) : dropL (L.take (j + 1)) k = dropL (L.take j) k ++ if x.key = k then [] else [x] := by
  have hl := (List.getElem?_eq_some_iff.1 hx).1
  have he := (List.getElem?_eq_some_iff.1 hx).2
  unfold dropL
  rw [List.take_succ_eq_append_getElem hl, he, List.filter_append]
  congr 1
  by_cases h : x.key = k <;> simp [h]
theorem has_len (L : List It) (k : ByteArray) : hasL L k = decide (((dropL L k).length : Int) < (L.length : Int)) := by
  by_cases h : ∀ y ∈ L, y.key ≠ k
  · rw [(hasL_not h).1, (hasL_not h).2]
    exact (decide_eq_false (by omega)).symm
  · have h1 : hasL L k = true := (hasL_iff L k).2 (by
      simp only [Classical.not_forall] at h
      obtain ⟨y, hy, he⟩ := h
      exact ⟨y, hy, Classical.not_not.1 he⟩)
    rw [h1]
    refine (decide_eq_true ?_).symm
    have h2 : (dropL L k).length < L.length := by
      obtain ⟨y, hy, he⟩ := (hasL_iff L k).1 h1
      unfold dropL
      exact List.length_filter_lt_length_iff_exists.2 ⟨y, hy, by simp [he]⟩
    omega
def RDropP (w : World) (r : Nat) (L : List It) (k : ByteArray) (e : Ending) (w' : World) : Prop := e = .returned (.bool (hasL L k)) ∧ ∃ v', RQ w' r v' (dropL L k) ∧ Touch [r] w w' ∧ ∀ i, v'.ownBlock = some i → w.heap.size ≤ i
theorem RQ.put {w wr : World} {r : Nat} {v va : Value} {L F : List It} (h : RQ w r v L) (d : DI w wr va F) : RQ (wr.setCell ⟨r, 0, none⟩ va) r va F ∧ Touch [r] w (wr.setCell ⟨r, 0, none⟩ va) := by
  have hb := (d.t.block r (heap_lt h.blk) (by simp)).trans h.blk
  have t : Touch [r] wr (wr.setCell ⟨r, 0, none⟩ va) := (Touch.refl _ _).setCell _ (.inl (by simp))
  refine ⟨⟨(block_set hb _).trans rfl, d.row.touch t (fun i hi hm => ?_)⟩, (d.t.mono (by simp)).trans t (by simp)⟩
  have h1 := d.n i hi
  have h2 := heap_lt h.blk
  simp at hm
  omega
set_option maxHeartbeats 4000000 in
theorem rdrop_any (h : RQ w r v L) (hl : L.length ≤ 100) (k : ByteArray) : Calls Try.prog 12 #[.pointer (some ⟨r, 0, none⟩), .string k] w (RDropP w r L k) := by
  have HR := Lib.hid h
  obtain ⟨A, c, e⟩ := h.row.slice
  obtain ⟨n, hn⟩ : ∃ n, n = L.length := ⟨_, rfl⟩
  have HN := Lib.hid hn
  rw [← hn] at e hl
  subst e
  obtain ⟨j0, hi0, hz0, hz1, hz2⟩ := info_t infoIm
  have HJ0 := Lib.hid (And.intro hi0 (And.intro hz0 (And.intro hz1 hz2)))
  have hui := Try.underlying55
  clear h hn hi0 hz0 hz1 hz2
  go_enter Try.func12, Try.ntmps12
  repeat (first | go_step3 | go_values | go_skip | go_guarded | go_step | go_upon)
  go_loopw [5, 6] (fun a i wr => ∃ (j : Nat) (va : Value), va = a ∧ i = .int .i64 j ∧ j ≤ n ∧ Hid (DI w wr va (dropL (L.take j) k))) (fun _ i _ => n - (intOf i).toNat)
  case atStart => exact ⟨0, _, rfl, rfl, Nat.zero_le _, Lib.hid ⟨RowR.nil _, Touch.refl _ _, fun i h => (by cases h)⟩⟩
  case round =>
    obtain ⟨j, va, rfl, rfl, hj, HI⟩ := hrel
    have HRr := Lib.hid (HR.out.kept0 HI.out.t)
    have c0 := HRr.out.cell
    by_cases hlt : j < n
    · have hji : (j : Int) < n := by omega
      have hj0 : (0 : Int) ≤ j := by omega
      obtain ⟨x, hx⟩ : ∃ x, L[j]? = some x := ⟨_, List.getElem?_eq_getElem (by have := HN.out; omega)⟩
      obtain ⟨g, c', e, d0, d1⟩ := HRr.out.row.at j x hx
      obtain ⟨rfl, rfl⟩ : A = some ⟨g, 0, none⟩ ∧ c = c' := by
        injection e with q1 _ q3
        exact ⟨q1, q3⟩
      have HK := Lib.hid (drop_take L k j x hx)
      have HLT := Lib.hid hlt
      have HLL : Hid ((dropL (L.take j) k).length ≤ 100) := Lib.hid (Nat.le_trans (List.length_filter_le _ _) (by rw [List.length_take]; omega))
      clear hx e hlt
      obtain ⟨xk, xa, xn⟩ := x
      dsimp only at d0 d1 HK
      by_cases hk : xk = k
      · have q0 : (xk.toList == k.toList) = true := by rw [hk]; simp
        have q1 : (xk.toList != k.toList) = false := by rw [hk]; simp
        have HI2 : Hid (DI w wr va (dropL (L.take (j + 1)) k)) := Lib.hid (by rw [HK.out, if_pos hk, List.append_nil]; exact HI.out)
        clear hk
        repeat (first | go_step3 | go_values | go_skip | go_guarded | go_step | go_upon)
        try go_roundw
        case rel => exact ⟨j + 1, _, rfl, by go_num, HLT.out, HI2⟩
        case measure => have := HLT.out; simp [intOf]; omega
      · have q0 : (xk.toList == k.toList) = false := by rw [beq_eq_false_iff_ne]; exact fun h => hk (ba_list.1 h)
        have q1 : (xk.toList != k.toList) = true := by rw [bne_iff_ne]; exact fun h => hk (ba_list.1 h)
        have HK2 : Hid (dropL (L.take (j + 1)) k = dropL (L.take j) k ++ [⟨xk, xa, xn⟩]) := Lib.hid (by rw [HK.out, if_neg hk])
        clear hk HK
        generalize dropL (L.take j) k = F at *
        repeat ((fail_if_success (with_reducible refine gate_builtin (b := .append) (xs := #[.tmp 27, .tmp 35]) rfl ?_)); first | go_step3 | go_values | go_skip | go_guarded | go_step | go_upon)
        have HROW : Hid (RowR (wr.alloc (Obj.cells #[.string xk, .int .i64 xa] 55)) va F) := Lib.hid (HI.out.row.touch ((Touch.refl [] wr).alloc _) (by simp))
        ((with_reducible refine gate_builtin (b := .append) (xs := #[.tmp 27, .tmp 35]) rfl ?_); at_builtin; refine wpList_append_own_at _ rfl _ _ 26 rfl 0 55 j0 (.agg #[.string (⟨#[]⟩ : ByteArray), .int .i64 0]) 2 24 Try.underlying26 HJ0.out.1 HJ0.out.2.1 HJ0.out.2.2.1 HJ0.out.2.2.2 rfl (by decide) va (F).length (fl2 (F)) rfl HROW.out ⟨wr.heap.size, 0, none⟩ 1 1 [.string xk, .int .i64 xa] rfl rfl (news_of (cs := #[.string xk, .int .i64 xa]) (t := 55) (fr := (0, 0)) (heap_alloc_new wr _)) (by simp [Value.oneCell']) (by have := HLL.out; simp only [maxLen]; omega) (by have := HLL.out; omega) (Nat.zero_le _) ?_)
        intro v6 w6 ho hg6 _ hat6
        obtain ⟨i6, A6, c6, e6⟩ := HI.out.app (M := [⟨xk, xa, xn⟩]) ((Touch.refl [] wr).alloc _) rfl rfl ho hg6 hat6
        have HI6 : Hid (DI w w6 v6 (dropL (L.take (j + 1)) k)) := Lib.hid (by rw [HK2.out]; exact i6)
        clear ho hg6 hat6 i6 d0 d1 c0
        generalize (F ++ [(⟨xk, xa, xn⟩ : It)]).length = n6 at e6
        subst e6
        dsimp only
        repeat (first | go_step3 | go_values | go_skip | go_guarded | go_step | go_upon)
        try go_roundw
        case rel => exact ⟨j + 1, _, rfl, by go_num, HLT.out, HI6⟩
        case measure => have := HLT.out; simp [intOf]; omega
    · have hji : ¬ (j : Int) < n := by omega
      clear hlt
      have HE : Hid (L.take j = L) := Lib.hid (List.take_of_length_le (by have := HN.out; omega))
      have HI2 : Hid (DI w wr va (dropL L k)) := Lib.hid (by have := HI.out; rw [HE.out] at this; exact this)
      obtain ⟨A8, c8, e8⟩ := HI2.out.row.slice
      have HH := Lib.hid (has_len L k)
      obtain ⟨d, hd⟩ : ∃ d, d = (dropL L k).length := ⟨_, rfl⟩
      rw [← hd] at e8 HH
      rw [← HN.out] at HH
      subst e8
      have f0 := frozen_of HRr.out.blk 0
      have HP := Lib.hid (HR.out.put HI2.out)
      clear hd
      by_cases hdn : (d : Int) < n
      · have HBV : Hid (hasL L k = true) := Lib.hid (HH.out.trans (decide_eq_true hdn))
        repeat (first | go_step3 | go_values | go_skip | go_guarded | go_step | go_upon)
        go_ret
        exact ⟨by rw [HBV.out]; rfl, _, HP.out.1, HP.out.2, HI2.out.n⟩
      · have HBV : Hid (hasL L k = false) := Lib.hid (HH.out.trans (decide_eq_false hdn))
        repeat (first | go_step3 | go_values | go_skip | go_guarded | go_step | go_upon)
        go_ret
        exact ⟨by rw [HBV.out]; rfl, _, HP.out.1, HP.out.2, HI2.out.n⟩
end
end Go.Proofs.Ythafopnaecbjdaa
