/- The document's queue: Keys. -/
import Derived.Test.YthafopnaecbjdaaExE
namespace Go.Proofs.Ythafopnaecbjdaa
open Go Go.RowKit Go.Maps Go.Proofs.Ythafopnaecbjdaa.Pa Go.Proofs.YthafopnaecbjdaaW.PrintWords Go.Proofs.YthafopnaecbjdaaW.PrintLast Go.Proofs.YthafopnaecbjdaaW.PrintMore

section
variable {w : World} {r : Nat} {v : Value} {L : List It}
structure KI (w wr : World) (va : Value) (l : List ByteArray) : Prop where
  row : RowT wr va l
  t : Touch [] w wr
  n : ∀ i, va.ownBlock = some i → w.heap.size ≤ i
set_option maxHeartbeats 4000000 in
theorem rkeys_any (h : RQ w r v L) (hl : L.length ≤ 100) : Calls Try.prog 22 #[.pointer (some ⟨r, 0, none⟩)] w (KeysP w L) := by
  have HR := Lib.hid h
  obtain ⟨A, c, e⟩ := h.row.slice
  obtain ⟨n, hn⟩ : ∃ n, n = L.length := ⟨_, rfl⟩
  have HN := Lib.hid hn
  rw [← hn] at e hl
  subst e
  obtain ⟨i0, hi0, hz0, hz1, hz2⟩ := info_t infoT
  have HI0 := Lib.hid (And.intro hi0 (And.intro hz0 (And.intro hz1 hz2)))
  clear h hn hi0 hz0 hz1 hz2
  go_enter Try.func22, Try.ntmps22
  repeat (first | go_step3 | go_values | go_skip | go_guarded | go_step | go_upon)
  go_loopw [3, 4] (fun a i wr => ∃ (j : Nat) (va : Value), va = a ∧ i = .int .i64 j ∧ j ≤ n ∧ Hid (KI w wr va (keysL (L.take j)))) (fun _ i _ => n - (intOf i).toNat)
  case atStart => exact ⟨0, _, rfl, rfl, Nat.zero_le _, Lib.hid ⟨RowT.nil _, Touch.refl _ _, fun i h => (by cases h)⟩⟩
  case round =>
    obtain ⟨j, va, rfl, rfl, hj, HI⟩ := hrel
    have HRr := Lib.hid (HR.out.kept0 HI.out.t)
    have c0 := HRr.out.cell
    by_cases hlt : j < n
    · have hji : (j : Int) < n := by omega
      have hj0 : (0 : Int) ≤ j := by omega
      obtain ⟨x, hx⟩ : ∃ x, L[j]? = some x := ⟨_, List.getElem?_eq_getElem (by have := HN.out; omega)⟩
      obtain ⟨g, c', e, d0, d1⟩ := HRr.out.row.at j x hx
      obtain ⟨rfl, rfl⟩ : A = some ⟨g, 0, none⟩ ∧ c = c' := by
        injection e with q1 _ q3
        exact ⟨q1, q3⟩
      have HK := Lib.hid (keysL_take L j x hx)
      have HLT := Lib.hid hlt
      have HLL : Hid ((keysL (L.take j)).length ≤ 100) := Lib.hid (by unfold keysL; rw [List.length_map, List.length_take]; omega)
      clear hx e hlt
      obtain ⟨xk, xa, xn⟩ := x
      dsimp only at d0 d1 HK
      generalize keysL (L.take j) = F at *
      repeat ((fail_if_success (with_reducible refine gate_builtin (b := .append) (xs := #[.tmp 14, .tmp 23]) rfl ?_)); first | go_step3 | go_values | go_skip | go_guarded | go_step | go_upon)
      have HROW : Hid (RowT (wr.alloc (Obj.cells #[.string xk] 9)) va F) := Lib.hid (HI.out.row.touch ((Touch.refl [] wr).alloc _) (by simp))
      ((with_reducible refine gate_builtin (b := .append) (xs := #[.tmp 14, .tmp 23]) rfl ?_); at_builtin; refine wpList_append_own_at _ rfl _ _ 35 rfl 0 9 i0 (.string (⟨#[]⟩ : ByteArray)) 1 16 Try.underlying35 HI0.out.1 HI0.out.2.1 HI0.out.2.2.1 HI0.out.2.2.2 rfl (by decide) va (F).length (strs (F)) rfl HROW.out ⟨wr.heap.size, 0, none⟩ 1 1 [.string xk] rfl rfl (news_of (cs := #[.string xk]) (t := 9) (fr := (0, 0)) (heap_alloc_new wr _)) (by simp [Value.oneCell']) (by have := HLL.out; simp only [maxLen]; omega) (by have := HLL.out; omega) (Nat.zero_le _) ?_)
      intro v6 w6 ho hg6 _ hat6
      obtain ⟨r6, t6, n6, A6, c6, e6⟩ := RowT.app (w := w) (N := F.length) HROW.out ho hg6 hat6 (HI.out.t.alloc _) HI.out.n rfl
      have HI6 : Hid (KI w w6 v6 (keysL (L.take (j + 1)))) := Lib.hid (by rw [HK.out]; exact ⟨r6, t6, n6⟩)
      clear ho hg6 hat6 r6 t6 n6 d0 d1 c0
      subst e6
      dsimp only
      repeat (first | go_step3 | go_values | go_skip | go_guarded | go_step | go_upon)
      try go_roundw
      case rel => exact ⟨j + 1, _, rfl, by go_num, HLT.out, HI6⟩
      case measure => have := HLT.out; simp [intOf]; omega
    · have hji : ¬ (j : Int) < n := by omega
      clear hlt
      have HE : Hid (L.take j = L) := Lib.hid (List.take_of_length_le (by have := HN.out; omega))
      repeat (first | go_step3 | go_values | go_skip | go_guarded | go_step | go_upon)
      go_ret
      exact ⟨va, rfl, by have := HI.out.row; rw [HE.out] at this; exact this, HI.out.t.toBelow, HI.out.n⟩
end
end Go.Proofs.Ythafopnaecbjdaa
