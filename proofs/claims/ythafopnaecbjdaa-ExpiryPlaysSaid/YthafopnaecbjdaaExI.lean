/- The document's queue: Set. -/
import Derived.Test.YthafopnaecbjdaaExH
namespace Go.Proofs.Ythafopnaecbjdaa
open Go Go.RowKit Go.Maps Go.Proofs.Ythafopnaecbjdaa.Pa Go.Proofs.YthafopnaecbjdaaW.PrintWords Go.Proofs.YthafopnaecbjdaaW.PrintLast Go.Proofs.YthafopnaecbjdaaW.PrintMore

section
variable {w : World} {r : Nat} {v : Value} {L : List It}
theorem fl2_same {F G : List It} {x y : It} (hk : x.key = y.key) (ha : x.at_ = y.at_) : fl2 (F ++ x :: G) = fl2 (F ++ y :: G) := by
  rw [fl2_app', fl2_app']
  congr 1
  show itC x ++ fl2 G = itC y ++ fl2 G
  unfold itC
  rw [hk, ha]
theorem put_fl {L : List It} {k : ByteArray} {a s : Int} : fl2 (putL L k a s) = fl2 (((dropL L k).takeWhile (fun y => decide (y.at_ ≤ a)) ++ [⟨k, a, 0⟩]) ++ (dropL L k).dropWhile (fun y => decide (y.at_ ≤ a))) := by
  rw [List.append_assoc]
  exact fl2_same rfl rfl
theorem put_ln {L : List It} {k : ByteArray} {a s : Int} : (putL L k a s).length = (((dropL L k).takeWhile (fun y => decide (y.at_ ≤ a)) ++ [(⟨k, a, 0⟩ : It)]) ++ (dropL L k).dropWhile (fun y => decide (y.at_ ≤ a))).length := by
  rw [List.append_assoc]
  unfold putL insI
  rw [List.length_append, List.length_append]
  rfl
theorem fl2_drop (M : List It) (j : Nat) : fl2 (M.drop j) = (fl2 M).drop (j * 2) := by
  induction j generalizing M with
  | zero => rfl
  | succ j ih =>
    cases M with
    | nil => simp [fl2]
    | cons a t =>
      rw [List.drop_succ_cons, ih t, show (j + 1) * 2 = j * 2 + 2 by omega]
      rfl
theorem src_drop {w : World} {g n c : Nat} {M : List It} (h : RowR w (.slice (some ⟨g, 0, none⟩) n c) M) (hn : n = M.length) (j : Nat) (_hj : j ≤ n) : Src w (some ⟨g, j * 2, none⟩) (n - j) 2 (fl2 (M.drop j)) ∧ n ≤ c := by
  have hc := fun g => h.cells (g := g)
  rcases h.2 with ⟨h0, _⟩ | ⟨g', cap, cur, e, _, hg, hle, _⟩
  · cases h0
  · injection e with e1 e2 e3
    injection e1 with e1
    injection e1 with e1
    subst e1
    refine ⟨.inr ⟨_, rfl, by rw [fl2_len, List.length_drop, hn], fun q u hu => ?_⟩, by omega⟩
    rw [fl2_drop, List.getElem?_drop] at hu
    have := hc g rfl _ _ hu
    rw [add_plain, Nat.zero_add] at this
    rw [add_plain]
    exact this
theorem row_none {w : World} {n c : Nat} {M : List It} (h : RowR w (.slice none n c) M) : M = [] ∧ n = 0 ∧ c = 0 := by
  rcases h.2 with ⟨h0, h1⟩ | ⟨g', cap, cur, e, _⟩
  · injection h0 with _ h2 h3
    exact ⟨List.eq_nil_of_length_eq_zero h1, h2, h3⟩
  · cases e
theorem row_addr {w : World} {a : Addr} {n c : Nat} {M : List It} (h : RowR w (.slice (some a) n c) M) : ∃ g, a = ⟨g, 0, none⟩ := by
  rcases h.2 with ⟨h0, _⟩ | ⟨g', cap, cur, e, _⟩
  · cases h0
  · injection e with e1 _ _
    injection e1 with e1
    exact ⟨g', e1⟩
theorem tw_split (M : List It) (a : Int) (j : Nat) (hj : j ≤ M.length) (h1 : ∀ x ∈ M.take j, x.at_ ≤ a) (h2 : j = M.length ∨ ∃ x, M[j]? = some x ∧ ¬ x.at_ ≤ a) : M.takeWhile (fun y => decide (y.at_ ≤ a)) = M.take j ∧ M.dropWhile (fun y => decide (y.at_ ≤ a)) = M.drop j :=
  soon_split (List.take_append_drop j M).symm h1 (by
    rcases h2 with rfl | ⟨x, hx, hn⟩
    · exact .inl (List.drop_of_length_le (Nat.le_refl _))
    · have hl := (List.getElem?_eq_some_iff.1 hx).1
      have he := (List.getElem?_eq_some_iff.1 hx).2
      exact .inr ⟨x, M.drop (j + 1), by rw [List.drop_eq_getElem_cons hl, he], hn⟩)
def RSetP (w : World) (r : Nat) (v : Value) (L : List It) (s : Int) (k : ByteArray) (n : Int) (e : Ending) (w' : World) : Prop := e = .returned (.int .i64 (errN n)) ∧ ∃ v', RQ w' r v' (S1 L s k n).1 ∧ Touch [r] w w' ∧ ∀ i, v'.ownBlock = some i → v.ownBlock = some i ∨ w.heap.size ≤ i
theorem rset_bad (h : RQ w r v L) (k : ByteArray) (at_ s : Int) (hb : ¬ okT at_) : Calls Try.prog 10 #[.pointer (some ⟨r, 0, none⟩), .string k, .int .i64 at_] w (RSetP w r v L s k at_) := by
  have HR := Lib.hid h
  have HB := Lib.hid hb
  unfold okT at hb
  clear h
  have HF : Hid (RSetP w r v L s k at_ (.returned (.int .i64 1)) w) := Lib.hid ⟨by unfold errN; rw [if_neg HB.out], v, by unfold S1; rw [if_neg HB.out]; exact HR.out, Touch.refl _ _, fun i hi => .inl hi⟩
  by_cases h0 : at_ < 0
  · clear hb
    go_enter Try.func10, Try.ntmps10
    repeat (first | go_step3 | go_values | go_skip | go_guarded | go_step | go_upon)
    go_ret
    exact HF.out
  · have h1 : at_ > 1099511627776 := by omega
    clear hb
    go_enter Try.func10, Try.ntmps10
    repeat (first | go_step3 | go_values | go_skip | go_guarded | go_step | go_upon)
    go_ret
    exact HF.out
set_option maxHeartbeats 8000000 in
theorem rset_ok (h : RQ w r v L) (hl : L.length ≤ 100) (k : ByteArray) (at_ s : Int) (hok : okT at_) : Calls Try.prog 10 #[.pointer (some ⟨r, 0, none⟩), .string k, .int .i64 at_] w (RSetP w r v L s k at_) := by
  have HR := Lib.hid h
  have HDR := Lib.hid (rdrop_any h hl k)
  have n0 : ¬ at_ < 0 := by unfold okT at hok; omega
  have n1 : ¬ at_ > 1099511627776 := by unfold okT at hok; omega
  obtain ⟨j0, hi0, hz0, hz1, hz2⟩ := info_t infoIm
  have HJ0 := Lib.hid (And.intro hi0 (And.intro hz0 (And.intro hz1 hz2)))
  have hui := Try.underlying55
  have HQE : Hid (RSetP w r v L s k at_ = fun e w' => e = .returned (.int .i64 0) ∧ ∃ v', RQ w' r v' (putL L k at_ s) ∧ Touch [r] w w' ∧ ∀ i, v'.ownBlock = some i → v.ownBlock = some i ∨ w.heap.size ≤ i) := Lib.hid (by
    funext e w'
    unfold RSetP errN S1
    rw [if_pos hok, if_pos hok])
  have HLM : Hid ((dropL L k).length ≤ 100) := Lib.hid (Nat.le_trans (List.length_filter_le _ _) hl)
  rw [HQE.out]
  clear h hi0 hz0 hz1 hz2 hok HQE
  go_enter Try.func10, Try.ntmps10
  repeat (first | go_step3 | go_values | go_skip | go_guarded | go_step | go_upon)
  (go_at_call 12; refine HDR.out.mono ?_; rintro e w2 ⟨rfl, v2, q2, t2, n2⟩; have HRM := Lib.hid q2; have HT2 := Lib.hid t2; clear q2 t2 n2; dsimp only)
  obtain ⟨M, hM⟩ : ∃ M, M = dropL L k := ⟨_, rfl⟩
  have HM := Lib.hid hM
  rw [← hM] at HRM HLM
  obtain ⟨A, c, e⟩ := HRM.out.row.slice
  obtain ⟨n, hn⟩ : ∃ n, n = M.length := ⟨_, rfl⟩
  have HNM := Lib.hid hn
  have hl2 : n ≤ 100 := by rw [hn]; exact HLM.out
  rw [← hn] at e
  subst e
  clear hM hn
  repeat (first | go_step3 | go_values | go_skip | go_guarded | go_step | go_upon)
  go_loopw [7, 8] (fun a i wr => ∃ (j : Nat) (va : Value), va = a ∧ i = .int .i64 j ∧ j ≤ n ∧ Hid (DI w2 wr va (M.take j) ∧ ∀ x ∈ M.take j, x.at_ ≤ at_)) (fun _ i _ => n - (intOf i).toNat)
  case atStart => exact ⟨0, _, rfl, rfl, Nat.zero_le _, Lib.hid ⟨⟨RowR.nil _, Touch.refl _ _, fun i h => (by cases h)⟩, by simp⟩⟩
  case round =>
    obtain ⟨j, va, rfl, rfl, hj, HI⟩ := hrel
    have HRr := Lib.hid (HRM.out.kept0 HI.out.1.t)
    have c0 := HRr.out.cell
    by_cases hlt : j < n
    · have hji : (j : Int) < n := by omega
      have hj0 : (0 : Int) ≤ j := by omega
      obtain ⟨x, hx⟩ : ∃ x, M[j]? = some x := ⟨_, List.getElem?_eq_getElem (by have := HNM.out; omega)⟩
      obtain ⟨g, c', e, d0, d1⟩ := HRr.out.row.at j x hx
      obtain ⟨rfl, rfl⟩ : A = some ⟨g, 0, none⟩ ∧ c = c' := by
        injection e with q1 _ q3
        exact ⟨q1, q3⟩
      have HLT := Lib.hid hlt
      have HX := Lib.hid hx
      have HTK : Hid (M.take (j + 1) = M.take j ++ [x]) := Lib.hid (by
        have he := (List.getElem?_eq_some_iff.1 hx).2
        rw [List.take_succ_eq_append_getElem (List.getElem?_eq_some_iff.1 hx).1, he])
      have HLL : Hid ((M.take j).length ≤ 100) := Lib.hid (by rw [List.length_take]; omega)
      clear hx e hlt
      obtain ⟨xk, xa, xn⟩ := x
      dsimp only at d0 d1
      by_cases hk : xa ≤ at_
      · have HIA : Hid (∀ x ∈ M.take (j + 1), x.at_ ≤ at_) := Lib.hid (fun x hx => by
          rw [HTK.out] at hx
          rcases List.mem_append.1 hx with hx | hx
          · exact HI.out.2 x hx
          · rw [List.mem_singleton.1 hx]; exact hk)
        repeat ((fail_if_success (with_reducible refine gate_builtin (b := .append) (xs := #[.tmp 37, .tmp 45]) rfl ?_)); first | go_step3 | go_values | go_skip | go_guarded | go_step | go_upon)
        have HROW : Hid (RowR (wr.alloc (Obj.cells #[.string xk, .int .i64 xa] 55)) va (M.take j)) := Lib.hid (HI.out.1.row.touch ((Touch.refl [] wr).alloc _) (by simp))
        ((with_reducible refine gate_builtin (b := .append) (xs := #[.tmp 37, .tmp 45]) rfl ?_); at_builtin; refine wpList_append_own_at _ rfl _ _ 26 rfl 0 55 j0 (.agg #[.string (⟨#[]⟩ : ByteArray), .int .i64 0]) 2 24 Try.underlying26 HJ0.out.1 HJ0.out.2.1 HJ0.out.2.2.1 HJ0.out.2.2.2 rfl (by decide) va ((M.take j)).length (fl2 ((M.take j))) rfl HROW.out ⟨wr.heap.size, 0, none⟩ 1 1 [.string xk, .int .i64 xa] rfl rfl (news_of (cs := #[.string xk, .int .i64 xa]) (t := 55) (fr := (0, 0)) (heap_alloc_new wr _)) (by simp [Value.oneCell']) (by have := HLL.out; simp only [maxLen]; omega) (by have := HLL.out; omega) (Nat.zero_le _) ?_)
        intro v6 w6 ho hg6 _ hat6
        obtain ⟨i6, A6, c6, e6⟩ := HI.out.1.app (M := [⟨xk, xa, xn⟩]) ((Touch.refl [] wr).alloc _) rfl rfl ho hg6 hat6
        have HI6 : Hid (DI w2 w6 v6 (M.take (j + 1)) ∧ ∀ x ∈ M.take (j + 1), x.at_ ≤ at_) := Lib.hid ⟨by rw [HTK.out]; exact i6, HIA.out⟩
        clear ho hg6 hat6 i6 d0 d1 c0 e6
        dsimp only
        repeat (first | go_step3 | go_values | go_skip | go_guarded | go_step | go_upon)
        try go_roundw
        case rel => exact ⟨j + 1, _, rfl, by go_num, HLT.out, HI6⟩
        case measure => have := HLT.out; simp [intOf]; omega
      · have HSP := Lib.hid (tw_split M at_ j (by rw [← HNM.out]; exact hj) HI.out.2 (.inr ⟨_, HX.out, hk⟩))
        have HSD := Lib.hid (fun (w' : World) (t : Touch [] w2 w') => src_drop (HRM.out.kept0 t).row HNM.out j hj)
        have hnc : (n : Int) ≤ c := by have := (HSD.out _ (Touch.refl _ _)).2; omega
        have hjn : (j : Int) ≤ n := by omega
        have hnc2 : n ≤ c := by omega
        have HB : Hid ((M.take j).length ≤ 100 ∧ ((M.take j) ++ [(⟨k, at_, 0⟩ : It)]).length ≤ 101) := Lib.hid ⟨by rw [List.length_take]; omega, by (rw [List.length_append, List.length_take]; simp) <;> omega⟩
        repeat ((fail_if_success (with_reducible refine gate_builtin (b := .append) (xs := #[.tmp 49, .tmp 53]) rfl ?_)); first | go_step3 | go_values | go_skip | go_guarded | go_step | go_upon)
        have HROW : Hid (RowR (wr.alloc (Obj.cells #[.string k, .int .i64 at_] 55)) va (M.take j)) := Lib.hid (HI.out.1.row.touch ((Touch.refl [] wr).alloc _) (by simp))
        ((with_reducible refine gate_builtin (b := .append) (xs := #[.tmp 49, .tmp 53]) rfl ?_); at_builtin; refine wpList_append_own_at _ rfl _ _ 26 rfl 0 55 j0 (.agg #[.string (⟨#[]⟩ : ByteArray), .int .i64 0]) 2 24 Try.underlying26 HJ0.out.1 HJ0.out.2.1 HJ0.out.2.2.1 HJ0.out.2.2.2 rfl (by decide) va ((M.take j)).length (fl2 ((M.take j))) rfl HROW.out ⟨wr.heap.size, 0, none⟩ 1 1 [.string k, .int .i64 at_] rfl rfl (news_of (cs := #[.string k, .int .i64 at_]) (t := 55) (fr := (0, 0)) (heap_alloc_new wr _)) (by simp [Value.oneCell']) (by have := HB.out.1; simp only [maxLen]; omega) (by have := HB.out.1; omega) (Nat.zero_le _) ?_)
        intro v6 w6 ho hg6 _ hat6
        obtain ⟨i6, A6, c6, e6⟩ := HI.out.1.app (M := [⟨k, at_, 0⟩]) ((Touch.refl [] wr).alloc _) rfl rfl ho hg6 hat6
        have I6 := Lib.hid i6
        have HR6 := Lib.hid (HRM.out.kept0 i6.t)
        clear ho hg6 hat6 i6 c0
        have c0 := HR6.out.cell
        subst e6
        obtain ⟨n6, hn6⟩ : ∃ q, q = ((M.take j) ++ [(⟨k, at_, 0⟩ : It)]).length := ⟨_, rfl⟩
        have HN6 := Lib.hid hn6
        rw [← hn6]
        have I6' : Hid (DI w2 w6 (.slice A6 n6 c6) (M.take j ++ [⟨k, at_, 0⟩])) := Lib.hid (by rw [hn6]; exact I6.out)
        have h6n : n6 ≤ 101 := by rw [hn6]; exact HB.out.2
        clear hn6
        dsimp only
        repeat ((fail_if_success (with_reducible refine gate_builtin (b := .append) (xs := #[.tmp 55, .tmp 61]) rfl ?_)); first | go_step3 | go_values | go_skip | go_guarded | go_step | go_upon)
        ((with_reducible refine gate_builtin (b := .append) (xs := #[.tmp 55, .tmp 61]) rfl ?_); at_builtin; refine wpList_append_src _ rfl _ _ 26 rfl 0 55 j0 (.agg #[.string (⟨#[]⟩ : ByteArray), .int .i64 0]) 2 24 Try.underlying26 HJ0.out.1 HJ0.out.2.1 HJ0.out.2.2.1 HJ0.out.2.2.2 rfl (by decide) (.slice A6 n6 c6) n6 (fl2 (M.take j ++ [⟨k, at_, 0⟩])) rfl (by have := I6'.out.row; unfold RowR at this; rw [← HN6.out] at this; exact this) (some ⟨g, j * 2, none⟩) (n - j) (c - j) (fl2 (M.drop j)) rfl (HSD.out _ I6.out.t).1 (fl2_one _) (by simp only [maxLen]; omega) (by omega) (Nat.zero_le _) ?_)
        intro v7 w7 ho hg7 hat7
        obtain ⟨i7, A7, c7, e7⟩ := I6'.out.app (M := M.drop j) (Touch.refl [] w6) (by rw [List.length_drop, ← HNM.out]) HN6.out.symm ho hg7 hat7
        have I7 := Lib.hid i7
        have HR7 := Lib.hid (HRM.out.kept0 i7.t)
        clear ho hg7 hat7 i7 c0
        generalize ((M.take j ++ [(⟨k, at_, 0⟩ : It)]) ++ M.drop j).length = n7 at e7
        subst e7
        have c0 := HR7.out.cell
        have f0 := frozen_of HR7.out.blk 0
        have HP := Lib.hid (HRM.out.put I7.out)
        dsimp only
        repeat (first | go_step3 | go_values | go_skip | go_guarded | go_step | go_upon)
        go_ret
        exact ⟨rfl, _, ⟨HP.out.1.blk, by
          have h1 := HP.out.1.row
          have h2 : Hid (M.takeWhile (fun y => decide (y.at_ ≤ at_)) = M.take j ∧ M.dropWhile (fun y => decide (y.at_ ≤ at_)) = M.drop j) := HSP
          unfold RowR at h1 ⊢
          rw [put_fl, ← HM.out, h2.out.1, h2.out.2, put_ln, ← HM.out, h2.out.1, h2.out.2]
          exact h1⟩, HT2.out.trans HP.out.2 (fun _ h => .inl h), fun i hi => .inr (Nat.le_trans HT2.out.size (I7.out.n i hi))⟩
    · have hji : ¬ (j : Int) < n := by omega
      have HJN : Hid (j = n) := Lib.hid (by omega)
      have HSP := Lib.hid (tw_split M at_ j (by rw [← HNM.out]; exact hj) HI.out.2 (.inl (by rw [← HNM.out]; exact HJN.out)))
      clear hlt
      cases A with
      | none =>
        obtain ⟨hM0, rfl, rfl⟩ := row_none HRM.out.row
        have hj00 : j = 0 := HJN.out
        subst hj00
        have HDN : Hid (M.drop 0 = []) := Lib.hid hM0
        clear hM0
        have HB : Hid ((M.take 0).length ≤ 100 ∧ ((M.take 0) ++ [(⟨k, at_, 0⟩ : It)]).length ≤ 101) := Lib.hid ⟨by rw [List.length_take]; omega, by (rw [List.length_append, List.length_take]; simp) <;> omega⟩
        repeat ((fail_if_success (with_reducible refine gate_builtin (b := .append) (xs := #[.tmp 49, .tmp 53]) rfl ?_)); first | go_step3 | go_values | go_skip | go_guarded | go_step | go_upon)
        have HROW : Hid (RowR (wr.alloc (Obj.cells #[.string k, .int .i64 at_] 55)) va (M.take 0)) := Lib.hid (HI.out.1.row.touch ((Touch.refl [] wr).alloc _) (by simp))
        ((with_reducible refine gate_builtin (b := .append) (xs := #[.tmp 49, .tmp 53]) rfl ?_); at_builtin; refine wpList_append_own_at _ rfl _ _ 26 rfl 0 55 j0 (.agg #[.string (⟨#[]⟩ : ByteArray), .int .i64 0]) 2 24 Try.underlying26 HJ0.out.1 HJ0.out.2.1 HJ0.out.2.2.1 HJ0.out.2.2.2 rfl (by decide) va ((M.take 0)).length (fl2 ((M.take 0))) rfl HROW.out ⟨wr.heap.size, 0, none⟩ 1 1 [.string k, .int .i64 at_] rfl rfl (news_of (cs := #[.string k, .int .i64 at_]) (t := 55) (fr := (0, 0)) (heap_alloc_new wr _)) (by simp [Value.oneCell']) (by have := HB.out.1; simp only [maxLen]; omega) (by have := HB.out.1; omega) (Nat.zero_le _) ?_)
        intro v6 w6 ho hg6 _ hat6
        obtain ⟨i6, A6, c6, e6⟩ := HI.out.1.app (M := [⟨k, at_, 0⟩]) ((Touch.refl [] wr).alloc _) rfl rfl ho hg6 hat6
        have I6 := Lib.hid i6
        have HR6 := Lib.hid (HRM.out.kept0 i6.t)
        clear ho hg6 hat6 i6 c0
        have c0 := HR6.out.cell
        subst e6
        obtain ⟨n6, hn6⟩ : ∃ q, q = ((M.take 0) ++ [(⟨k, at_, 0⟩ : It)]).length := ⟨_, rfl⟩
        have HN6 := Lib.hid hn6
        rw [← hn6]
        have I6' : Hid (DI w2 w6 (.slice A6 n6 c6) (M.take 0 ++ [⟨k, at_, 0⟩])) := Lib.hid (by rw [hn6]; exact I6.out)
        have h6n : n6 ≤ 101 := by rw [hn6]; exact HB.out.2
        clear hn6
        dsimp only
        repeat ((fail_if_success (with_reducible refine gate_builtin (b := .append) (xs := #[.tmp 55, .tmp 61]) rfl ?_)); first | go_step3 | go_values | go_skip | go_guarded | go_step | go_upon)
        ((with_reducible refine gate_builtin (b := .append) (xs := #[.tmp 55, .tmp 61]) rfl ?_); at_builtin; refine wpList_append_src _ rfl _ _ 26 rfl 0 55 j0 (.agg #[.string (⟨#[]⟩ : ByteArray), .int .i64 0]) 2 24 Try.underlying26 HJ0.out.1 HJ0.out.2.1 HJ0.out.2.2.1 HJ0.out.2.2.2 rfl (by decide) (.slice A6 n6 c6) n6 (fl2 (M.take 0 ++ [⟨k, at_, 0⟩])) rfl (by have := I6'.out.row; unfold RowR at this; rw [← HN6.out] at this; exact this) none 0 0 (fl2 (M.drop 0)) rfl (.inl ⟨rfl, rfl, by rw [HDN.out]; rfl⟩) (fl2_one _) (by simp only [maxLen]; omega) (by omega) (Nat.zero_le _) ?_)
        intro v7 w7 ho hg7 hat7
        obtain ⟨i7, A7, c7, e7⟩ := I6'.out.app (M := M.drop 0) (Touch.refl [] w6) (by rw [List.length_drop, ← HNM.out]) HN6.out.symm ho hg7 hat7
        have I7 := Lib.hid i7
        have HR7 := Lib.hid (HRM.out.kept0 i7.t)
        clear ho hg7 hat7 i7 c0
        generalize ((M.take 0 ++ [(⟨k, at_, 0⟩ : It)]) ++ M.drop 0).length = n7 at e7
        subst e7
        have c0 := HR7.out.cell
        have f0 := frozen_of HR7.out.blk 0
        have HP := Lib.hid (HRM.out.put I7.out)
        dsimp only
        repeat (first | go_step3 | go_values | go_skip | go_guarded | go_step | go_upon)
        go_ret
        exact ⟨rfl, _, ⟨HP.out.1.blk, by
          have h1 := HP.out.1.row
          have h2 : Hid (M.takeWhile (fun y => decide (y.at_ ≤ at_)) = M.take 0 ∧ M.dropWhile (fun y => decide (y.at_ ≤ at_)) = M.drop 0) := HSP
          unfold RowR at h1 ⊢
          rw [put_fl, ← HM.out, h2.out.1, h2.out.2, put_ln, ← HM.out, h2.out.1, h2.out.2]
          exact h1⟩, HT2.out.trans HP.out.2 (fun _ h => .inl h), fun i hi => .inr (Nat.le_trans HT2.out.size (I7.out.n i hi))⟩
      | some ad =>
        obtain ⟨g, rfl⟩ := row_addr HRM.out.row
        have HSD := Lib.hid (fun (w' : World) (t : Touch [] w2 w') => src_drop (HRM.out.kept0 t).row HNM.out j hj)
        have hnc : (n : Int) ≤ c := by have := (HSD.out _ (Touch.refl _ _)).2; omega
        have hjn : (j : Int) ≤ n := by omega
        have hnc2 : n ≤ c := by omega
        have hj0 : (0 : Int) ≤ j := by omega
        have HDE : Hid (M.drop j = []) := Lib.hid (List.drop_of_length_le (by rw [← HNM.out, HJN.out]; exact Nat.le_refl _))
        have HB : Hid ((M.take j).length ≤ 100 ∧ ((M.take j) ++ [(⟨k, at_, 0⟩ : It)]).length ≤ 101) := Lib.hid ⟨by rw [List.length_take]; omega, by (rw [List.length_append, List.length_take]; simp) <;> omega⟩
        repeat ((fail_if_success (with_reducible refine gate_builtin (b := .append) (xs := #[.tmp 49, .tmp 53]) rfl ?_)); first | go_step3 | go_values | go_skip | go_guarded | go_step | go_upon)
        have HROW : Hid (RowR (wr.alloc (Obj.cells #[.string k, .int .i64 at_] 55)) va (M.take j)) := Lib.hid (HI.out.1.row.touch ((Touch.refl [] wr).alloc _) (by simp))
        ((with_reducible refine gate_builtin (b := .append) (xs := #[.tmp 49, .tmp 53]) rfl ?_); at_builtin; refine wpList_append_own_at _ rfl _ _ 26 rfl 0 55 j0 (.agg #[.string (⟨#[]⟩ : ByteArray), .int .i64 0]) 2 24 Try.underlying26 HJ0.out.1 HJ0.out.2.1 HJ0.out.2.2.1 HJ0.out.2.2.2 rfl (by decide) va ((M.take j)).length (fl2 ((M.take j))) rfl HROW.out ⟨wr.heap.size, 0, none⟩ 1 1 [.string k, .int .i64 at_] rfl rfl (news_of (cs := #[.string k, .int .i64 at_]) (t := 55) (fr := (0, 0)) (heap_alloc_new wr _)) (by simp [Value.oneCell']) (by have := HB.out.1; simp only [maxLen]; omega) (by have := HB.out.1; omega) (Nat.zero_le _) ?_)
        intro v6 w6 ho hg6 _ hat6
        obtain ⟨i6, A6, c6, e6⟩ := HI.out.1.app (M := [⟨k, at_, 0⟩]) ((Touch.refl [] wr).alloc _) rfl rfl ho hg6 hat6
        have I6 := Lib.hid i6
        have HR6 := Lib.hid (HRM.out.kept0 i6.t)
        clear ho hg6 hat6 i6 c0
        have c0 := HR6.out.cell
        subst e6
        obtain ⟨n6, hn6⟩ : ∃ q, q = ((M.take j) ++ [(⟨k, at_, 0⟩ : It)]).length := ⟨_, rfl⟩
        have HN6 := Lib.hid hn6
        rw [← hn6]
        have I6' : Hid (DI w2 w6 (.slice A6 n6 c6) (M.take j ++ [⟨k, at_, 0⟩])) := Lib.hid (by rw [hn6]; exact I6.out)
        have h6n : n6 ≤ 101 := by rw [hn6]; exact HB.out.2
        clear hn6
        dsimp only
        repeat ((fail_if_success (with_reducible refine gate_builtin (b := .append) (xs := #[.tmp 55, .tmp 61]) rfl ?_)); first | go_step3 | go_values | go_skip | go_guarded | go_step | go_upon)
        ((with_reducible refine gate_builtin (b := .append) (xs := #[.tmp 55, .tmp 61]) rfl ?_); at_builtin; refine wpList_append_src _ rfl _ _ 26 rfl 0 55 j0 (.agg #[.string (⟨#[]⟩ : ByteArray), .int .i64 0]) 2 24 Try.underlying26 HJ0.out.1 HJ0.out.2.1 HJ0.out.2.2.1 HJ0.out.2.2.2 rfl (by decide) (.slice A6 n6 c6) n6 (fl2 (M.take j ++ [⟨k, at_, 0⟩])) rfl (by have := I6'.out.row; unfold RowR at this; rw [← HN6.out] at this; exact this) _ (n - j) _ (fl2 (M.drop j)) rfl (by rw [HDE.out]; split <;> exact .inr ⟨_, rfl, by rw [HJN.out, Nat.sub_self]; rfl, fun q u hu => by simp [fl2] at hu⟩) (fl2_one _) (by simp only [maxLen]; omega) (by omega) (Nat.zero_le _) ?_)
        intro v7 w7 ho hg7 hat7
        obtain ⟨i7, A7, c7, e7⟩ := I6'.out.app (M := M.drop j) (Touch.refl [] w6) (by rw [List.length_drop, ← HNM.out]) HN6.out.symm ho hg7 hat7
        have I7 := Lib.hid i7
        have HR7 := Lib.hid (HRM.out.kept0 i7.t)
        clear ho hg7 hat7 i7 c0
        generalize ((M.take j ++ [(⟨k, at_, 0⟩ : It)]) ++ M.drop j).length = n7 at e7
        subst e7
        have c0 := HR7.out.cell
        have f0 := frozen_of HR7.out.blk 0
        have HP := Lib.hid (HRM.out.put I7.out)
        dsimp only
        repeat (first | go_step3 | go_values | go_skip | go_guarded | go_step | go_upon)
        go_ret
        exact ⟨rfl, _, ⟨HP.out.1.blk, by
          have h1 := HP.out.1.row
          have h2 : Hid (M.takeWhile (fun y => decide (y.at_ ≤ at_)) = M.take j ∧ M.dropWhile (fun y => decide (y.at_ ≤ at_)) = M.drop j) := HSP
          unfold RowR at h1 ⊢
          rw [put_fl, ← HM.out, h2.out.1, h2.out.2, put_ln, ← HM.out, h2.out.1, h2.out.2]
          exact h1⟩, HT2.out.trans HP.out.2 (fun _ h => .inl h), fun i hi => .inr (Nat.le_trans HT2.out.size (I7.out.n i hi))⟩
theorem rset_any (h : RQ w r v L) (hl : L.length ≤ 100) (k : ByteArray) (at_ s : Int) : Calls Try.prog 10 #[.pointer (some ⟨r, 0, none⟩), .string k, .int .i64 at_] w (RSetP w r v L s k at_) := by
  by_cases hok : okT at_
  · exact rset_ok h hl k at_ s hok
  · exact rset_bad h k at_ s hok
end
end Go.Proofs.Ythafopnaecbjdaa
