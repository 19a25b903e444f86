/- gauge: the program's gauge and the document's tell the same, in plain words. -/
import Derived.Test.YtmgcmheiabmajaaGaI
namespace Go.Proofs.Ytmgcmheiabmajaa
open Go Go.RowKit Go.Proofs.Ytmgcmheiabmajaa.Pa Go.Proofs.YtmgcmheiabmajaaW.PrintWords Go.Proofs.YtmgcmheiabmajaaW.PrintLast

structure Rel (B : List Int) (S : GS) (v : List Int) : Prop where
  t : S.t = v.length
  s : S.s = sumR v
  c : S.L.map (·.c) = cntR B v
  n : Num v
theorem posL_cut {B : List Int} {x : Int} (h : x ≤ 1099511627776) : posL (B ++ [cutI]) x = posL B x := by
  induction B with
  | nil =>
    unfold posL
    show (List.takeWhile _ [cutI]).length = 0
    rw [List.takeWhile_cons, if_neg (by unfold cutI; simp; omega)]
    rfl
  | cons a r ih =>
    unfold posL at *
    show (List.takeWhile _ (a :: (r ++ [cutI]))).length = _
    rw [List.takeWhile_cons, List.takeWhile_cons]
    by_cases hx : a < x
    · rw [if_pos (by simpa using hx), if_pos (by simpa using hx), List.length_cons, List.length_cons, ih]
    · rw [if_neg (by simpa using hx), if_neg (by simpa using hx)]
theorem sumR_snoc (v : List Int) (x : Int) : sumR (v ++ [x]) = mn (sumR v + x) cutI := by unfold sumR; rw [List.foldl_append]; rfl
theorem cntR_snoc (B v : List Int) (x : Int) : cntR B (v ++ [x]) = cnt1 B (cntR B v) x := by unfold cntR; rw [List.foldl_append]; rfl
theorem Rel.step {B : List Int} {k : Nat} {S : GS} {v : List Int} (ho : Okg B k S) (h : Rel B S v) {x : Int} (hx : okI x = true) : Rel B (stepG S x) (v ++ [x]) := by
  have hxx := of_decide_eq_true hx
  have hs : stepG S x = ⟨addL S.L x, S.t + 1, mn (S.s + x) cutI⟩ := if_pos hx
  rw [hs]
  refine ⟨?_, ?_, ?_, fun y hy => ?_⟩
  · show S.t + 1 = _
    rw [h.t, List.length_append]
    simp
  · show mn (S.s + x) cutI = _
    rw [h.s, sumR_snoc]
  · show (addL S.L x).map (·.c) = _
    rw [cntR_snoc, ← h.c]
    have hp := ho.pos hx
    have he : posB S.L x = posL B x := by rw [pos_map, ho.bs, posL_cut hxx.2]
    unfold cnt1
    rw [← he]
    apply List.ext_getElem?
    intro i
    rw [List.getElem?_map, addL_get, List.getElem?_set, List.getElem?_map, List.length_map]
    by_cases hi : posB S.L x = i
    · subst hi
      rw [if_pos rfl, if_pos hp, List.getElem?_eq_getElem hp]
      have hr : rd (S.L.map (·.c)) (posB S.L x : Nat) = S.L[posB S.L x].c := by
        rw [rd_at _ _ (by rw [List.length_map]; exact hp), List.getElem_map]
      rw [hr]
      show some (if posB S.L x = posB S.L x then (⟨_, _⟩ : SB) else _).c = _
      rw [if_pos rfl]
    · rw [if_neg hi]
      cases S.L[i]? with
      | none => rfl
      | some z =>
        show some (if posB S.L x = i then (⟨_, _⟩ : SB) else z).c = some z.c
        rw [if_neg hi]
  · rcases List.mem_append.1 hy with hy | hy
    · exact h.n y hy
    · rw [List.mem_singleton] at hy
      rw [hy]
      exact hxx
theorem Rel.start (B : List Int) : Rel B (startG B) [] := by
  refine ⟨rfl, rfl, ?_, fun y hy => by cases hy⟩
  show (initL B).map (·.c) = List.replicate (B.length + 1) 0
  unfold initL
  rw [List.map_append, List.map_map, List.replicate_succ']
  congr 1
  induction B with
  | nil => rfl
  | cons a r ih => exact congrArg (0 :: ·) ih
theorem zip_parts (L : List SB) : L = zipB (L.map (·.b)) (L.map (·.c)) := by
  unfold zipB
  induction L with
  | nil => rfl
  | cons a r ih =>
    show a :: r = SB.mk a.b a.c :: List.zipWith SB.mk (r.map (·.b)) (r.map (·.c))
    rw [← ih]
theorem zip_last (B cs : List Int) (x : Int) (h : cs.length = B.length + 1) : zipB (B ++ [x]) cs = zipB B cs ++ [⟨x, rd cs (B.length : Nat)⟩] := by
  have hl : B.length < cs.length := by omega
  have hz := zipB_len B cs (by omega)
  rw [rd_at cs B.length hl]
  apply List.ext_getElem?
  intro i
  by_cases h1 : i < B.length
  · rw [List.getElem?_append_left (by rw [hz]; exact h1)]
    unfold zipB
    rw [List.getElem?_zipWith, List.getElem?_zipWith, List.getElem?_append_left h1]
  · by_cases h2 : i = B.length
    · subst h2
      rw [List.getElem?_append_right (by rw [hz]; exact Nat.le_refl _), hz, Nat.sub_self]
      unfold zipB
      rw [List.getElem?_zipWith, List.getElem?_append_right (Nat.le_refl _), Nat.sub_self, List.getElem?_eq_getElem hl]
      rfl
    · rw [List.getElem?_eq_none (by unfold zipB; rw [List.length_zipWith, List.length_append]; simp; omega), List.getElem?_eq_none (by rw [List.length_append, hz]; simp; omega)]
theorem Rel.L {B : List Int} {k : Nat} {S : GS} {v : List Int} (ho : Okg B k S) (h : Rel B S v) : S.L = zipB B (cntR B v) ++ [⟨cutI, rd (cntR B v) (B.length : Nat)⟩] := by
  have := zip_parts S.L
  rw [ho.bs, h.c, zip_last B _ _ (cntR_len B v)] at this
  exact this
theorem Rel.rank {B : List Int} {k : Nat} {S : GS} {v : List Int} (ho : Okg B k S) (h : Rel B S v) (q : Int) : rankF S.t q S.L = rankRF B v q := by
  unfold rankF rankRF
  rw [h.L ho, List.dropLast_concat, h.t]
  by_cases hc : v.length = 0 ∨ q < 0 ∨ 1000 < q
  · rw [if_pos hc, if_pos (by omega)]
  · rw [if_neg hc, if_neg (by omega)]
theorem line_eq (acc : ByteArray) (y : SB) : acc ++ (((D y.b ++ colonB) ++ D y.c) ++ nlB) = lineR acc y := by
  unfold lineR
  simp only [ByteArray.append_assoc]
theorem show_app : ∀ (M : List SB) (n k : Nat) (acc : ByteArray) (z : SB), k + M.length + 1 = n → showL n (M ++ [z]) k acc = M.foldl lineR acc ++ (((moreB ++ colonB) ++ D z.c) ++ nlB)
  | [], n, k, acc, z, h => by
    have hk : ¬ k + 1 < n := by simp at h; omega
    show acc ++ (((nameG n k z ++ colonB) ++ D z.c) ++ nlB) = _
    have : nameG n k z = moreB := if_neg hk
    rw [this]
    rfl
  | y :: r, n, k, acc, z, h => by
    have hk : k + 1 < n := by simp at h; omega
    show showL n (r ++ [z]) (k + 1) (acc ++ (((nameG n k y ++ colonB) ++ D y.c) ++ nlB)) = _
    have : nameG n k y = D y.b := if_pos hk
    rw [this, line_eq, show_app r n (k + 1) _ z (by simp at h ⊢; omega)]
    rfl
theorem Rel.show_ {B : List Int} {k : Nat} {S : GS} {v : List Int} (ho : Okg B k S) (h : Rel B S v) : showG S.L = showR B v := by
  have hz := zipB_len B (cntR B v) (by rw [cntR_len]; omega)
  unfold showG showR
  rw [h.L ho, show_app _ _ 0 _ _ (by rw [List.length_append, hz]; simp)]
  have e : moreB ++ colonB = moreC := by rfl
  rw [e]
  simp only [ByteArray.append_assoc]
end Go.Proofs.Ytmgcmheiabmajaa
