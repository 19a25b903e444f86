/- gauge: merged states, and the order in which numbers come, in plain words. -/
import Derived.Test.YtmgcmheiabmajaaGaA
namespace Go.Proofs.Ytmgcmheiabmajaa
open Go Go.RowKit Go.Proofs.Ytmgcmheiabmajaa.Pa Go.Proofs.YtmgcmheiabmajaaW.PrintWords Go.Proofs.YtmgcmheiabmajaaW.PrintLast

def mergeG (S T : GS) : GS := ⟨mergeL S.L T.L, S.t + T.t, mn (S.s + T.s) cutI⟩
def posL (l : List Int) (x : Int) : Nat := (l.takeWhile fun y => decide (y < x)).length
theorem pos_map (L : List SB) (x : Int) : posB L x = posL (L.map (·.b)) x := by
  unfold posB posL
  induction L with
  | nil => rfl
  | cons a r ih =>
    rw [List.map_cons, List.takeWhile_cons, List.takeWhile_cons]
    by_cases h : a.b < x
    · rw [if_pos (by simpa using h), if_pos (by simpa using h), List.length_cons, List.length_cons, ih]
    · rw [if_neg (by simpa using h), if_neg (by simpa using h)]
      rfl
theorem addL_get (L : List SB) (x : Int) (i : Nat) : (addL L x)[i]? = L[i]?.map fun z => if posB L x = i then ⟨z.b, z.c + 1⟩ else z := by
  unfold addL putC
  rw [List.getElem?_modify]
  by_cases h : posB L x = i
  · subst h
    cases hg : L[posB L x]? with
    | none => rfl
    | some z =>
      rw [List.getD_eq_getElem?_getD, hg]
      rfl
  · cases L[i]? with
    | none => rfl
    | some z =>
      show some (if posB L x = i then _ else z) = some (if posB L x = i then _ else z)
      rw [if_neg h, if_neg h]
theorem addL_map (L : List SB) (x : Int) : (addL L x).map (·.b) = L.map (·.b) := by
  unfold addL
  exact putC_map _ _ _
theorem addL_comm (L : List SB) (x y : Int) : addL (addL L x) y = addL (addL L y) x := by
  apply List.ext_getElem?
  intro i
  have e1 : posB (addL L x) y = posB L y := by rw [pos_map, addL_map, ← pos_map]
  have e2 : posB (addL L y) x = posB L x := by rw [pos_map, addL_map, ← pos_map]
  rw [addL_get, addL_get, addL_get, addL_get, e1, e2]
  cases L[i]? with
  | none => rfl
  | some z =>
    show some _ = some _
    congr 1
    by_cases h1 : posB L x = i <;> by_cases h2 : posB L y = i <;> simp [h1, h2]
theorem step_comm {B : List Int} {k : Nat} {S : GS} (h : Okg B k S) (x y : Int) : stepG (stepG S x) y = stepG (stepG S y) x := by
  have hs := h.s
  unfold stepG
  cases hx : okI x <;> cases hy : okI y <;> simp only [Bool.false_eq_true, if_false, if_true]
  · have hxx := of_decide_eq_true hx
    have hyy := of_decide_eq_true hy
    rw [addL_comm S.L x y]
    congr 1
    show mn (mn (S.s + x) cutI + y) cutI = mn (mn (S.s + y) cutI + x) cutI
    unfold mn cutI at *
    split <;> split <;> split <;> split <;> omega
theorem play_cons (S : GS) (x : Int) (l : List Int) : playG S (x :: l) = playG (stepG S x) l := rfl
theorem play_app (S : GS) (l m : List Int) : playG S (l ++ m) = playG (playG S l) m := List.foldl_append
theorem play_perm {l m : List Int} (h : l.Perm m) : ∀ {B : List Int} {k : Nat} {S : GS}, Okg B k S → playG S l = playG S m := by
  induction h with
  | nil => intro _ _ _ _; rfl
  | cons x _ ih => intro B k S ho; rw [play_cons, play_cons]; exact ih (ho.step x)
  | swap x y l => intro B k S ho; rw [play_cons, play_cons, play_cons, play_cons, step_comm ho]
  | trans _ _ ih1 ih2 => intro B k S ho; exact (ih1 ho).trans (ih2 ho)
theorem mergeL_get (L M : List SB) (i : Nat) : (mergeL L M)[i]? = match L[i]?, M[i]? with | some x, some y => some ⟨x.b, x.c + y.c⟩ | _, _ => none := by
  unfold mergeL
  rw [List.getElem?_zipWith]
  cases L[i]? <;> cases M[i]? <;> rfl
theorem mergeL_map (L M : List SB) (h : L.map (·.b) = M.map (·.b)) : (mergeL L M).map (·.b) = L.map (·.b) := by
  apply List.ext_getElem?
  intro i
  have e := congrArg (fun q => q[i]?) h
  simp only [List.getElem?_map] at e
  rw [List.getElem?_map, List.getElem?_map, mergeL_get]
  cases hl : L[i]? with
  | none => rfl
  | some x =>
    rw [hl] at e
    cases hm : M[i]? with
    | none => rw [hm] at e; cases e
    | some y => rfl
theorem mergeL_add (L M : List SB) (h : L.map (·.b) = M.map (·.b)) (x : Int) : mergeL L (addL M x) = addL (mergeL L M) x := by
  apply List.ext_getElem?
  intro i
  have e : posB (mergeL L M) x = posB M x := by rw [pos_map, mergeL_map L M h, h, ← pos_map]
  rw [mergeL_get, addL_get, addL_get, mergeL_get, e]
  cases L[i]? with
  | none => rfl
  | some a =>
    cases M[i]? with
    | none => rfl
    | some b =>
      show some _ = some _
      by_cases hp : posB M x = i
      · simp only [hp, if_true]
        congr 2
        omega
      · simp only [hp, if_false]
theorem merge_start {B : List Int} {k : Nat} {S : GS} (h : Okg B k S) : mergeG S (startG B) = S := by
  have hb : S.L.map (·.b) = (initL B).map (·.b) := h.bs.trans (Okg.start h.good).bs.symm
  have hz : ∀ z ∈ initL B, z.c = 0 := fun z hz => by
    have := (Okg.start h.good).c z hz
    have ht : (startG B).t = 0 := rfl
    rw [ht] at this
    omega
  obtain ⟨L, t, s⟩ := S
  unfold mergeG
  have h1 : mergeL L (startG B).L = L := by
    apply List.ext_getElem?
    intro i
    have e := congrArg (fun q => q[i]?) hb
    simp only [List.getElem?_map] at e
    rw [mergeL_get]
    show (match L[i]?, (initL B)[i]? with | some x, some y => some (⟨x.b, x.c + y.c⟩ : SB) | _, _ => none) = L[i]?
    cases hl : L[i]? with
    | none => rfl
    | some x =>
      rw [hl] at e
      cases hm : (initL B)[i]? with
      | none => rw [hm] at e; cases e
      | some y =>
        show some (⟨x.b, x.c + y.c⟩ : SB) = some x
        rw [hz y (List.mem_of_getElem? hm), Int.add_zero]
  have hs := h.s
  have h2 : mn (s + (startG B).s) cutI = s := by
    show mn (s + 0) cutI = s
    have hs : 0 ≤ s ∧ s ≤ cutI := hs
    unfold mn
    rw [Int.add_zero, if_neg (by omega)]
  rw [h1]
  show (⟨L, t + 0, mn (s + (startG B).s) cutI⟩ : GS) = _
  rw [h2, Int.add_zero]
theorem merge_step {B : List Int} {k j : Nat} {S T : GS} (h : Okg B k S) (g : Okg B j T) (x : Int) : mergeG S (stepG T x) = stepG (mergeG S T) x := by
  have hb : S.L.map (·.b) = T.L.map (·.b) := h.bs.trans g.bs.symm
  have hs := h.s
  have ht := g.s
  unfold stepG
  cases hx : okI x <;> simp only [Bool.false_eq_true, if_false, if_true]
  have hxx := of_decide_eq_true hx
  unfold mergeG
  rw [mergeL_add S.L T.L hb]
  congr 1
  · show S.t + (T.t + 1) = S.t + T.t + 1
    omega
  · show mn (S.s + mn (T.s + x) cutI) cutI = mn (mn (S.s + T.s) cutI + x) cutI
    unfold mn cutI at *
    split <;> split <;> split <;> split <;> omega
theorem merge_play {B : List Int} {k : Nat} {S : GS} (h : Okg B k S) : ∀ (l : List Int) (j : Nat) (T : GS), Okg B j T → mergeG S (playG T l) = playG (mergeG S T) l
  | [], j, T, _ => rfl
  | x :: r, j, T, g => by
    rw [play_cons, play_cons, merge_play h r (j + 1) (stepG T x) (g.step x), merge_step h g x]
theorem merged {B : List Int} (hg : Good B) (a b : List Int) : mergeG (playG (startG B) a) (playG (startG B) b) = playG (startG B) (b.reverse ++ a) := by
  have h := Okg.play a 0 (startG B) (Okg.start hg)
  rw [merge_play h b 0 (startG B) (Okg.start hg), merge_start h, ← play_app]
  refine play_perm ?_ (Okg.start hg)
  exact List.perm_append_comm.trans (List.Perm.append_right a (List.reverse_perm b).symm)
end Go.Proofs.Ytmgcmheiabmajaa
