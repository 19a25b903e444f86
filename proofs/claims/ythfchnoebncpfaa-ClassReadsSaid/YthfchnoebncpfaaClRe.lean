/- class: ClassReads answers true. -/
import Derived.Test.YthfchnoebncpfaaClR
import Derived.Test.YthfchnoebncpfaaPuR
namespace Go.Proofs.Ythfchnoebncpfaa
open Go Go.RowKit Go.Maps Go.Proofs.Ythfchnoebncpfaa.Pu Go.Proofs.YthfchnoebncpfaaW.PrintWords Go.Proofs.YthfchnoebncpfaaW.PrintLast
set_option linter.unusedSimpArgs false

/-! a Read -/
def w5 : List ByteArray := [⟨#[105, 110, 115, 101, 114, 116]⟩, ⟨#[117, 112, 100, 97, 116, 101]⟩, ⟨#[100, 101, 108, 101, 116, 101]⟩, ⟨#[109, 101, 114, 103, 101]⟩, ⟨#[105, 110, 116, 111]⟩]
def bDel : ByteArray := ⟨#[100, 101, 108, 101, 116, 101]⟩
theorem tU : (⟨#[117, 112, 100, 97, 116, 101]⟩ : ByteArray).toList = bUpd := by kernel_rfl
theorem inF_w5 (q : ByteArray) : inF q w5 = ((q.toList == bUpd) || inF q wrL) := by
  unfold inF w5 wrL
  simp only [List.any_cons, List.any_nil, tU]
  rw [show (bUpd == q.toList) = (q.toList == bUpd) from BEq.comm]
  cases q.toList == bUpd <;> cases (⟨#[105, 110, 115, 101, 114, 116]⟩ : ByteArray).toList == q.toList <;> simp
theorem lk_upd (q : ByteArray) (h : q.toList = bUpd) : inF q lkL = true := by
  rw [inF_nil_of q bUpd lkL h]
  kernel_rfl
theorem no_w5 : ∀ (ws : List ByteArray) (p : ByteArray), wrF p ws = false → lockF (p :: ws) = false → ws.any (fun q => inF q w5) = false
  | [], _, _, _ => rfl
  | q :: r, p, hw, hl => by
    have hw' : ((q.toList == bUpd && !(p.toList == bFor)) || inF q wrL || wrF q r) = false := hw
    have hl' : ((p.toList == bFor && inF q lkL) || lockF (q :: r)) = false := hl
    simp only [Bool.or_eq_false_iff] at hw' hl'
    rw [List.any_cons, no_w5 r q hw'.2 hl'.2, inF_w5, hw'.1.2]
    by_cases hu : q.toList = bUpd
    · exfalso
      have h1 := hw'.1.1
      have h2 := hl'.1
      rw [lk_upd q hu] at h2
      rw [hu] at h1
      cases hp : p.toList == bFor <;> rw [hp] at h1 h2 <;> simp at h1 h2
    · rw [beq_eq_false_iff_ne.2 hu]
      rfl
theorem lock_eB (ws : List ByteArray) : lockF (eB :: ws) = lockF ws := by
  cases ws with
  | nil => rfl
  | cons q r =>
    show (eB.toList == bFor && inF q lkL || lockF (q :: r)) = _
    have : (eB.toList == bFor) = false := by kernel_rfl
    rw [this]
    rfl
theorem has_w5 (l : List S33) : hasF l w5 = (wdsF l).any (fun q => inF q w5) := by
  unfold hasF wdsF
  rw [List.any_map]
  congr 1
  funext x
  show _ = inF (wdF x) w5
  unfold wdF
  by_cases h : x.f0 = 1
  · rw [if_pos h, beq_iff_eq.2 h]
    rfl
  · rw [if_neg h, beq_eq_false_iff_ne.2 h]
    have : inF eB w5 = false := by kernel_rfl
    rw [this]
    rfl
theorem wr_del (ws : List ByteArray) : ∀ p, wrF p (ws ++ [bDel]) = true := by
  induction ws with
  | nil =>
    intro p
    show ((bDel.toList == bUpd && !(p.toList == bFor)) || inF bDel wrL || wrF bDel []) = true
    have : inF bDel wrL = true := by kernel_rfl
    rw [this]
    simp
  | cons q r ih =>
    intro p
    show ((q.toList == bUpd && !(p.toList == bFor)) || inF q wrL || wrF q (r ++ [bDel])) = true
    rw [ih q]
    simp
def isQ (b : List UInt8) : Bool := b == [115, 101, 108, 101, 99, 116] || b == [118, 97, 108, 117, 101, 115] || b == [116, 97, 98, 108, 101] || b == [119, 105, 116, 104]
theorem isQ_or {b : List UInt8} (h : isQ b = true) : ((b = [115, 101, 108, 101, 99, 116] ∨ b = [118, 97, 108, 117, 101, 115]) ∨ b = [116, 97, 98, 108, 101]) ∨ b = [119, 105, 116, 104] := by
  simpa only [isQ, Bool.or_eq_true, beq_iff_eq] using h
theorem ofB_q (b : List UInt8) (q : Int) (tr tt : Bool) (h : isQ b = true) : ofB b q tr tt = q := by
  rcases isQ_or h with ((rfl | rfl) | rfl) | rfl
  · kernel_rfl
  · kernel_rfl
  · kernel_rfl
  · kernel_rfl
theorem ite_ne {c : Prop} [Decidable c] {a b v : Int} (ha : a ≠ v) (hb : b ≠ v) : (if c then a else b) ≠ v := by split <;> assumption
theorem ofB_one (b : List UInt8) (q : Int) (tr tt : Bool) (h : ofB b q tr tt = 1) : isQ b = true := by
  cases hq : isQ b with
  | true => rfl
  | false =>
    exfalso
    simp only [isQ, Bool.or_eq_false_iff, beq_eq_false_iff_ne] at hq
    unfold ofB at h
    rw [if_neg hq.1.1.1, if_neg hq.1.1.2, if_neg hq.1.2, if_neg hq.2] at h
    revert h
    show _ ≠ _
    repeat' (apply ite_ne)
    all_goals decide
theorem reads_f (s : ByteArray) : pontoonlaw06_ClassReads.f 16000 s = some true := by
  unfold pontoonlaw06_ClassReads.f
  split
  · rfl
  rename_i hs
  obtain ⟨L, eL, nL, oL⟩ := tokens_s s (by omega)
  rw [eL, Option.bind_some, of_f L 16000 (by omega) (by omega) (fun x hx => wd_ok (oL x hx)), Option.bind_some]
  split
  · rename_i h1
    have key : ∃ y r, L = y :: r ∧ isQ (wdF y).toList = true ∧ qP L = 1 := by
      unfold ofP at h1
      cases L with
      | nil => exact absurd h1 (by show ¬ (0 : Int) = 1; decide)
      | cons y r =>
        have h1 : ofB (wdF y).toList (qP (y :: r)) (trF (wdF y :: wdsF r)) (inF bTo (wdF y :: wdsF r)) = 1 := h1
        have hq := ofB_one _ _ _ _ h1
        rw [ofB_q _ _ _ _ hq] at h1
        exact ⟨y, r, rfl, hq, h1⟩
    obtain ⟨y, r, eyr, hq, hp⟩ := key
    have hwl : wrF eB (wdsF L) = false ∧ lockF (wdsF L) = false := by
      unfold qP at hp
      cases hw : wrF eB (wdsF L)
      · cases hl : lockF (wdsF L)
        · exact ⟨rfl, rfl⟩
        · rw [hw, hl] at hp
          exact absurd hp (by simp)
      · rw [hw] at hp
        exact absurd hp (by simp)
    have hno : hasF L w5 = false := by
      rw [has_w5]
      exact no_w5 _ eB hwl.1 (by rw [lock_eB]; exact hwl.2)
    have hk : y.f0 = 1 := by
      apply Classical.byContradiction
      intro hne
      unfold wdF at hq
      rw [if_neg hne] at hq
      have : isQ eB.toList = false := by kernel_rfl
      rw [this] at hq
      cases hq
    rw [Option.bind_some, if_pos (by show 0 + L.length < 4398046511104; omega), Option.bind_some, if_pos (by show (([] : List S33) ++ L).length < 4398046511104; rw [List.nil_append]; omega)]
    have e5 := has_f L w5 16000 (by show L.length + 5 + 1 < 16000; omega) (by omega) (by decide)
    unfold w5 at e5 hno
    rw [e5, hno, Option.bind_some, if_neg (by decide), locks_f L 16000 (by omega) (by omega), hwl.2, Option.bind_some, if_neg (by decide), if_pos (by rw [eyr]; simp), if_pos (by rw [eyr]; simp)]
    have hrd : (rd_T33 L 0).f0 = 1 := by rw [eyr]; exact hk
    have hmore : ofP (([] : List S33) ++ L ++ [⟨1, bDel, 0⟩]) = 2 := by
      rw [List.nil_append]
      have hws : wdsF (L ++ [⟨1, bDel, 0⟩]) = wdsF L ++ [bDel] := by
        unfold wdsF
        rw [List.map_append]
        rfl
      unfold ofP
      rw [hws]
      have hq2 : qP (L ++ [⟨1, bDel, 0⟩]) = 2 := by
        unfold qP
        rw [hws, wr_del]
        rfl
      rw [hq2, eyr]
      show ofB (wdF y).toList 2 _ _ = 2
      rw [ofB_q _ _ _ _ hq]
    have hof := of_f (([] : List S33) ++ L ++ [⟨1, bDel, 0⟩]) 16000 (by rw [List.nil_append, List.length_append]; show 2 * (L.length + 1) + 40 < 16000; omega) (by rw [List.nil_append, List.length_append]; show L.length + 1 ≤ _; omega) (fun x hx => by
      rw [List.nil_append] at hx
      rcases List.mem_append.1 hx with hx | hx
      · exact wd_ok (oL x hx)
      · rw [List.mem_singleton] at hx
        subst hx
        exact wd_ok fun _ => by decide)
    rw [hmore] at hof
    unfold bDel at hof
    rw [if_pos hrd, hof, Option.bind_some, if_pos rfl]
    rfl
  · rfl
theorem reads_walk (s : ByteArray) (w : World) : Calls Try.prog 5 #[.string s] w fun e w' => e = .returned (.bool true) ∧ Below w.heap.size w w' :=
  pontoonlaw06_ClassReads.calls 16000 s true w (reads_f s)
end Go.Proofs.Ythfchnoebncpfaa
