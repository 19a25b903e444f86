/- class: the plain side: locks, writing words, the class. -/
import Derived.Test.YthfchnoebncpfaaClP1
namespace Go.Proofs.Ythfchnoebncpfaa
open Go Go.RowKit Go.Maps Go.Proofs.Ythfchnoebncpfaa.Pu Go.Proofs.YthfchnoebncpfaaW.PrintWords Go.Proofs.YthfchnoebncpfaaW.PrintLast
set_option linter.unusedSimpArgs false

theorem wd_at (l : List S33) (i : Nat) (h : i < l.length) : (wdsF l)[i]'(by rw [wds_len]; exact h) = wdF l[i] := by simp [wdsF]
/-- The Word at a place; beyond the end, and ahead of the beginning, none. -/
def wAt (ws : List ByteArray) (i : Nat) : ByteArray := ws.getD i eB
theorem word_f (l : List S33) (_hl : l.length ≤ 17592186044416) (i : Nat) : pontoonref06_word.f l i = some (wAt (wdsF l) i) := by
  unfold pontoonref06_word.f wAt
  rw [if_neg (by omega)]
  by_cases h : i < l.length
  · rw [if_neg (by omega), if_pos (by omega), if_pos (by omega), rdT_at l i h, List.getD_eq_getElem?_getD, List.getElem?_eq_getElem (by rw [wds_len]; exact h), wd_at l i h]
    unfold wdF
    split <;> simp
  · rw [if_pos (by omega), List.getD_eq_getElem?_getD, List.getElem?_eq_none (by rw [wds_len]; omega)]
    rfl
theorem word_neg (l : List S33) : pontoonref06_word.f l (-1) = some eB := by
  unfold pontoonref06_word.f
  rw [if_pos (by decide)]
def lkL : List ByteArray := [⟨#[117, 112, 100, 97, 116, 101]⟩, ⟨#[115, 104, 97, 114, 101]⟩, ⟨#[110, 111]⟩, ⟨#[107, 101, 121]⟩]
def bFor : List UInt8 := [102, 111, 114]
def bUpd : List UInt8 := [117, 112, 100, 97, 116, 101]
def wrL : List ByteArray := [⟨#[105, 110, 115, 101, 114, 116]⟩, ⟨#[100, 101, 108, 101, 116, 101]⟩, ⟨#[109, 101, 114, 103, 101]⟩, ⟨#[105, 110, 116, 111]⟩]
def lockF : List ByteArray → Bool
  | p :: q :: r => (p.toList == bFor && inF q lkL) || lockF (q :: r)
  | _ => false
theorem lockF_step (ws : List ByteArray) (i : Nat) (h : i + 1 < ws.length) : lockF (ws.drop i) = (ws[i].toList == bFor && inF ws[i + 1] lkL || lockF (ws.drop (i + 1))) := by
  rw [List.drop_eq_getElem_cons (show i < ws.length by omega), List.drop_eq_getElem_cons h]
  rfl
theorem lockF_end (ws : List ByteArray) (i : Nat) (h : ws.length ≤ i + 1) : lockF (ws.drop i) = false := by
  have : (ws.drop i).length ≤ 1 := by rw [List.length_drop]; omega
  match hl : ws.drop i, this with
  | [], _ => rfl
  | [_], _ => rfl
  | _ :: _ :: _, h => simp at h
theorem locks_l (ws : List ByteArray) (hl : ws.length ≤ 17592186044416) : ∀ (d k i : Nat), i + d + 1 = ws.length → d + 5 < k → class_Locks.l0 k ws ((i + 1 : Nat) : Int) = some (lockF (ws.drop i)) := by
  intro d
  induction d with
  | zero =>
    intro k i hi hk
    obtain ⟨k, rfl⟩ : ∃ m, k = m + 1 := ⟨k - 1, by omega⟩
    simp only [class_Locks.l0]
    rw [if_neg (by omega), lockF_end ws i (by omega)]
  | succ d ih =>
    intro k i hi hk
    obtain ⟨k, rfl⟩ : ∃ m, k = m + 1 := ⟨k - 1, by omega⟩
    have hlt : i + 1 < ws.length := by omega
    have hr := ih k (i + 1) (by omega) (by omega)
    simp only [class_Locks.l0]
    rw [if_pos (by omega), wrap_in (by omega) (by omega), wrap_in (by omega) (by omega), show (((i + 1 : Nat) : Int) - 1) = (i : Int) by omega, show (((i + 1 : Nat) : Int) + 1) = ((i + 1 + 1 : Nat) : Int) by omega, if_pos (by omega), if_pos (by omega), if_pos (show (0 : Int) ≤ ((i + 1 : Nat) : Int) by omega), rdOf_at ws i (by omega), rdOf_at ws (i + 1) hlt, lockF_step ws i hlt, hr]
    have hin := in_f ws[i + 1] lkL k (by show 4 < k; omega) (by decide)
    unfold lkL at hin
    rw [hin, Option.bind_some]
    unfold bFor lkL
    by_cases hc : ws[i].toList = [102, 111, 114]
    · rw [if_pos hc, beq_iff_eq.2 hc]
      simp only [Bool.true_and]
      split <;> rename_i hx
      · rw [hx]; rfl
      · rw [Bool.not_eq_true] at hx; rw [hx]; rfl
    · rw [if_neg hc, beq_eq_false_iff_ne.2 hc]
      rfl
theorem locks_f (l : List S33) (k : Nat) (hk : l.length + 6 < k) (hl : l.length ≤ 17592186044416) : class_Locks.f k l = some (lockF (wdsF l)) := by
  unfold class_Locks.f
  rw [words_f l k (by omega) hl, Option.bind_some]
  by_cases h0 : l.length = 0
  · obtain rfl := List.length_eq_zero_iff.1 h0
    obtain ⟨k, rfl⟩ : ∃ m, k = m + 1 := ⟨k - 1, by omega⟩
    simp only [class_Locks.l0]
    rfl
  · exact locks_l (wdsF l) (by rw [wds_len]; exact hl) (l.length - 1) k 0 (by rw [wds_len]; omega) (by omega)
theorem rlocks_l (l : List S33) (hl : l.length ≤ 17592186044416) : ∀ (d k i : Nat), i + d = l.length → d + 5 < k → pontoonref06_Locks.l0 k l (i : Int) = some (lockF ((wdsF l).drop i)) := by
  intro d
  induction d with
  | zero =>
    intro k i hi hk
    obtain ⟨k, rfl⟩ : ∃ m, k = m + 1 := ⟨k - 1, by omega⟩
    simp only [pontoonref06_Locks.l0]
    rw [if_neg (by omega), lockF_end _ i (by rw [wds_len]; omega)]
  | succ d ih =>
    intro k i hi hk
    obtain ⟨k, rfl⟩ : ∃ m, k = m + 1 := ⟨k - 1, by omega⟩
    have hlt : i < (wdsF l).length := by rw [wds_len]; omega
    have hr := ih k (i + 1) (by omega) (by omega)
    simp only [pontoonref06_Locks.l0]
    rw [if_pos (by omega), wrap_in (by omega) (by omega), show ((i : Int) + 1) = ((i + 1 : Nat) : Int) by omega, word_f l hl i, word_f l hl (i + 1), Option.bind_some, Option.bind_some, hr]
    have hin := rin_f (wAt (wdsF l) (i + 1)) lkL k (by show 4 < k; omega) (by decide)
    unfold lkL at hin
    rw [hin, Option.bind_some]
    have hi0 : wAt (wdsF l) i = (wdsF l)[i] := by unfold wAt; rw [List.getD_eq_getElem?_getD, List.getElem?_eq_getElem hlt]; rfl
    rw [hi0]
    by_cases hn : i + 1 < (wdsF l).length
    · have hi1 : wAt (wdsF l) (i + 1) = (wdsF l)[i + 1] := by unfold wAt; rw [List.getD_eq_getElem?_getD, List.getElem?_eq_getElem hn]; rfl
      rw [hi1, lockF_step _ i hn]
      unfold bFor lkL
      by_cases hc : (wdsF l)[i].toList = [102, 111, 114]
      · rw [if_pos hc, beq_iff_eq.2 hc]
        simp only [Bool.true_and]
        split <;> rename_i hx
        · rw [hx]; rfl
        · rw [Bool.not_eq_true] at hx; rw [hx]; rfl
      · rw [if_neg hc, beq_eq_false_iff_ne.2 hc]
        rfl
    · have hi1 : wAt (wdsF l) (i + 1) = eB := by unfold wAt; rw [List.getD_eq_getElem?_getD, List.getElem?_eq_none (by omega)]; rfl
      rw [hi1, lockF_end _ i (by omega), lockF_end _ (i + 1) (by omega)]
      have he : inF eB [⟨#[117, 112, 100, 97, 116, 101]⟩, ⟨#[115, 104, 97, 114, 101]⟩, ⟨#[110, 111]⟩, ⟨#[107, 101, 121]⟩] = false := by kernel_rfl
      rw [he]
      split
      · rfl
      · rfl
theorem rlocks_f (l : List S33) (k : Nat) (hk : l.length + 6 < k) (hl : l.length ≤ 17592186044416) : pontoonref06_Locks.f k l = some (lockF (wdsF l)) := rlocks_l l hl l.length k 0 (by omega) (by omega)
/-! writing words: with the word ahead -/
def wrF : ByteArray → List ByteArray → Bool
  | _, [] => false
  | p, q :: r => (q.toList == bUpd && !(p.toList == bFor)) || inF q wrL || wrF q r
def prevF (ws : List ByteArray) (i : Nat) : ByteArray := if i = 0 then eB else wAt ws (i - 1)
theorem wrF_step (p : ByteArray) (ws : List ByteArray) (i : Nat) (h : i < ws.length) : wrF p (ws.drop i) = ((ws[i].toList == bUpd && !(p.toList == bFor)) || inF ws[i] wrL || wrF ws[i] (ws.drop (i + 1))) := by
  rw [List.drop_eq_getElem_cons h]
  rfl
theorem inF_nil_of (s : ByteArray) (x : List UInt8) (ws : List ByteArray) (h : s.toList = x) : inF s ws = ws.any (fun y => y.toList == x) := by
  unfold inF
  rw [h]
theorem t1 : (⟨#[105, 110, 115, 101, 114, 116]⟩ : ByteArray).toList = [105, 110, 115, 101, 114, 116] := by kernel_rfl
theorem t2 : (⟨#[100, 101, 108, 101, 116, 101]⟩ : ByteArray).toList = [100, 101, 108, 101, 116, 101] := by kernel_rfl
theorem t3 : (⟨#[109, 101, 114, 103, 101]⟩ : ByteArray).toList = [109, 101, 114, 103, 101] := by kernel_rfl
theorem t4 : (⟨#[105, 110, 116, 111]⟩ : ByteArray).toList = [105, 110, 116, 111] := by kernel_rfl
theorem writes_l (ws : List ByteArray) (hl : ws.length ≤ 17592186044416) : ∀ (d k i : Nat), i + d = ws.length → 2 * d < k → class_writes.l0 k ws ws ws.length (i : Int) = some (wrF (prevF ws i) (ws.drop i)) := by
  intro d
  induction d with
  | zero =>
    intro k i hi hk
    obtain ⟨k, rfl⟩ : ∃ m, k = m + 1 := ⟨k - 1, by omega⟩
    simp only [class_writes.l0]
    rw [if_neg (by omega), List.drop_of_length_le (by omega)]
    rfl
  | succ d ih =>
    intro k i hi hk
    obtain ⟨k, rfl⟩ : ∃ m, k = m + 2 := ⟨k - 2, by omega⟩
    have hlt : i < ws.length := by omega
    have hp : prevF ws (i + 1) = ws[i] := by unfold prevF wAt; rw [if_neg (by omega), Nat.add_sub_cancel, List.getD_eq_getElem?_getD, List.getElem?_eq_getElem hlt]; rfl
    have hr := ih k (i + 1) (by omega) (by omega)
    have hr1 := ih (k + 1) (i + 1) (by omega) (by omega)
    rw [hp] at hr hr1
    rw [show k + 2 = (k + 1) + 1 from rfl, class_writes.l0]
    simp only [class_writes.j1]
    rw [if_pos (by omega), if_pos (by omega), if_pos (by omega), wrap_in (show -9223372036854775808 ≤ (i : Int) + 1 by omega) (by omega), wrap_in (show -9223372036854775808 ≤ (i : Int) - 1 by omega) (by omega), show ((i : Int) + 1) = ((i + 1 : Nat) : Int) by omega, rdOf_at ws i hlt, wrF_step _ ws i hlt, hr, hr1]
    by_cases hu : ws[i].toList = [117, 112, 100, 97, 116, 101]
    · have hin : inF ws[i] wrL = false := by rw [inF_nil_of _ _ _ hu]; kernel_rfl
      rw [if_pos hu, hin]
      have hb : (ws[i].toList == bUpd) = true := by rw [beq_iff_eq]; exact hu
      rw [hb]
      by_cases h0 : i = 0
      · subst h0
        rw [if_neg (by decide)]
        unfold prevF
        rw [if_pos rfl]
        have : (eB.toList == bFor) = false := by kernel_rfl
        rw [this]
        rfl
      · rw [if_pos (by omega), if_pos (by omega), if_pos (by omega), show ((i : Int) - 1) = ((i - 1 : Nat) : Int) by omega, rdOf_at ws (i - 1) (by omega)]
        have hpv : prevF ws i = ws[i - 1] := by unfold prevF wAt; rw [if_neg h0, List.getD_eq_getElem?_getD, List.getElem?_eq_getElem (by omega)]; rfl
        rw [hpv]
        by_cases hf : ws[i - 1].toList = [102, 111, 114]
        · have hb2 : (ws[i - 1].toList == bFor) = true := by rw [beq_iff_eq]; exact hf
          rw [if_pos hf, hb2]
          simp
        · have hb2 : (ws[i - 1].toList == bFor) = false := by rw [beq_eq_false_iff_ne]; exact hf
          rw [if_neg hf, hb2]
          simp
    · have hb : (ws[i].toList == bUpd) = false := by rw [beq_eq_false_iff_ne]; exact hu
      rw [if_neg hu, hb]
      unfold inF wrL
      simp only [List.any_cons, List.any_nil]
      have e1 : ((⟨#[105, 110, 115, 101, 114, 116]⟩ : ByteArray).toList == ws[i].toList) = (ws[i].toList == [105, 110, 115, 101, 114, 116]) := (congrArg (· == ws[i].toList) t1).trans (BEq.comm)
      have e2 : ((⟨#[100, 101, 108, 101, 116, 101]⟩ : ByteArray).toList == ws[i].toList) = (ws[i].toList == [100, 101, 108, 101, 116, 101]) := (congrArg (· == ws[i].toList) t2).trans (BEq.comm)
      have e3 : ((⟨#[109, 101, 114, 103, 101]⟩ : ByteArray).toList == ws[i].toList) = (ws[i].toList == [109, 101, 114, 103, 101]) := (congrArg (· == ws[i].toList) t3).trans (BEq.comm)
      have e4 : ((⟨#[105, 110, 116, 111]⟩ : ByteArray).toList == ws[i].toList) = (ws[i].toList == [105, 110, 116, 111]) := (congrArg (· == ws[i].toList) t4).trans (BEq.comm)
      rw [e1, e2, e3, e4]
      by_cases h1 : ws[i].toList = [105, 110, 115, 101, 114, 116]
      · rw [if_pos h1, beq_iff_eq.2 h1]; simp
      · rw [if_neg h1, beq_eq_false_iff_ne.2 h1]
        by_cases h2 : ws[i].toList = [100, 101, 108, 101, 116, 101]
        · rw [if_pos h2, beq_iff_eq.2 h2]; simp
        · rw [if_neg h2, beq_eq_false_iff_ne.2 h2]
          by_cases h3 : ws[i].toList = [109, 101, 114, 103, 101]
          · rw [if_pos h3, beq_iff_eq.2 h3]; simp
          · rw [if_neg h3, beq_eq_false_iff_ne.2 h3]
            by_cases h4 : ws[i].toList = [105, 110, 116, 111]
            · rw [beq_iff_eq.2 h4]; simp
            · rw [beq_eq_false_iff_ne.2 h4]; simp
theorem writes_f (l : List S33) (k : Nat) (hk : 2 * l.length < k) (hl : l.length ≤ 17592186044416) : class_writes.f k l = some (wrF eB (wdsF l)) := by
  unfold class_writes.f
  rw [words_f l k (by omega) hl, Option.bind_some]
  exact writes_l (wdsF l) (by rw [wds_len]; exact hl) l.length k 0 (by rw [wds_len]; omega) hk
theorem rwrites_l (l : List S33) (hl : l.length ≤ 17592186044416) : ∀ (d k i : Nat), i + d = l.length → d + 5 < k → pontoonref06_writes.l0 k l (i : Int) = some (wrF (prevF (wdsF l) i) ((wdsF l).drop i)) := by
  intro d
  induction d with
  | zero =>
    intro k i hi hk
    obtain ⟨k, rfl⟩ : ∃ m, k = m + 1 := ⟨k - 1, by omega⟩
    simp only [pontoonref06_writes.l0]
    rw [if_neg (by omega), List.drop_of_length_le (by rw [wds_len]; omega)]
    rfl
  | succ d ih =>
    intro k i hi hk
    obtain ⟨k, rfl⟩ : ∃ m, k = m + 1 := ⟨k - 1, by omega⟩
    have hlt : i < (wdsF l).length := by rw [wds_len]; omega
    have hp : prevF (wdsF l) (i + 1) = (wdsF l)[i] := by unfold prevF wAt; rw [if_neg (by omega), Nat.add_sub_cancel, List.getD_eq_getElem?_getD, List.getElem?_eq_getElem hlt]; rfl
    have hr := ih k (i + 1) (by omega) (by omega)
    rw [hp] at hr
    have hi0 : wAt (wdsF l) i = (wdsF l)[i] := by unfold wAt; rw [List.getD_eq_getElem?_getD, List.getElem?_eq_getElem hlt]; rfl
    have hpv : pontoonref06_word.f l (wrap64 ((i : Int) - 1)) = some (prevF (wdsF l) i) := by
      rw [wrap_in (by omega) (by omega)]
      unfold prevF
      by_cases h0 : i = 0
      · subst h0
        rw [if_pos rfl]
        exact word_neg l
      · rw [if_neg h0, show ((i : Int) - 1) = ((i - 1 : Nat) : Int) by omega]
        exact word_f l hl (i - 1)
    simp only [pontoonref06_writes.l0]
    rw [if_pos (by omega), word_f l hl i, hi0, Option.bind_some, hpv, Option.bind_some, Option.bind_some, wrap_in (by omega) (by omega), show ((i : Int) + 1) = ((i + 1 : Nat) : Int) by omega, hr, wrF_step _ _ i hlt]
    have hin := rin_f (wdsF l)[i] wrL k (by show 4 < k; omega) (by decide)
    unfold wrL at hin
    rw [hin, Option.bind_some]
    unfold bUpd bFor
    by_cases hu : (wdsF l)[i].toList = [117, 112, 100, 97, 116, 101]
    · rw [if_pos hu, beq_iff_eq.2 hu]
      by_cases hf : (prevF (wdsF l) i).toList = [102, 111, 114]
      · rw [if_pos hf, beq_iff_eq.2 hf]
        unfold wrL
        simp only [Bool.not_true, Bool.and_false, Bool.false_or]
        split <;> rename_i hx
        · rw [hx]; rfl
        · rw [Bool.not_eq_true] at hx; rw [hx]; rfl
      · rw [if_neg hf, beq_eq_false_iff_ne.2 hf]
        simp
    · rw [if_neg hu, beq_eq_false_iff_ne.2 hu]
      unfold wrL
      simp only [Bool.false_and, Bool.false_or]
      split <;> rename_i hx
      · rw [hx]; rfl
      · rw [Bool.not_eq_true] at hx; rw [hx]; rfl
theorem rwrites_f (l : List S33) (k : Nat) (hk : l.length + 6 < k) (hl : l.length ≤ 17592186044416) : pontoonref06_writes.f k l = some (wrF eB (wdsF l)) := rwrites_l l hl l.length k 0 (by omega) (by omega)
end Go.Proofs.Ythfchnoebncpfaa
