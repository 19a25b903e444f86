/- class: the plain side: words, loops of the program and of the document. -/
import Derived.Test.YthfchnoebncpfaaPuA
namespace Go.Proofs.Ythfchnoebncpfaa
open Go Go.RowKit Go.Maps Go.Proofs.Ythfchnoebncpfaa.Pu Go.Proofs.YthfchnoebncpfaaW.PrintWords Go.Proofs.YthfchnoebncpfaaW.PrintLast
set_option linter.unusedSimpArgs false

abbrev eB : ByteArray := ⟨#[]⟩
theorem rdT_at (l : List S33) (i : Nat) (h : i < l.length) : rd_T33 l (i : Int) = l[i] := by
  unfold rd_T33
  rw [Int.toNat_natCast, List.getD_eq_getElem?_getD, List.getElem?_eq_getElem h]
  rfl
def wdF (x : S33) : ByteArray := if x.f0 = 1 then x.f1 else eB
def wdsF (l : List S33) : List ByteArray := l.map wdF
theorem wds_len (l : List S33) : (wdsF l).length = l.length := by simp [wdsF]
theorem words_l (l : List S33) (hl : l.length ≤ 17592186044416) : ∀ (d k i : Nat) (ws : List ByteArray), i + d = l.length → d < k → ws = (l.take i).map wdF ++ List.replicate d eB → class_words.l0 k ws l l.length i = some (wdsF l) := by
  intro d
  induction d with
  | zero =>
    intro k i ws hi hk hw
    obtain ⟨k, rfl⟩ : ∃ m, k = m + 1 := ⟨k - 1, by omega⟩
    simp only [class_words.l0]
    rw [if_neg (by omega), hw, List.take_of_length_le (by omega)]
    simp [wdsF]
  | succ d ih =>
    intro k i ws hi hk hw
    obtain ⟨k, rfl⟩ : ∃ m, k = m + 1 := ⟨k - 1, by omega⟩
    have hlt : i < l.length := by omega
    have hlen : ((l.take i).map wdF).length = i := by simp; omega
    have hwl : ws.length = l.length := by rw [hw]; simp; omega
    have hnext : (l.take (i + 1)).map wdF = (l.take i).map wdF ++ [wdF l[i]] := by rw [List.take_succ_eq_append_getElem hlt, List.map_append]; rfl
    simp only [class_words.l0]
    rw [if_pos (by omega), if_pos (by omega), if_pos (by omega), rdT_at l i hlt, wrap_in (by omega) (by omega), show ((i : Int) + 1) = ((i + 1 : Nat) : Int) by omega]
    by_cases hc : l[i].f0 = 1
    · rw [if_pos hc, if_pos (by omega), Int.toNat_natCast]
      refine ih k (i + 1) _ (by omega) (by omega) ?_
      rw [hw, hnext, List.set_append_right _ _ (by omega), hlen, Nat.sub_self, List.replicate_succ, List.set_cons_zero, List.append_assoc]
      unfold wdF
      rw [if_pos hc]
      rfl
    · rw [if_neg hc]
      refine ih k (i + 1) _ (by omega) (by omega) ?_
      rw [hw, hnext, List.replicate_succ, List.append_assoc]
      unfold wdF
      rw [if_neg hc]
      rfl
theorem words_f (l : List S33) (k : Nat) (hk : l.length < k) (hl : l.length ≤ 17592186044416) : class_words.f k l = some (wdsF l) := by
  unfold class_words.f
  rw [if_pos (by omega), if_pos (by omega)]
  exact words_l l hl l.length k 0 _ (by omega) hk (by simp)
/-! one of some words -/
def hasF (l : List S33) (ws : List ByteArray) : Bool := l.any (fun x => x.f0 == 1 && inF x.f1 ws)
theorem has_l (l : List S33) (ws : List ByteArray) (hl : l.length ≤ 17592186044416) (hw : ws.length ≤ 17592186044416) : ∀ (d k i : Nat), i + d = l.length → d + ws.length + 1 < k → class_Has.l0 k ws l l.length i = some (hasF (l.drop i) ws) := by
  intro d
  induction d with
  | zero =>
    intro k i hi hk
    obtain ⟨k, rfl⟩ : ∃ m, k = m + 1 := ⟨k - 1, by omega⟩
    simp only [class_Has.l0]
    rw [if_neg (by omega), List.drop_of_length_le (by omega)]
    rfl
  | succ d ih =>
    intro k i hi hk
    obtain ⟨k, rfl⟩ : ∃ m, k = m + 1 := ⟨k - 1, by omega⟩
    have hlt : i < l.length := by omega
    have hr := ih k (i + 1) (by omega) (by omega)
    simp only [class_Has.l0]
    rw [if_pos (by omega), if_pos (by omega), if_pos (by omega), rdT_at l i hlt, List.drop_eq_getElem_cons hlt, wrap_in (by omega) (by omega), show ((i : Int) + 1) = ((i + 1 : Nat) : Int) by omega, hr, in_f l[i].f1 ws k (by omega) (by omega)]
    have hu : hasF (l[i] :: l.drop (i + 1)) ws = (l[i].f0 == 1 && inF l[i].f1 ws || hasF (l.drop (i + 1)) ws) := rfl
    rw [hu]
    by_cases hc : l[i].f0 = 1
    · rw [if_pos hc, beq_iff_eq.2 hc]
      cases inF l[i].f1 ws <;> simp
    · rw [if_neg hc, beq_eq_false_iff_ne.2 hc]
      rfl
theorem has_f (l : List S33) (ws : List ByteArray) (k : Nat) (hk : l.length + ws.length + 1 < k) (hl : l.length ≤ 17592186044416) (hw : ws.length ≤ 17592186044416) : class_Has.f k l ws = some (hasF l ws) := has_l l ws hl hw l.length k 0 (by omega) hk
theorem rin_l (s : ByteArray) (l : List ByteArray) (hl : l.length ≤ 17592186044416) : ∀ (d k i : Nat), i + d = l.length → d < k → pontoonref06_in.l0 k l s i = some (inF s (l.drop i)) := by
  intro d
  induction d with
  | zero =>
    intro k i hi hk
    obtain ⟨k, rfl⟩ : ∃ m, k = m + 1 := ⟨k - 1, by omega⟩
    simp only [pontoonref06_in.l0]
    rw [if_neg (by omega), List.drop_of_length_le (by omega)]
    rfl
  | succ d ih =>
    intro k i hi hk
    obtain ⟨k, rfl⟩ : ∃ m, k = m + 1 := ⟨k - 1, by omega⟩
    have hlt : i < l.length := by omega
    have hr := ih k (i + 1) (by omega) (by omega)
    simp only [pontoonref06_in.l0]
    rw [if_pos (by omega), if_pos (by omega), rdOf_at l i hlt, List.drop_eq_getElem_cons hlt, wrap_in (by omega) (by omega), show ((i : Int) + 1) = ((i + 1 : Nat) : Int) by omega, hr]
    have hu : inF s (l[i] :: l.drop (i + 1)) = (l[i].toList == s.toList || inF s (l.drop (i + 1))) := rfl
    rw [hu]
    by_cases hc : l[i].toList = s.toList
    · rw [if_pos hc, beq_iff_eq.2 hc]
      rfl
    · rw [if_neg hc, beq_eq_false_iff_ne.2 hc]
      rfl
theorem rin_f (s : ByteArray) (l : List ByteArray) (k : Nat) (hk : l.length < k) (hl : l.length ≤ 17592186044416) : pontoonref06_in.f k l s = some (inF s l) := rin_l s l hl l.length k 0 (by omega) hk
theorem rhas_l (l : List S33) (ws : List ByteArray) (hl : l.length ≤ 17592186044416) (hw : ws.length ≤ 17592186044416) : ∀ (d k i : Nat), i + d = l.length → d + ws.length + 1 < k → pontoonref06_Has.l0 k l ws i = some (hasF (l.drop i) ws) := by
  intro d
  induction d with
  | zero =>
    intro k i hi hk
    obtain ⟨k, rfl⟩ : ∃ m, k = m + 1 := ⟨k - 1, by omega⟩
    simp only [pontoonref06_Has.l0]
    rw [if_neg (by omega), List.drop_of_length_le (by omega)]
    rfl
  | succ d ih =>
    intro k i hi hk
    obtain ⟨k, rfl⟩ : ∃ m, k = m + 1 := ⟨k - 1, by omega⟩
    have hlt : i < l.length := by omega
    have hr := ih k (i + 1) (by omega) (by omega)
    simp only [pontoonref06_Has.l0]
    rw [if_pos (by omega), if_pos (by omega), rdT_at l i hlt, List.drop_eq_getElem_cons hlt, wrap_in (by omega) (by omega), show ((i : Int) + 1) = ((i + 1 : Nat) : Int) by omega, hr, rin_f l[i].f1 ws k (by omega) (by omega)]
    have hu : hasF (l[i] :: l.drop (i + 1)) ws = (l[i].f0 == 1 && inF l[i].f1 ws || hasF (l.drop (i + 1)) ws) := rfl
    rw [hu]
    by_cases hc : l[i].f0 = 1
    · rw [if_pos hc, beq_iff_eq.2 hc]
      cases inF l[i].f1 ws <;> simp
    · rw [if_neg hc, beq_eq_false_iff_ne.2 hc]
      rfl
theorem rhas_f (l : List S33) (ws : List ByteArray) (k : Nat) (hk : l.length + ws.length + 1 < k) (hl : l.length ≤ 17592186044416) (hw : ws.length ≤ 17592186044416) : pontoonref06_Has.f k l ws = some (hasF l ws) := rhas_l l ws hl hw l.length k 0 (by omega) hk
/-! a function is called -/
def calledF (l : List S33) (i : Nat) : Bool := match l[i]?, l[i + 1]? with | some p, some q => p.f0 == 1 && q.f0 == 5 && q.f1.toList == [40] | _, _ => false
theorem called_f (l : List S33) (hl : l.length ≤ 17592186044416) (i : Nat) (hi : i < l.length) : pontoonref06_called.f l i = some (calledF l i) := by
  unfold pontoonref06_called.f calledF
  rw [if_pos (by omega), if_pos (by omega), rdT_at l i hi, wrap_in (by omega) (by omega), show ((i : Int) + 1) = ((i + 1 : Nat) : Int) by omega, List.getElem?_eq_getElem hi]
  by_cases h1 : l[i].f0 = 1
  · rw [if_pos h1]
    by_cases hn : i + 1 < l.length
    · rw [if_pos (by omega), if_pos (by omega), rdT_at l (i + 1) hn, List.getElem?_eq_getElem hn]
      by_cases h5 : l[i + 1].f0 = 5
      · rw [if_pos h5]
        simp [h1, h5]
      · rw [if_neg h5]
        simp [h5]
    · rw [if_neg (by omega), List.getElem?_eq_none (by omega)]
  · rw [if_neg h1]
    cases l[i + 1]? <;> simp [h1]
/-- The document's calls, of any test of the name. -/
def rcF (so : ByteArray → Bool) (l : List S33) : Bool := callsF so (l.map tokOf)
theorem rcF_step (so : ByteArray → Bool) (l : List S33) (i : Nat) (hi : i < l.length) : rcF so (l.drop i) = (calledF l i && so l[i].f1 || rcF so (l.drop (i + 1))) := by
  unfold rcF calledF
  rw [List.getElem?_eq_getElem hi, List.drop_eq_getElem_cons hi]
  by_cases hn : i + 1 < l.length
  · rw [List.getElem?_eq_getElem hn, List.drop_eq_getElem_cons hn]
    simp only [List.map_cons, callsF, callB, tokOf]
    congr 1
    cases l[i + 1].f0 == 5 <;> cases l[i + 1].f1.toList == [40] <;> cases l[i].f0 == 1 <;> simp
  · rw [List.getElem?_eq_none (by omega), List.drop_of_length_le (by omega)]
    rfl
theorem rcF_end (so : ByteArray → Bool) (l : List S33) (i : Nat) (hi : l.length ≤ i) : rcF so (l.drop i) = false := by
  rw [List.drop_of_length_le hi]
  rfl
theorem rcalls_l (l : List S33) (ws : List ByteArray) (hl : l.length ≤ 17592186044416) (hw : ws.length ≤ 17592186044416) : ∀ (d k i : Nat), i + d = l.length → d + ws.length + 1 < k → pontoonref06_Calls.l0 k l ws i = some (rcF (fun s => inF s ws) (l.drop i)) := by
  intro d
  induction d with
  | zero =>
    intro k i hi hk
    obtain ⟨k, rfl⟩ : ∃ m, k = m + 1 := ⟨k - 1, by omega⟩
    simp only [pontoonref06_Calls.l0]
    rw [if_neg (by omega), rcF_end _ l i (by omega)]
  | succ d ih =>
    intro k i hi hk
    obtain ⟨k, rfl⟩ : ∃ m, k = m + 1 := ⟨k - 1, by omega⟩
    have hlt : i < l.length := by omega
    have hr := ih k (i + 1) (by omega) (by omega)
    simp only [pontoonref06_Calls.l0]
    rw [if_pos (by omega), called_f l hl i hlt, rcF_step _ l i hlt, wrap_in (by omega) (by omega), show ((i : Int) + 1) = ((i + 1 : Nat) : Int) by omega, hr, Option.bind_some, rdT_at l i hlt, rin_f l[i].f1 ws k (by omega) (by omega), if_pos (show (0 : Int) ≤ (i : Int) by omega), Option.bind_some]
    cases calledF l i <;> cases inF l[i].f1 ws <;> simp
theorem rcalls_f (l : List S33) (ws : List ByteArray) (k : Nat) (hk : l.length + ws.length + 1 < k) (hl : l.length ≤ 17592186044416) (hw : ws.length ≤ 17592186044416) : pontoonref06_Calls.f k l ws = some (rcF (fun s => inF s ws) l) := rcalls_l l ws hl hw l.length k 0 (by omega) hk
theorem rsys_l (l : List S33) (hl : l.length ≤ 17592186044416) : ∀ (d k i : Nat), i + d = l.length → d < k → pontoonref06_system.l0 k l i = some (rcF pgF (l.drop i)) := by
  intro d
  induction d with
  | zero =>
    intro k i hi hk
    obtain ⟨k, rfl⟩ : ∃ m, k = m + 1 := ⟨k - 1, by omega⟩
    simp only [pontoonref06_system.l0]
    rw [if_neg (by omega), rcF_end _ l i (by omega)]
  | succ d ih =>
    intro k i hi hk
    obtain ⟨k, rfl⟩ : ∃ m, k = m + 1 := ⟨k - 1, by omega⟩
    have hlt : i < l.length := by omega
    have hr := ih k (i + 1) (by omega) (by omega)
    simp only [pontoonref06_system.l0]
    rw [if_pos (by omega), called_f l hl i hlt, rcF_step _ l i hlt, wrap_in (by omega) (by omega), show ((i : Int) + 1) = ((i + 1 : Nat) : Int) by omega, hr, Option.bind_some, rdT_at l i hlt, if_pos (show (0 : Int) ≤ (i : Int) by omega)]
    unfold pgF
    cases calledF l i
    · simp
    · rw [if_pos rfl]
      by_cases h3 : (l[i].f1.size : Int) ≥ 3
      · rw [if_pos h3, if_pos (by decide), if_pos (by omega), decide_eq_true (show 3 ≤ l[i].f1.size by omega)]
        by_cases hp : (l[i].f1.extract 0 (3 : Int).toNat).toList = [112, 103, 95]
        · have hp' : (l[i].f1.extract 0 3).toList = [112, 103, 95] := hp
          rw [if_pos hp', hp']
          rfl
        · have hp' : ¬ (l[i].f1.extract 0 3).toList = [112, 103, 95] := hp
          rw [if_neg hp', beq_eq_false_iff_ne.2 hp']
          rfl
      · rw [if_neg h3, decide_eq_false (show ¬ 3 ≤ l[i].f1.size by omega)]
        rfl
theorem rsys_f (l : List S33) (k : Nat) (hk : l.length < k) (hl : l.length ≤ 17592186044416) : pontoonref06_system.f k l = some (rcF pgF l) := rsys_l l hl l.length k 0 (by omega) hk
theorem calls_or (f g : ByteArray → Bool) : ∀ l : List Tok, callsF (fun s => f s || g s) l = (callsF f l || callsF g l)
  | [] => rfl
  | [_] => rfl
  | p :: q :: r => by
    have := calls_or f g (q :: r)
    simp only [callsF, this, callB]
    cases f p.text <;> cases g p.text <;> cases callsF f (q :: r) <;> cases callsF g (q :: r) <;> cases q.kind == 5 && q.text.toList == [40] && p.kind == 1 <;> rfl
theorem rcF_chg (l : List S33) : rcF chgF l = (rcF pgF l || rcF (fun s => inF s chgL) l) := calls_or pgF (fun s => inF s chgL) (l.map tokOf)
end Go.Proofs.Ythfchnoebncpfaa
