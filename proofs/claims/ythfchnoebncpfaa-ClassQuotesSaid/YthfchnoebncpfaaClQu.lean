/- class: ClassQuotes answers true. -/
import Derived.Test.YthfchnoebncpfaaClR
import Derived.Test.YthfchnoebncpfaaPuQ
namespace Go.Proofs.Ythfchnoebncpfaa
open Go Go.RowKit Go.Maps Go.Proofs.Ythfchnoebncpfaa.Pu Go.Proofs.YthfchnoebncpfaaW.PrintWords Go.Proofs.YthfchnoebncpfaaW.PrintLast
set_option linter.unusedSimpArgs false

/-! quotes make no difference -/
def qm (s : ByteArray) (x : S33) : S33 := if x.f0 = 2 ∨ x.f0 = 3 then ⟨x.f0, s, x.f2⟩ else x
theorem qm_wd (s : ByteArray) (x : S33) : wdF (qm s x) = wdF x := by
  unfold qm
  split
  · rename_i h
    unfold wdF
    rw [if_neg (show ¬ x.f0 = 1 by omega), if_neg (show ¬ x.f0 = 1 by omega)]
  · rfl
theorem qm_call (s : ByteArray) (so : ByteArray → Bool) (p q : S33) : callB so (tokOf (qm s p)) (tokOf (qm s q)) = callB so (tokOf p) (tokOf q) := by
  have hk : ∀ x : S33, (tokOf (qm s x)).kind = (tokOf x).kind := fun x => by unfold qm; split <;> rfl
  have ht : ∀ x : S33, ¬ (x.f0 = 2 ∨ x.f0 = 3) → qm s x = x := fun x h => by unfold qm; rw [if_neg h]
  unfold callB
  rw [hk, hk]
  by_cases h5 : q.f0 = 5
  · rw [ht q (by omega)]
    by_cases h1 : p.f0 = 1
    · rw [ht p (by omega)]
    · have : ((tokOf p).kind == 1) = false := beq_eq_false_iff_ne.2 h1
      rw [this]
      simp
  · have : ((tokOf q).kind == 5) = false := beq_eq_false_iff_ne.2 h5
    rw [this]
    rfl
theorem qm_calls (s : ByteArray) (so : ByteArray → Bool) : ∀ l : List S33, callsF so ((l.map (qm s)).map tokOf) = callsF so (l.map tokOf)
  | [] => rfl
  | [_] => rfl
  | p :: q :: r => by
    have := qm_calls s so (q :: r)
    simp only [List.map_cons] at this
    simp only [List.map_cons, callsF, this, qm_call]
theorem qm_of (s : ByteArray) (l : List S33) : ofP (l.map (qm s)) = ofP l := by
  have hw : wdsF (l.map (qm s)) = wdsF l := by
    unfold wdsF
    rw [List.map_map]
    congr 1
    funext x
    exact qm_wd s x
  unfold ofP qP
  rw [hw, qm_calls]
theorem quotes_l (l : List S33) (s : ByteArray) (hl : l.length ≤ 100) (hok : ∀ x ∈ l, (wdF x).size ≤ maxLen) : ∀ (d k i : Nat) (m : List S33), i + d = l.length → d + 2000 < k → m = (l.take i).map (qm s) ++ l.drop i → pontoonlaw06_ClassQuotes.l0 k l s m i = some true := by
  intro d
  induction d with
  | zero =>
    intro k i m hi hk hm
    obtain ⟨k, rfl⟩ : ∃ m, k = m + 1 := ⟨k - 1, by omega⟩
    rw [List.take_of_length_le (by omega), List.drop_of_length_le (by omega), List.append_nil] at hm
    have hml : m.length = l.length := by rw [hm, List.length_map]
    simp only [pontoonlaw06_ClassQuotes.l0]
    rw [if_neg (by omega), of_f l k (by omega) (by omega) hok, of_f m k (by omega) (by omega) (fun x hx => by
      rw [hm] at hx
      obtain ⟨y, hy, rfl⟩ := List.mem_map.1 hx
      rw [qm_wd]
      exact hok y hy), Option.bind_some, Option.bind_some, hm, qm_of, if_pos rfl]
    rfl
  | succ d ih =>
    intro k i m hi hk hm
    obtain ⟨k, rfl⟩ : ∃ m, k = m + 1 := ⟨k - 1, by omega⟩
    have hlt : i < l.length := by omega
    have hlen : ((l.take i).map (qm s)).length = i := by simp; omega
    have hml : m.length = l.length := by rw [hm]; simp; omega
    have hmi : m = (l.take i).map (qm s) ++ l[i] :: l.drop (i + 1) := by rw [hm, List.drop_eq_getElem_cons hlt]
    have hnext : (l.take (i + 1)).map (qm s) = (l.take i).map (qm s) ++ [qm s l[i]] := by rw [List.take_succ_eq_append_getElem hlt, List.map_append]; rfl
    have hrd : rd_T33 m i = l[i] := by
      rw [rdT_at m i (by omega)]
      have : m[i]? = some l[i] := by rw [hmi, List.getElem?_append_right (by omega), hlen, Nat.sub_self]; rfl
      rw [List.getElem?_eq_getElem (by omega)] at this
      exact Option.some.inj this
    have hset : m.set i (⟨l[i].f0, s, l[i].f2⟩ : S33) = (l.take i).map (qm s) ++ (⟨l[i].f0, s, l[i].f2⟩ : S33) :: l.drop (i + 1) := by
      rw [hmi, List.set_append_right _ _ (by omega), hlen, Nat.sub_self, List.set_cons_zero]
    simp only [pontoonlaw06_ClassQuotes.l0]
    rw [if_pos (by omega), if_pos (by omega), hrd, Int.toNat_natCast, hset, wrap_in (by omega) (by omega), show ((i : Int) + 1) = ((i + 1 : Nat) : Int) by omega]
    by_cases h2 : l[i].f0 = 2
    · rw [if_pos h2]
      refine ih k (i + 1) _ (by omega) (by omega) ?_
      rw [hnext, List.append_assoc]
      unfold qm
      rw [if_pos (.inl h2)]
      rfl
    · rw [if_neg h2]
      by_cases h3 : l[i].f0 = 3
      · rw [if_pos h3]
        refine ih k (i + 1) _ (by omega) (by omega) ?_
        rw [hnext, List.append_assoc]
        unfold qm
        rw [if_pos (.inr h3)]
        rfl
      · rw [if_neg h3]
        refine ih k (i + 1) _ (by omega) (by omega) ?_
        rw [hnext, List.append_assoc, hmi]
        unfold qm
        rw [if_neg (by omega)]
        rfl
theorem quotes_f (l : List S33) (s : ByteArray) : pontoonlaw06_ClassQuotes.f 16001 l s = some true := by
  unfold pontoonlaw06_ClassQuotes.f
  obtain ⟨b, eb, pb⟩ := light_s l 16001 (by omega)
  rw [eb, Option.bind_some]
  have hT : pontoonlaw06_ClassQuotes.j0 16001 l s true = some true := by
    rw [pontoonlaw06_ClassQuotes.j0, if_pos rfl]
    rfl
  cases b
  · exact hT
  rw [if_pos rfl]
  by_cases hs : (s.size : Int) > 100
  · rw [decide_eq_true hs]
    exact hT
  have hL := pb rfl
  have h1 := hL.1
  rw [decide_eq_false hs, pontoonlaw06_ClassQuotes.j0, if_neg (by decide), Option.bind_some, if_pos (by show 0 + l.length < 4398046511104; omega)]
  exact quotes_l l s h1 hL.ok l.length 16000 0 _ (by omega) (by omega) rfl
theorem quotes_walk {w : World} {m base : Nat} {v : Value} (hv : Value.okWide Try.prog w .any base 22 v) (h : Rd Try.prog w m 22 v.cells.toList) (s : ByteArray) : Calls Try.prog 6 #[v, .string s] w fun e w' => e = .returned (.bool true) ∧ Below w.heap.size w w' := by
  obtain ⟨A, cp, l, rfl, h1, h2⟩ := toks_arg hv h
  exact pontoonlaw06_ClassQuotes.calls 16001 A cp l s true w h1 h2 (quotes_f l s)
end Go.Proofs.Ythfchnoebncpfaa
