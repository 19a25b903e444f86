/- class: the document's class is that, too. -/
import Derived.Test.YthfchnoebncpfaaClP3
import Derived.Test.YthfchnoebncpfaaPux10
namespace Go.Proofs.Ythfchnoebncpfaa
open Go Go.RowKit Go.Maps Go.Proofs.Ythfchnoebncpfaa.Pu Go.Proofs.YthfchnoebncpfaaW.PrintWords Go.Proofs.YthfchnoebncpfaaW.PrintLast
set_option linter.unusedSimpArgs false

theorem rof_f (l : List S33) (k : Nat) (hk : 2 * l.length + 60 < k) (hl : l.length ≤ 17592186044416) : pontoonref06_Of.f k l = some (ofP l) := by
  unfold pontoonref06_Of.f
  obtain ⟨m, rfl⟩ : ∃ m, k = m + 5 := ⟨k - 5, by omega⟩
  by_cases h0 : l.length = 0
  · obtain rfl := List.length_eq_zero_iff.1 h0
    rw [if_pos (by rfl)]
    rfl
  rw [if_neg (by omega)]
  have hw0 : pontoonref06_word.f l 0 = some (wAt (wdsF l) 0) := word_f l hl 0
  have hw1 : pontoonref06_word.f l 1 = some (wAt (wdsF l) 1) := word_f l hl 1
  have ho : ofP l = ofB (wAt (wdsF l) 0).toList (qP l) (trF (wdsF l)) (inF bTo (wdsF l)) := by
    unfold ofP
    cases l with
    | nil => simp at h0
    | cons y r => rfl
  rw [hw0, Option.bind_some, ho]
  generalize wAt (wdsF l) 0 = x
  have hq := rqc l (m + 4) (by omega) hl
  have hh := rhas_f l wTo (m + 1) (by show l.length + 1 + 1 < m + 1; omega) hl (by decide)
  refine ofR_b l m x.toList (qP l) (trF (wdsF l)) (inF bTo (wdsF l)) x rfl _ hq
    ((pontoonref06_word.f l 1).bind fun t274 => (if t274.toList = ([116, 114, 97, 110, 115, 97, 99, 116, 105, 111, 110] : List UInt8) then (some 3) else (some 8))) ?_
    ((pontoonref06_Has.f (m + 1) l wTo).bind fun t278 => (if t278 = true then (some 8) else (some 5))) ?_
    (fun c => pontoonref06_Of.j0 (m + 5) l x c) (fun c => pontoonref06_Of.j1 (m + 4) l x c) (fun c => pontoonref06_Of.j2 (m + 3) l x c) (fun c => pontoonref06_Of.j3 (m + 2) l x c) ?_ ?_ ?_ ?_
  · rw [hw1, Option.bind_some]
    unfold trF wTrans
    by_cases ht : (wAt (wdsF l) 1).toList = [116, 114, 97, 110, 115, 97, 99, 116, 105, 111, 110]
    · rw [if_pos ht, beq_iff_eq.2 ht]
      rfl
    · rw [if_neg ht, beq_eq_false_iff_ne.2 ht]
      rfl
  · rw [hh, has_to, Option.bind_some]
    cases inF bTo (wdsF l) <;> rfl
  · intro c
    show pontoonref06_Of.j0 (m + 5) l x c = _
    rw [pontoonref06_Of.j0]
    rfl
  · intro c
    show pontoonref06_Of.j1 (m + 4) l x c = _
    rw [pontoonref06_Of.j1]
  · intro c
    show pontoonref06_Of.j2 (m + 3) l x c = _
    rw [pontoonref06_Of.j2]
  · intro c
    show pontoonref06_Of.j3 (m + 2) l x c = _
    rw [pontoonref06_Of.j3]
    rfl
end Go.Proofs.Ythfchnoebncpfaa
