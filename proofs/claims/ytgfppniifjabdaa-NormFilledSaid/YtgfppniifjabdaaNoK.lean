/- norm: the fixed calls; light. -/
import Derived.Test.YtgfppniifjabdaaPbx9
import Derived.Test.YtgfppniifjabdaaPbx1
import Derived.Test.YtgfppniifjabdaaPbx4
namespace Go.Proofs.Ytgfppniifjabdaa
open Go Go.RowKit Go.Proofs.Ytgfppniifjabdaa.Pb Go.Proofs.YtgfppniifjabdaaW.PrintWords Go.Proofs.YtgfppniifjabdaaW.PrintLast
set_option linter.unusedSimpArgs false

theorem rdT (l : List S35) (i : Nat) (h : i < l.length) : rd_T35 l (i : Int) = l[i] := by
  unfold rd_T35
  rw [Int.toNat_natCast, List.getD_eq_getElem?_getD, List.getElem?_eq_getElem h]
  rfl
theorem known_up (k : Nat) (hk : 300 ≤ k) : pontoonlaw05_known.f k = some true := by
  obtain ⟨d, rfl⟩ : ∃ d, k = 300 + d := ⟨k - 300, by omega⟩
  clear hk
  induction d with
  | zero => exact known_f0
  | succ d ih => exact pontoonlaw05_known.mono _ _ ih
/-! light -/
def Lite (l : List S35) : Prop := l.length ≤ 100 ∧ ∀ x ∈ l, x.f1.size ≤ 200
theorem light_l (l : List S35) (hl : l.length ≤ 100) : ∀ (m k i : Nat), i + m = l.length → m < k → (∀ x ∈ l.take i, x.f1.size ≤ 200) → ∃ b, pontoonlaw05_light.l0 k l (i : Int) = some b ∧ (b = true → Lite l) := by
  intro m
  induction m with
  | zero =>
    intro k i hi hk hx
    obtain ⟨k, rfl⟩ : ∃ j, k = j + 1 := ⟨k - 1, by omega⟩
    rw [List.take_of_length_le (by omega)] at hx
    refine ⟨true, ?_, fun _ => ⟨hl, hx⟩⟩
    simp only [pontoonlaw05_light.l0]
    rw [if_neg (by omega)]
  | succ m ih =>
    intro k i hi hk hx
    obtain ⟨k, rfl⟩ : ∃ j, k = j + 1 := ⟨k - 1, by omega⟩
    have hlt : i < l.length := by omega
    simp only [pontoonlaw05_light.l0]
    rw [if_pos (by omega), if_pos (by omega), rdT l i hlt]
    by_cases hz : (l[i].f1.size : Int) > 200
    · rw [if_pos hz]
      exact ⟨false, rfl, fun h => by cases h⟩
    · rw [if_neg hz, wrp (by omega) (by omega), show ((i : Int) + 1) = ((i + 1 : Nat) : Int) by omega]
      refine ih k (i + 1) (by omega) (by omega) (fun x hxm => ?_)
      rw [List.take_succ_eq_append_getElem hlt] at hxm
      rcases List.mem_append.1 hxm with h | h
      · exact hx x h
      · rw [List.mem_singleton] at h
        rw [h]
        omega
theorem light_f (l : List S35) (k : Nat) (hk : 105 < k) : ∃ b, pontoonlaw05_light.f k l = some b ∧ (b = true → Lite l) := by
  unfold pontoonlaw05_light.f
  by_cases h : (l.length : Int) > 100
  · rw [if_pos h]
    exact ⟨false, rfl, fun h => by cases h⟩
  · rw [if_neg h]
    exact light_l l (by omega) l.length k 0 (by omega) (by omega) (fun x hx => by simp at hx)
end Go.Proofs.Ytgfppniifjabdaa
