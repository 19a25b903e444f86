/- class: few and short tokens. -/
import Derived.Test.YthfchnoebncpfaaClP3
import Derived.Test.YthfchnoebncpfaaClP5
namespace Go.Proofs.Ythfchnoebncpfaa
open Go Go.RowKit Go.Maps Go.Proofs.Ythfchnoebncpfaa.Pu Go.Proofs.YthfchnoebncpfaaW.PrintWords Go.Proofs.YthfchnoebncpfaaW.PrintLast
set_option linter.unusedSimpArgs false

def Light (l : List S33) : Prop := l.length ≤ 100 ∧ ∀ x ∈ l, x.f1.size ≤ 100
theorem light_l (l : List S33) (hl : l.length ≤ 100) : ∀ (d k i : Nat), i + d = l.length → d < k → ∃ b, pontoonlaw06_light.l0 k l i = some b ∧ (b = true → ∀ x ∈ l.drop i, x.f1.size ≤ 100) := by
  intro d
  induction d with
  | zero =>
    intro k i hi hk
    obtain ⟨k, rfl⟩ : ∃ m, k = m + 1 := ⟨k - 1, by omega⟩
    simp only [pontoonlaw06_light.l0]
    rw [if_neg (by omega), List.drop_of_length_le (by omega)]
    exact ⟨_, rfl, fun _ x hx => by cases hx⟩
  | succ d ih =>
    intro k i hi hk
    obtain ⟨k, rfl⟩ : ∃ m, k = m + 1 := ⟨k - 1, by omega⟩
    have hlt : i < l.length := by omega
    obtain ⟨b, eb, pb⟩ := ih k (i + 1) (by omega) (by omega)
    simp only [pontoonlaw06_light.l0]
    rw [if_pos (by omega), if_pos (by omega), rdT_at l i hlt, wrap_in (by omega) (by omega), show ((i : Int) + 1) = ((i + 1 : Nat) : Int) by omega, eb, List.drop_eq_getElem_cons hlt]
    split
    · exact ⟨_, rfl, fun h => by cases h⟩
    · refine ⟨_, rfl, fun h x hx => ?_⟩
      rcases List.mem_cons.1 hx with rfl | hx
      · omega
      · exact pb h x hx
theorem light_s (l : List S33) (k : Nat) (hk : 101 < k) : ∃ b, pontoonlaw06_light.f k l = some b ∧ (b = true → Light l) := by
  unfold pontoonlaw06_light.f
  split
  · exact ⟨_, rfl, fun h => by cases h⟩
  · obtain ⟨b, eb, pb⟩ := light_l l (by omega) l.length k 0 (by omega) (by omega)
    exact ⟨b, eb, fun h => ⟨by omega, pb h⟩⟩
theorem wd_ok {x : S33} (h : x.f0 = 1 → x.f1.size ≤ 2000) : (wdF x).size ≤ maxLen := by
  unfold wdF
  split
  · rename_i h1
    have := h h1
    unfold maxLen
    omega
  · exact Nat.zero_le _
theorem Light.ok {l : List S33} (h : Light l) : ∀ x ∈ l, (wdF x).size ≤ maxLen := fun x hx => wd_ok fun _ => by have := h.2 x hx; omega
end Go.Proofs.Ythfchnoebncpfaa
