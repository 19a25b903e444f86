/- The lexer in plain words: how long a token's text is. No program in sight. -/
import Derived.Test.YtgfppniifjabdaaLxL
namespace Go.Proofs.Ytgfppniifjabdaa

theorem quoL_text (q : UInt8) : ∀ (m : Nat) (l t : List UInt8) (n : Nat), l.length ≤ m → quoL q l = some (t, n) → t.length ≤ l.length := by
  intro m
  induction m with
  | zero =>
    intro l t n hl h
    obtain rfl := List.length_eq_zero_iff.1 (Nat.le_zero.1 hl)
    simp [quoL] at h
  | succ m ih =>
    intro l t n hl h
    unfold quoL at h
    split at h
    · cases h
    · split at h
      · cases h
        simp
      · cases h
    · split at h
      · split at h
        · obtain ⟨o, ho, he⟩ := Option.map_eq_some_iff.1 h
          cases he
          have := ih _ o.1 o.2 (by simp at hl; omega) ho
          simp
          omega
        · cases h
          simp
      · obtain ⟨o, ho, he⟩ := Option.map_eq_some_iff.1 h
        cases he
        have := ih _ o.1 o.2 (by simp at hl ⊢; omega) ho
        simp at this ⊢
        omega
theorem dolL_text (T : List UInt8) : ∀ (l t : List UInt8) (n : Nat), dolL T l = some (t, n) → t.length ≤ l.length
  | [], t, n, h => by
    unfold dolL at h
    split at h
    · cases h; simp
    · cases h
  | c :: r, t, n, h => by
    unfold dolL at h
    split at h
    · cases h; simp
    · obtain ⟨o, ho, he⟩ := Option.map_eq_some_iff.1 h
      cases he
      have := dolL_text T r o.1 o.2 ho
      simp
      omega
theorem oneL_text (s : List UInt8) (k : Int) (t : List UInt8) (n : Nat) (h : oneL s = .tok k t n) : t.length ≤ s.length := by
  cases s with
  | nil => simp [oneL] at h
  | cons c r =>
    have h : oneC c r = .tok k t n := h
    unfold oneC at h
    split at h
    · cases h
      rw [List.length_map, List.length_take]
      exact Nat.min_le_right _ _
    · split at h
      · cases h
        rw [List.length_take]
        exact Nat.min_le_right _ _
      · split at h
        · split at h
          · cases h
          · rename_i hq
            cases h
            have := quoL_text _ _ _ _ _ (Nat.le_refl _) hq
            simp
            omega
        · split at h
          · split at h
            · cases h
            · rename_i hq
              cases h
              have := quoL_text _ _ _ _ _ (Nat.le_refl _) hq
              simp
              omega
          · split at h
            · split at h
              · split at h
                · cases h
                · rename_i hd
                  cases h
                  have := dolL_text _ _ _ _ hd
                  rw [List.length_drop] at this
                  omega
              · split at h
                · cases h
                · cases h
                  rw [List.length_take]
                  exact Nat.min_le_right _ _
            · split at h
              · cases h
                simp
              · cases h
theorem scL_text : ∀ (f at_ : Nat) (s : List UInt8) (l : List Tk), scL f at_ s = .ok l → ∀ t ∈ l, t.text.length ≤ s.length := by
  intro f
  induction f with
  | zero => intro at_ s l h; simp [scL] at h
  | succ f ih =>
    intro at_ s l h
    unfold scL at h
    cases hs : stepL s with
    | stop =>
      rw [hs] at h
      cases h
      simp
    | gap n =>
      rw [hs] at h
      simp only [] at h
      intro t ht
      have := ih _ _ _ h t ht
      rw [List.length_drop] at this
      omega
    | open_ => rw [hs] at h; cases h
    | one o =>
      cases o with
      | tok k t n =>
        have hp := stepL_tok _ _ _ _ hs
        rw [hs] at h
        simp only [] at h
        cases hr : scL f (at_ + n) (s.drop n) with
        | err e a => rw [hr] at h; cases h
        | ok m =>
          rw [hr] at h
          cases h
          intro x hx
          rcases List.mem_cons.1 hx with rfl | hx
          · exact oneL_text _ _ _ _ hp.2.2
          · have := ih _ _ _ hr x hx
            rw [List.length_drop] at this
            omega
      | open_ => rw [hs] at h; cases h
      | bad => rw [hs] at h; cases h
end Go.Proofs.Ytgfppniifjabdaa
