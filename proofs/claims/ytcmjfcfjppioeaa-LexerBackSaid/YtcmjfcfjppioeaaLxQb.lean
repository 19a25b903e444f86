/- lexer: LexerBack answers true. -/
import Derived.Test.YtcmjfcfjppioeaaLxQ1
import Derived.Test.YtcmjfcfjppioeaaPbB
namespace Go.Proofs.Ytcmjfcfjppioeaa
open Go Go.RowKit Go.Proofs.Ytcmjfcfjppioeaa.Pb Go.Proofs.YtcmjfcfjppioeaaW.PrintWords Go.Proofs.YtcmjfcfjppioeaaW.PrintLast
set_option linter.unusedSimpArgs false

/-! what is shown is read -/
theorem back_l (l m : List Tk) (e : Int) (hn : l.length ≤ 900) (hp : l.Pairwise (fun a b => a.at_ < b.at_)) (hb : ∀ t ∈ l, t.text.length ≤ 900 ∧ t.at_ ≤ 900) (hend : ((showL l).length ≤ 2000 → e = 0 ∧ m.map kt = l.map kt)) : ∀ (d k i : Nat), i + d = l.length → d + 5000 < k → 1 ≤ i ∨ l.length = 0 → pontoonlaw04_LexerBack.l0 k (l.map tkS) (m.map tkS) e (i : Int) = some true := by
  have hlen : (l.map tkS).length = l.length := List.length_map _
  intro d
  induction d with
  | zero =>
    intro k i hi hk _
    obtain ⟨k, rfl⟩ : ∃ j, k = j + 1 := ⟨k - 1, by omega⟩
    have hsh := show_f (l.map tkS) 900 (by omega) (by omega) (fun x hx => by
      obtain ⟨t, ht, rfl⟩ := List.mem_map.1 hx
      show (ofL t.text).size ≤ 900
      rw [ofL_size]
      exact (hb t ht).1) k (by omega)
    rw [showS_tk] at hsh
    simp only [pontoonlaw04_LexerBack.l0]
    rw [if_neg (by omega), hsh, Option.bind_some, ofL_size]
    by_cases hz : ((showL l).length : Int) > 2000
    · rw [if_pos hz, known_up k (by omega)]
      rfl
    · obtain ⟨he, hm⟩ := hend (by omega)
      have hs := same_map l m tkS kt (fun a b h => by
        unfold kt at h
        simp only [Prod.mk.injEq] at h
        exact ⟨h.1, by show ofL a.text = ofL b.text; rw [h.2], fun h => by cases h⟩) hm.symm k (by omega) (by omega)
      rw [if_neg hz, if_pos he, hs, Option.bind_some, if_pos rfl, known_up k (by omega)]
      rfl
  | succ d ih =>
    intro k i hi hk h1
    obtain ⟨k, rfl⟩ : ∃ j, k = j + 1 := ⟨k - 1, by omega⟩
    have hi1 : 1 ≤ i := by omega
    have hlt : i < l.length := by omega
    have hord : (l[i - 1]'(by omega)).at_ < (l[i]).at_ := List.pairwise_iff_getElem.1 hp (i - 1) i (by omega) hlt (by omega)
    have e1 : (rd_T30 (l.map tkS) (i : Int)).f2 = ((l[i]).at_ : Int) := by
      rw [rdT _ i (by omega), List.getElem_map]
      rfl
    have e2 : (rd_T30 (l.map tkS) ((i - 1 : Nat) : Int)).f2 = ((l[i - 1]'(by omega)).at_ : Int) := by
      rw [rdT _ (i - 1) (by omega), List.getElem_map]
      rfl
    simp only [pontoonlaw04_LexerBack.l0]
    rw [if_pos (by omega), if_pos (by omega), wrp (by omega) (by omega), wrp (by omega) (by omega), show ((i : Int) - 1) = ((i - 1 : Nat) : Int) by omega, show ((i : Int) + 1) = ((i + 1 : Nat) : Int) by omega, if_pos (by omega), if_pos (by omega), e1, e2, if_neg (by omega)]
    exact ih k (i + 1) (by omega) (by omega) (.inl (by omega))
theorem show_len : ∀ (l : List Tk), (∀ t ∈ l, t.text.length ≤ 900 ∧ t.at_ ≤ 900) → l.length ≤ 900 → (showL l).length ≤ 2000000 := by
  have key : ∀ (l : List Tk), (∀ t ∈ l, t.text.length ≤ 900 ∧ t.at_ ≤ 900) → (showL l).length ≤ l.length * 2000 := by
    have hT : ∀ t : Tk, t.text.length ≤ 900 → (showT t.kind t.text).length ≤ 1900 := fun t ht => by
      have h2 := dbl_len 34 t.text
      have h3 := dbl_len 39 t.text
      unfold showT
      split
      · omega
      · split <;> omega
    intro l
    induction l with
    | nil => intro _; simp [showL]
    | cons t r ih =>
      intro h
      have a1 := hT t (h t List.mem_cons_self).1
      have a2 := ih (fun x hx => h x (List.mem_cons_of_mem _ hx))
      cases r with
      | nil => show (showT t.kind t.text).length ≤ _; simp; omega
      | cons u r =>
        show (showT t.kind t.text ++ 32 :: showL (u :: r)).length ≤ _
        simp only [List.length_append, List.length_cons] at a2 ⊢
        omega
  intro l h hn
  have := key l h
  omega
theorem back_f (s : ByteArray) : pontoonlaw04_LexerBack.f 9000 s = some true := by
  unfold pontoonlaw04_LexerBack.f
  split
  · rw [known_up 9000 (by omega)]
    rfl
  · rename_i h
    have hs : s.size ≤ 900 := by omega
    rw [scan_f s (by omega), Option.bind_some]
    cases hr : scan (tl s) with
    | ok l =>
      obtain ⟨v1, v2, v3, v4⟩ := scL_valid _ _ _ _ hr
      have vt := scL_text _ _ _ _ hr
      rw [tl_len] at v4
      have hb : ∀ t ∈ l, t.text.length ≤ 900 ∧ t.at_ ≤ 900 := fun t ht => by
        have a1 := vt t ht
        have a2 := v2 t ht
        rw [tl_len] at a1 a2
        omega
      have hsh := show_f (l.map tkS) 900 (by omega) (by rw [List.length_map]; omega) (fun x hx => by
        obtain ⟨t, ht, rfl⟩ := List.mem_map.1 hx
        show (ofL t.text).size ≤ 900
        rw [ofL_size]
        exact (hb t ht).1) 9000 (by rw [List.length_map]; omega)
      rw [showS_tk] at hsh
      rw [scanF_ok s (by omega) l hr, if_pos rfl, hsh, Option.bind_some]
      by_cases hz : (showL l).length ≤ 2000
      · obtain ⟨m, hm, hk⟩ := scL_show l ((showL l).length + 1) 0 v1 (Nat.lt_succ_self _)
        have hsc : scan (tl (ofL (showL l))) = .ok m := by rw [tl_ofL]; exact hm
        rw [scan_f _ (by rw [ofL_size]; omega), scanF_ok _ (by rw [ofL_size]; exact hz) m hsc, Option.bind_some]
        by_cases h0 : l.length = 0
        · obtain rfl := List.length_eq_zero_iff.1 h0
          have hm0 : m = [] := by simpa using hk
          subst hm0
          have := back_l [] [] 0 (by simp) List.Pairwise.nil (fun t ht => by cases ht) (fun _ => ⟨rfl, rfl⟩) 0 9000 0 rfl (by omega) (.inr rfl)
          have h2 : ∀ i : Nat, pontoonlaw04_LexerBack.l0 9000 [] [] 0 (i : Int) = pontoonlaw04_LexerBack.l0 9000 [] [] 0 ((0 : Nat) : Int) := by
            intro i
            have n1 : ¬ ((i : Nat) : Int) < (([] : List S30).length : Int) := by show ¬ ((i : Nat) : Int) < 0; omega
            have n0 : ¬ ((0 : Nat) : Int) < (([] : List S30).length : Int) := by show ¬ ((0 : Nat) : Int) < 0; omega
            rw [pontoonlaw04_LexerBack.l0, if_neg n1]
            conv => rhs; rw [pontoonlaw04_LexerBack.l0, if_neg n0]
          exact (h2 1).trans this
        · exact back_l l m 0 (by omega) v3 hb (fun _ => ⟨rfl, hk⟩) (l.length - 1) 9000 1 (by omega) (by omega) (.inl (by omega))
      · rw [scan_f _ (by rw [ofL_size]; exact Nat.le_trans (show_len l hb (by omega)) (by decide)), scanF_big _ (by rw [ofL_size]; omega), Option.bind_some]
        have h0 : l.length ≠ 0 := by
          intro h0
          obtain rfl := List.length_eq_zero_iff.1 h0
          exact hz (by simp [showL])
        exact back_l l [] 2 (by omega) v3 hb (fun h => absurd h hz) (l.length - 1) 9000 1 (by omega) (by omega) (.inl (by omega))
    | err e a =>
      obtain ⟨w1, w2, w3⟩ := scL_err _ _ _ _ _ (Nat.lt_succ_self _) hr
      rw [tl_len] at w2
      rw [scanF_err s (by omega) e a hr, if_neg (by show ¬ e = 0; omega), if_pos (show ((([] : List S30).length : Nat) : Int) = 0 from rfl), if_pos (by show (a : Int) ≥ 0; omega), if_pos (by show (a : Int) ≤ s.size; omega), known_up 9000 (by omega)]
      rfl
theorem back_walk (s : ByteArray) (_hs : s.size ≤ 140737488351232) (w : World) : Calls Try.prog 5 #[.string s] w fun e w' => e = .returned (.bool true) ∧ Below w.heap.size w w' :=
  pontoonlaw04_LexerBack.calls 9000 s true w (back_f s)
end Go.Proofs.Ytcmjfcfjppioeaa
