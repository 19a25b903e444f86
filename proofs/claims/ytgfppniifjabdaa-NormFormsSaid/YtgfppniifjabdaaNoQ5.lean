/- lexer: LexerTells answers true. -/
import Derived.Test.YtgfppniifjabdaaNoQ1
import Derived.Test.YtgfppniifjabdaaPbx10
namespace Go.Proofs.Ytgfppniifjabdaa
open Go Go.RowKit Go.Proofs.Ytgfppniifjabdaa.Pb Go.Proofs.YtgfppniifjabdaaW.PrintWords Go.Proofs.YtgfppniifjabdaaW.PrintLast
set_option linter.unusedSimpArgs false

/-! the document's Show -/
theorem rdouble_l (s : ByteArray) (q : UInt8) (hs : s.size ≤ 100000) : ∀ (m k i : Nat) (acc : List UInt8), i + m = s.size → m < k → acc.length ≤ 2 * i + 1 → pontoonref04_double.l0 k s (ofL [q]) (ofL acc) (i : Int) = some (ofL (acc ++ esc q ((tl s).drop i) ++ [q])) := by
  have hq1 : (ofL [q]).size = 1 := by rw [ofL_size]; rfl
  intro m
  induction m with
  | zero =>
    intro k i acc hi hk ha
    obtain ⟨k, rfl⟩ : ∃ j, k = j + 1 := ⟨k - 1, by omega⟩
    simp only [pontoonref04_double.l0]
    rw [if_neg (by omega), if_pos (by rw [ofL_size, hq1]; omega), List.drop_of_length_le (by rw [tl_len]; omega), app_ofL, tl_ofL]
    simp [esc]
  | succ m ih =>
    intro k i acc hi hk ha
    obtain ⟨k, rfl⟩ : ∃ j, k = j + 1 := ⟨k - 1, by omega⟩
    have hlt : i < s.size := by omega
    have hx : s.extract i (i + 1) = ofL [s[i]] := tl_inj (by
      rw [tl_ext, tl_ofL, List.drop_take, dropc s i hlt, Nat.add_sub_cancel_left]
      rfl)
    have hx1 : ∀ b : UInt8, (ofL [b]).size = 1 := fun b => by rw [ofL_size]; rfl
    simp only [pontoonref04_double.l0]
    rw [if_pos (by omega), if_pos (by omega), wrp (by omega) (by omega), if_pos (by omega), if_pos (by omega), Int.toNat_natCast, show ((i : Int) + 1).toNat = i + 1 by omega, show ((i : Int) + 1) = ((i + 1 : Nat) : Int) by omega, hx, dropc s i hlt]
    by_cases hq : s[i] = q
    · have e : esc q (s[i] :: (tl s).drop (i + 1)) = q :: q :: esc q ((tl s).drop (i + 1)) := if_pos hq
      rw [if_pos (by rw [hq]), if_pos (by rw [ofL_size, hq1]; omega), app_ofL, tl_ofL, if_pos (by rw [ofL_size, hx1, List.length_append]; simp; omega), app_ofL, tl_ofL, ih k (i + 1) _ (by omega) (by omega) (by simp; omega), e, hq]
      simp
    · have e : esc q (s[i] :: (tl s).drop (i + 1)) = s[i] :: esc q ((tl s).drop (i + 1)) := if_neg hq
      rw [if_neg (by
        rw [toL, toL, tl_ofL, tl_ofL]
        intro h
        exact hq (List.cons.inj h).1), if_pos (by rw [ofL_size, hx1]; omega), app_ofL, tl_ofL, ih k (i + 1) _ (by omega) (by omega) (by simp; omega), e]
      simp
theorem rdouble_f (s : ByteArray) (q : UInt8) (hs : s.size ≤ 100000) (k : Nat) (hk : s.size < k) : pontoonref04_double.f k s (ofL [q]) = some (ofL (dbl q (tl s))) := by
  have := rdouble_l s q hs s.size k 0 [q] (by omega) hk (by simp)
  rw [List.drop_zero] at this
  exact this
theorem rshow_l (l : List S35) (B : Nat) (hB : B ≤ 3000) (hn : l.length ≤ 3000) (hx : ∀ x ∈ l, x.f1.size ≤ B) : ∀ (m k i : Nat) (acc : ByteArray), i + m = l.length → 2 * m + B + 5 < k → acc.size ≤ i * 6010 → pontoonref04_Show.l0 k l acc (i : Int) = some (ofL (tl acc ++ (if i = 0 then showS (l.drop i) else shR (l.drop i)))) := by
  intro m
  induction m with
  | zero =>
    intro k i acc hi hk ha
    obtain ⟨k, rfl⟩ : ∃ j, k = j + 1 := ⟨k - 1, by omega⟩
    simp only [pontoonref04_Show.l0]
    rw [if_neg (by omega), List.drop_of_length_le (by omega)]
    have : (if i = 0 then showS [] else shR []) = [] := by split <;> rfl
    rw [this, List.append_nil, ofL_tl]
  | succ m ih =>
    intro k i acc hi hk ha
    obtain ⟨k, rfl⟩ : ∃ j, k = j + 2 := ⟨k - 2, by omega⟩
    have hlt : i < l.length := by omega
    have hsz := hx l[i] (List.getElem_mem hlt)
    have hJ : ∀ acc : ByteArray, acc.size ≤ i * 6010 + 1 → pontoonref04_Show.j1 (k + 1) l acc (i : Int) = some (ofL (tl acc ++ shT l[i] ++ shR (l.drop (i + 1)))) := by
      intro acc ha
      have hlen := shT_len l[i]
      have hnx : ∀ t : ByteArray, tl t = shT l[i] → pontoonref04_Show.l0 k l (acc ++ t) (wrap64 ((i : Int) + 1)) = some (ofL (tl acc ++ shT l[i] ++ shR (l.drop (i + 1)))) := by
        intro t ht
        have hts : t.size ≤ 2 * B + 2 := by rw [← tl_len, ht]; omega
        rw [wrp (by omega) (by omega), show ((i : Int) + 1) = ((i + 1 : Nat) : Int) by omega, ih k (i + 1) (acc ++ t) (by omega) (by omega) (by rw [ByteArray.size_append]; omega), if_neg (by omega)]
        congr 2
        rw [app_tl, tl_ofL, ht]
      simp only [pontoonref04_Show.j1]
      rw [if_pos (by omega), if_pos (by omega), rdT l i hlt]
      by_cases h2 : l[i].f0 = 2
      · have e : shT l[i] = dbl 34 (tl l[i].f1) := by unfold shT showT; rw [if_pos h2]
        have hd : pontoonref04_double.f k l[i].f1 (⟨#[34]⟩ : ByteArray) = some (ofL (dbl 34 (tl l[i].f1))) := rdouble_f l[i].f1 34 (by omega) k (by omega)
        rw [if_pos h2, hd, Option.bind_some, if_pos (by rw [ofL_size, ← e]; omega)]
        exact hnx _ (by rw [tl_ofL, e])
      · rw [if_neg h2]
        by_cases h3 : l[i].f0 = 3
        · have e : shT l[i] = dbl 39 (tl l[i].f1) := by unfold shT showT; rw [if_neg h2, if_pos h3]
          have hd : pontoonref04_double.f k l[i].f1 (⟨#[39]⟩ : ByteArray) = some (ofL (dbl 39 (tl l[i].f1))) := rdouble_f l[i].f1 39 (by omega) k (by omega)
          rw [if_pos h3, hd, Option.bind_some, if_pos (by rw [ofL_size, ← e]; omega)]
          exact hnx _ (by rw [tl_ofL, e])
        · have e : shT l[i] = tl l[i].f1 := by unfold shT showT; rw [if_neg h2, if_neg h3]
          rw [if_neg h3, if_pos (by omega)]
          exact hnx _ e.symm
    rw [show k + 2 = (k + 1) + 1 from rfl, pontoonref04_Show.l0, if_pos (by omega), List.drop_eq_getElem_cons hlt]
    by_cases h0 : i = 0
    · subst h0
      rw [if_neg (by omega), if_pos rfl, hJ acc (by omega), List.append_assoc]
      rfl
    · rw [if_pos (by omega), if_pos (by omega), if_neg h0, hJ _ (by rw [ByteArray.size_append]; show acc.size + 1 ≤ _; omega)]
      congr 2
      rw [app_tl, tl_ofL]
      show (tl acc ++ [32]) ++ shT l[i] ++ shR (l.drop (i + 1)) = tl acc ++ (32 :: shT l[i] ++ shR (l.drop (i + 1)))
      simp
theorem rshow_f (l : List S35) (B : Nat) (hB : B ≤ 3000) (hn : l.length ≤ 3000) (hx : ∀ x ∈ l, x.f1.size ≤ B) (k : Nat) (hk : 2 * l.length + B + 5 < k) : pontoonref04_Show.f k l = some (ofL (showS l)) := by
  have := rshow_l l B hB hn hx l.length k 0 ⟨#[]⟩ (by omega) hk (Nat.zero_le _)
  rw [if_pos rfl, List.drop_zero] at this
  exact this
end Go.Proofs.Ytgfppniifjabdaa
