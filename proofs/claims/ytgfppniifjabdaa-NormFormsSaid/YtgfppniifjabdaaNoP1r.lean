/- norm: the document's Tokens, in the same plain words. -/
import Derived.Test.YtgfppniifjabdaaNoP1
import Derived.Test.YtgfppniifjabdaaNoQ5
import Derived.Test.YtgfppniifjabdaaPbx11
namespace Go.Proofs.Ytgfppniifjabdaa
open Go Go.RowKit Go.Proofs.Ytgfppniifjabdaa.Pb Go.Proofs.YtgfppniifjabdaaW.PrintWords Go.Proofs.YtgfppniifjabdaaW.PrintLast
set_option linter.unusedSimpArgs false

theorem points_l (s : ByteArray) (hs : s.size ≤ 3000) : ∀ (m k i c : Nat), i + m = s.size → m < k → c ≤ i → pontoonref05_points.l0 k s (c : Int) (i : Int) = some ((c + ((tl s).drop i).count 46 : Nat) : Int) := by
  intro m
  induction m with
  | zero =>
    intro k i c hi hk hc
    obtain ⟨k, rfl⟩ : ∃ j, k = j + 1 := ⟨k - 1, by omega⟩
    simp only [pontoonref05_points.l0]
    rw [if_neg (by omega), List.drop_of_length_le (by rw [tl_len]; omega)]
    rfl
  | succ m ih =>
    intro k i c hi hk hc
    obtain ⟨k, rfl⟩ : ∃ j, k = j + 1 := ⟨k - 1, by omega⟩
    have hlt : i < s.size := by omega
    simp only [pontoonref05_points.l0]
    rw [if_pos (by omega), if_pos (by omega), bt_i s i hlt, wrp (show -9223372036854775808 ≤ (i : Int) + 1 by omega) (by omega), wrp (show -9223372036854775808 ≤ (c : Int) + 1 by omega) (by omega), show ((i : Int) + 1) = ((i + 1 : Nat) : Int) by omega, show ((c : Int) + 1) = ((c + 1 : Nat) : Int) by omega, ih k (i + 1) (c + 1) (by omega) (by omega) (by omega), ih k (i + 1) c (by omega) (by omega) (by omega), dropc s i hlt, List.count_cons]
    by_cases h46 : s[i] = 46
    · rw [if_pos ((u8n _ 46 46 rfl).2 h46), h46, if_pos (by rfl)]
      congr 2
      omega
    · rw [if_neg (fun e => h46 ((u8n _ 46 46 rfl).1 e)), if_neg (by rw [beq_iff_eq]; exact h46)]
      rfl
theorem points_f (s : ByteArray) (hs : s.size ≤ 3000) (k : Nat) (hk : s.size < k) : pontoonref05_points.f k s = some (((tl s).count 46 : Nat) : Int) := by
  have := points_l s hs s.size k 0 0 (by omega) hk (Nat.le_refl _)
  rw [List.drop_zero, Nat.zero_add] at this
  exact this
theorem trail_snoc (r : List UInt8) (c : UInt8) : trail (r ++ [c]) = if c = 48 then trail r else r ++ [c] := by
  unfold trail
  rw [List.reverse_append]
  show (List.dropWhile (· == 48) (c :: r.reverse)).reverse = _
  rw [List.dropWhile_cons]
  by_cases h : c = 48
  · rw [if_pos (by rw [beq_iff_eq]; exact h), if_pos h]
  · rw [if_neg (by rw [beq_iff_eq]; exact h), if_neg h]
    simp
theorem unpt_snoc (r : List UInt8) (c : UInt8) : unpt (r ++ [c]) = if c = 46 then r else r ++ [c] := by
  unfold unpt
  by_cases h : c = 46
  · rw [if_pos (by rw [List.getLast?_concat, h]), if_pos h, List.dropLast_concat]
  · rw [if_neg (by rw [List.getLast?_concat]; exact fun e => h (Option.some.inj e)), if_neg h]
theorem bt_snoc (r : List UInt8) (c : UInt8) : bt (ofL (r ++ [c])) (r.length : Int) = ((c.toNat : Nat) : Int) := by
  have hlt : r.length < (ofL (r ++ [c])).size := by rw [ofL_size, List.length_append]; simp
  rw [bt_i _ _ hlt]
  have h1 := dropc (ofL (r ++ [c])) r.length hlt
  rw [tl_ofL, List.drop_append_of_le_length (Nat.le_refl _), List.drop_length, List.nil_append] at h1
  rw [← (List.cons.inj h1).1]
theorem ext_snoc (r : List UInt8) (c : UInt8) : (ofL (r ++ [c])).extract 0 r.length = ofL r := tl_inj (by rw [tl_ext, tl_ofL, tl_ofL, List.drop_zero, List.take_append_of_le_length (Nat.le_refl _), List.take_length])
theorem num_l1 : ∀ (m : Nat) (l : List UInt8) (k : Nat), l.length = m → l.length ≤ 3000 → m < k → 46 ∈ l → pontoonref05_Number.l1 k (ofL l) = some (ofL (unpt (trail l))) := by
  intro m
  induction m with
  | zero =>
    intro l k hl _ _ h
    obtain rfl := List.length_eq_zero_iff.1 hl
    cases h
  | succ m ih =>
    intro l k hl hb hk h
    obtain ⟨k, rfl⟩ : ∃ j, k = j + 1 := ⟨k - 1, by omega⟩
    have hne : l ≠ [] := by intro e; rw [e] at hl; simp at hl
    obtain ⟨r, c, rfl⟩ : ∃ r c, l = r ++ [c] := ⟨l.dropLast, l.getLast hne, (List.dropLast_concat_getLast hne).symm⟩
    have hrl : r.length = m := by simp at hl; omega
    have hsz : (ofL (r ++ [c])).size = r.length + 1 := by rw [ofL_size, List.length_append]; rfl
    simp only [pontoonref05_Number.l1]
    rw [hsz, wrp (by omega) (by omega), show (((r.length + 1 : Nat) : Int) - 1) = (r.length : Int) by omega, if_pos (by omega), if_pos (by omega), bt_snoc, Int.toNat_natCast, ext_snoc, trail_snoc]
    by_cases h48 : c = 48
    · rw [if_pos ((u8n _ 48 48 rfl).2 h48), if_pos h48, if_pos (by omega)]
      refine ih r k hrl (by omega) (by omega) ?_
      rcases List.mem_append.1 h with h | h
      · exact h
      · rw [List.mem_singleton] at h
        rw [← h] at h48
        exact absurd h48 (by decide)
    · rw [if_neg (fun e => h48 ((u8n _ 48 48 rfl).1 e)), if_neg h48, unpt_snoc]
      by_cases h46 : c = 46
      · rw [if_pos ((u8n _ 46 46 rfl).2 h46), if_pos h46, if_pos (by omega)]
      · rw [if_neg (fun e => h46 ((u8n _ 46 46 rfl).1 e)), if_neg h46]
theorem num_j1 (l : List UInt8) (k : Nat) (hl : l.length ≤ 3000) (hk : l.length + 1 < k) (hle : lead l = l) : pontoonref05_Number.j1 k (ofL l) = some (ofL (numL l)) := by
  obtain ⟨k, rfl⟩ : ∃ j, k = j + 1 := ⟨k - 1, by omega⟩
  simp only [pontoonref05_Number.j1]
  rw [points_f (ofL l) (by rw [ofL_size]; exact hl) k (by rw [ofL_size]; omega), Option.bind_some, tl_ofL]
  have hd : numL l = if (lead l).count 46 = 1 then unpt (trail (lead l)) else lead l := rfl
  rw [hle] at hd
  rw [hd]
  by_cases hc : l.count 46 = 1
  · rw [if_pos (by omega), if_pos hc]
    exact num_l1 l.length l k rfl hl (by omega) (List.count_pos_iff.1 (by omega))
  · rw [if_neg (by omega), if_neg hc]
theorem numL_lead (l : List UInt8) (m : List UInt8) (h : lead l = lead m) : numL l = numL m := by unfold numL; rw [h]
theorem num_l0 : ∀ (m : Nat) (l : List UInt8) (k : Nat), l.length = m → l.length ≤ 3000 → 2 * m + 4 < k → pontoonref05_Number.l0 k (ofL l) = some (ofL (numL l)) := by
  intro m
  induction m with
  | zero =>
    intro l k hl hb hk
    obtain rfl := List.length_eq_zero_iff.1 hl
    obtain ⟨k, rfl⟩ : ∃ j, k = j + 1 := ⟨k - 1, by omega⟩
    simp only [pontoonref05_Number.l0]
    rw [if_neg (by rw [ofL_size]; simp)]
    exact num_j1 [] k (by simp) (by simp; omega) rfl
  | succ m ih =>
    intro l k hl hb hk
    obtain ⟨k, rfl⟩ : ∃ j, k = j + 1 := ⟨k - 1, by omega⟩
    match l, hl, hb with
    | [c], hl, hb =>
      simp only [pontoonref05_Number.l0]
      rw [if_neg (by rw [ofL_size]; simp)]
      exact num_j1 [c] k (by simp) (by simp; omega) rfl
    | c :: d :: r, hl, hb =>
      have hsz : (ofL (c :: d :: r)).size = r.length + 2 := by rw [ofL_size]; rfl
      have b0 : bt (ofL (c :: d :: r)) 0 = ((c.toNat : Nat) : Int) := by
        have hlt : 0 < (ofL (c :: d :: r)).size := by omega
        have h1 := dropc (ofL (c :: d :: r)) 0 hlt
        rw [tl_ofL] at h1
        refine (bt_i (ofL (c :: d :: r)) 0 hlt).trans ?_
        rw [← (List.cons.inj h1).1]
      have b1 : bt (ofL (c :: d :: r)) 1 = ((d.toNat : Nat) : Int) := by
        have hlt : 1 < (ofL (c :: d :: r)).size := by omega
        have h1 := dropc (ofL (c :: d :: r)) 1 hlt
        rw [tl_ofL] at h1
        refine (bt_i (ofL (c :: d :: r)) 1 hlt).trans ?_
        rw [← (List.cons.inj h1).1]
      have hx : (ofL (c :: d :: r)).extract 1 (ofL (c :: d :: r)).size = ofL (d :: r) := tl_inj (by
        rw [tl_ext, tl_ofL, tl_ofL, hsz, List.take_of_length_le (by simp)]
        rfl)
      have hjl : (c :: d :: r).length = r.length + 2 := rfl
      have hjr : (d :: r).length = r.length + 1 := rfl
      have hj : ¬ (c = 48 ∧ d ≠ 46) → pontoonref05_Number.j1 k (ofL (c :: d :: r)) = some (ofL (numL (c :: d :: r))) := fun h => num_j1 _ k hb (by omega) (if_neg h)
      simp only [pontoonref05_Number.l0]
      rw [hx, b0, b1, hsz, if_pos (by omega), if_pos (by omega)]
      by_cases h48 : c = 48
      · rw [if_pos ((u8n _ 48 48 rfl).2 h48), if_pos (by omega)]
        by_cases h46 : d = 46
        · rw [if_pos ((u8n _ 46 46 rfl).2 h46)]
          exact hj (fun h => h.2 h46)
        · rw [if_neg (fun e => h46 ((u8n _ 46 46 rfl).1 e)), if_pos (by omega), numL_lead (c :: d :: r) (d :: r) (if_pos ⟨h48, h46⟩)]
          exact ih (d :: r) k (by omega) (by omega) (by omega)
      · rw [if_neg (fun e => h48 ((u8n _ 48 48 rfl).1 e))]
        exact hj (fun h => h48 h.1)
theorem rnumber_f (s : ByteArray) (hs : s.size ≤ 3000) (k : Nat) (hk : 2 * s.size + 4 < k) : pontoonref05_Number.f k s = some (ofL (numL (tl s))) := by
  have := num_l0 (tl s).length (tl s) k rfl (by rw [tl_len]; exact hs) (by rw [tl_len]; exact hk)
  rw [ofL_tl] at this
  exact this
section
variable (B : Nat) (hB : B ≤ 3000)
include hB
/-! the document's -/
theorem rtokens_l1 (l : List S35) (n : Nat) (hnl : n ≤ l.length) (hn : l.length ≤ 3000) (hx : ∀ x ∈ l, x.f1.size ≤ B) : ∀ (m k i : Nat) (acc : List S35), i + m = n → m + 20000 < k → acc.length ≤ i → (∀ x ∈ acc, x.f1.size ≤ B) → pontoonref05_Tokens.l1 k l (n : Int) acc (i : Int) = some (ofL (showS (acc ++ ((l.take n).drop i).map numS))) := by
  intro m
  induction m with
  | zero =>
    intro k i acc hi hk ha hax
    obtain ⟨k, rfl⟩ : ∃ j, k = j + 1 := ⟨k - 1, by omega⟩
    simp only [pontoonref05_Tokens.l1]
    rw [if_neg (by omega), rshow_f acc B hB (by omega) hax k (by omega), List.drop_of_length_le (by rw [List.length_take]; omega)]
    simp
  | succ m ih =>
    intro k i acc hi hk ha hax
    obtain ⟨k, rfl⟩ : ∃ j, k = j + 1 := ⟨k - 1, by omega⟩
    have hlt : i < l.length := by omega
    have hsz := hx l[i] (List.getElem_mem hlt)
    have hlt2 : i < (l.take n).length := by rw [List.length_take]; omega
    have hgo : ∀ y, y = numS l[i] → pontoonref05_Tokens.l1 k l (n : Int) (acc ++ [y]) (wrap64 ((i : Int) + 1)) = some (ofL (showS (acc ++ ((l.take n).drop i).map numS))) := by
      intro y hy
      rw [wrp (by omega) (by omega), show ((i : Int) + 1) = ((i + 1 : Nat) : Int) by omega, ih k (i + 1) _ (by omega) (by omega) (by rw [List.length_append, List.length_singleton]; omega) (by
        intro x hxm
        rcases List.mem_append.1 hxm with h | h
        · exact hax x h
        · rw [List.mem_singleton] at h
          rw [h, hy]
          exact Nat.le_trans (numS_size _) hsz), List.drop_eq_getElem_cons hlt2, List.map_cons, List.append_assoc, hy, List.getElem_take]
      rfl
    simp only [pontoonref05_Tokens.l1]
    rw [if_pos (by omega), if_pos (by omega), if_pos (by omega), rdT l i hlt, toL]
    by_cases h4 : l[i].f0 = 4
    · rw [if_pos h4]
      by_cases he : tl l[i].f1 = []
      · rw [if_pos he, if_pos (by omega)]
        exact hgo _ (by unfold numS; rw [if_neg (fun h => h.2 he)])
      · rw [if_neg he, rnumber_f _ (by omega) k (by omega), Option.bind_some, if_pos (by omega)]
        exact hgo _ (by unfold numS; rw [if_pos ⟨h4, he⟩])
    · rw [if_neg h4, if_pos (by omega)]
      exact hgo _ (by unfold numS; rw [if_neg (fun h => h4 h.1)])
theorem rtokens_l0 (l : List S35) (hn : l.length ≤ 3000) (hx : ∀ x ∈ l, x.f1.size ≤ B) : ∀ (n k : Nat), n ≤ l.length → 2 * n + 20002 < k → pontoonref05_Tokens.l0 k l (n : Int) = some (ofL (showS (normS (l.take n)))) := by
  have hj : ∀ (n k : Nat), n ≤ l.length → n + 20001 < k → cutSS (l.take n) = l.take n → pontoonref05_Tokens.j1 k l (n : Int) = some (ofL (showS (normS (l.take n)))) := by
    intro n k hl hk hc
    obtain ⟨k, rfl⟩ : ∃ j, k = j + 1 := ⟨k - 1, by omega⟩
    simp only [pontoonref05_Tokens.j1]
    have := rtokens_l1 B hB l n hl hn hx n k 0 [] (by omega) (by omega) (Nat.le_refl _) (by simp)
    rw [List.drop_zero, List.nil_append] at this
    unfold normS
    rw [hc]
    exact this
  intro n
  induction n with
  | zero =>
    intro k hl hk
    obtain ⟨k, rfl⟩ : ∃ j, k = j + 1 := ⟨k - 1, by omega⟩
    simp only [pontoonref05_Tokens.l0]
    rw [if_neg (by omega)]
    exact hj 0 k hl (by omega) rfl
  | succ r ih =>
    intro k hl hk
    obtain ⟨k, rfl⟩ : ∃ j, k = j + 1 := ⟨k - 1, by omega⟩
    have hlt : r < l.length := by omega
    have htk : l.take (r + 1) = l.take r ++ [l[r]] := List.take_succ_eq_append_getElem hlt
    have hcut := cutSS_snoc (l.take r) l[r]
    rw [← htk] at hcut
    simp only [pontoonref05_Tokens.l0]
    rw [wrp (by omega) (by omega), show (((r + 1 : Nat) : Int) - 1) = (r : Int) by omega, if_pos (by omega), if_pos (by omega), if_pos (by omega), rdT l r hlt, toL]
    by_cases hs : semiS l[r] = true
    · rw [if_pos hs] at hcut
      have h5 : l[r].f0 = 5 ∧ tl l[r].f1 = [59] := by
        unfold semiS at hs
        rw [Bool.and_eq_true, beq_iff_eq, beq_iff_eq] at hs
        exact hs
      rw [if_pos h5.1, if_pos h5.2]
      have hns : normS (l.take (r + 1)) = normS (l.take r) := by unfold normS; rw [hcut]
      rw [hns]
      exact ih k (by omega) (by omega)
    · rw [if_neg hs] at hcut
      have hjj := hj (r + 1) k hl (by omega) (by rw [hcut, htk])
      have hjj2 : pontoonref05_Tokens.j1 k l ((r : Int) + 1) = some (ofL (showS (normS (l.take (r + 1))))) := hjj
      unfold semiS at hs
      by_cases h5 : l[r].f0 = 5
      · rw [if_pos h5]
        by_cases h59 : tl l[r].f1 = [59]
        · exfalso
          apply hs
          rw [h5, h59]
          rfl
        · rw [if_neg h59]
          exact hjj
      · rw [if_neg h5]
        exact hjj
theorem rtokens_f (l : List S35) (k : Nat) (hn : l.length ≤ 3000) (hx : ∀ x ∈ l, x.f1.size ≤ B) (hk : 30000 ≤ k) : pontoonref05_Tokens.f k l = some (ofL (showS (normS l))) := by
  have := rtokens_l0 B hB l hn hx l.length k (Nat.le_refl _) (by omega)
  rw [List.take_length] at this
  exact this
end
end Go.Proofs.Ytgfppniifjabdaa
