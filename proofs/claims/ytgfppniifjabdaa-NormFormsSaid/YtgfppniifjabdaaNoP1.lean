/- norm: the printed functions of tokens' normal form, in the plain words of XNoS. -/
import Derived.Test.YtgfppniifjabdaaNoQ1
import Derived.Test.YtgfppniifjabdaaNoS
import Derived.Test.YtgfppniifjabdaaLxQ0
import Derived.Test.YtgfppniifjabdaaPbx5
namespace Go.Proofs.Ytgfppniifjabdaa
open Go Go.RowKit Go.Proofs.Ytgfppniifjabdaa.Pb Go.Proofs.YtgfppniifjabdaaW.PrintWords Go.Proofs.YtgfppniifjabdaaW.PrintLast
set_option linter.unusedSimpArgs false

/-! numbers -/
theorem number_f (s : ByteArray) (h : 0 < s.size) (h2 : s.size ≤ 140737488351232) : norm_number.f s = some (ofL (numL (tl s))) := if_pos ⟨h, h2⟩
theorem u8n (c d : UInt8) (n : Int) (hn : (d.toNat : Int) = n) : (((c.toNat : Nat) : Int) = n) ↔ c = d := by rw [← hn]; exact u8_eq c d
theorem lead_len : ∀ l : List UInt8, (lead l).length ≤ l.length
  | [] => Nat.le_refl _
  | [_] => Nat.le_refl _
  | c :: d :: r => by
    unfold lead
    split
    · have := lead_len (d :: r)
      simp at this ⊢
      omega
    · exact Nat.le_refl _
theorem numL_len (l : List UInt8) : (numL l).length ≤ l.length := by
  have := lead_len l
  unfold numL
  split
  · have h1 := ((unpt_pre (trail (lead l))).trans (trail_pre (lead l))).length_le
    omega
  · exact this
/-! tokens -/
def semiS (x : S35) : Bool := x.f0 == 5 && tl x.f1 == [59]
def cutSS (l : List S35) : List S35 := (l.reverse.dropWhile semiS).reverse
def numS (x : S35) : S35 := if x.f0 = 4 ∧ tl x.f1 ≠ [] then ⟨x.f0, ofL (numL (tl x.f1)), x.f2⟩ else x
def normS (l : List S35) : List S35 := (cutSS l).map numS
theorem cutSS_snoc (l : List S35) (x : S35) : cutSS (l ++ [x]) = if semiS x = true then cutSS l else l ++ [x] := by
  unfold cutSS
  rw [List.reverse_append]
  show (List.dropWhile semiS (x :: l.reverse)).reverse = _
  rw [List.dropWhile_cons]
  by_cases h : semiS x = true
  · rw [if_pos h, if_pos h]
  · rw [if_neg h, if_neg h]
    simp
theorem numS_size (x : S35) : (numS x).f1.size ≤ x.f1.size := by
  unfold numS
  split
  · show (ofL (numL (tl x.f1))).size ≤ _
    have := numL_len (tl x.f1)
    rw [ofL_size]
    rw [tl_len] at this
    exact this
  · exact Nat.le_refl _
theorem normS_tk (l : List Tk) : normS (l.map tkS) = (normL l).map tkS := by
  have hs : ∀ t, semiS (tkS t) = semi t := by
    intro t
    unfold semiS semi tkS
    rw [tl_ofL]
  have hn : ∀ t, numS (tkS t) = tkS (numT t) := by
    intro t
    unfold numS numT
    show (if t.kind = 4 ∧ tl (ofL t.text) ≠ [] then _ else _) = _
    rw [tl_ofL]
    by_cases h : t.kind = 4 ∧ t.text ≠ []
    · rw [if_pos h, if_pos h]
      show (⟨t.kind, ofL (numL (tl (ofL t.text))), _⟩ : S35) = _
      rw [tl_ofL]
      rfl
    · rw [if_neg h, if_neg h]
  unfold normS normL cutSS cutS
  rw [← List.map_reverse, dropWhile_map tkS semiS semi hs, ← List.map_reverse, List.map_map, List.map_map]
  congr 1
  funext t
  exact hn t
section
variable (B : Nat) (hB : B ≤ 3000)
include hB
theorem tokens_l1 (l : List S35) (hn : l.length ≤ 3000) (hx : ∀ x ∈ l, x.f1.size ≤ B) : ∀ (m k i : Nat) (acc : List S35), i + m = l.length → m + 20000 < k → acc.length ≤ i → (∀ x ∈ acc, x.f1.size ≤ B) → norm_Tokens.l1 k acc l (l.length : Int) (i : Int) = some (ofL (showS (acc ++ (l.drop i).map numS))) := by
  intro m
  induction m with
  | zero =>
    intro k i acc hi hk ha hax
    obtain ⟨k, rfl⟩ : ∃ j, k = j + 1 := ⟨k - 1, by omega⟩
    simp only [norm_Tokens.l1]
    rw [if_neg (by omega), show_f acc B hB (by omega) hax k (by omega), List.drop_of_length_le (by omega)]
    simp
  | succ m ih =>
    intro k i acc hi hk ha hax
    obtain ⟨k, rfl⟩ : ∃ j, k = j + 1 := ⟨k - 1, by omega⟩
    have hlt : i < l.length := by omega
    have hsz := hx l[i] (List.getElem_mem hlt)
    have hgo : ∀ y, y = numS l[i] → norm_Tokens.l1 k (acc ++ [y]) l (l.length : Int) (wrap64 ((i : Int) + 1)) = some (ofL (showS (acc ++ (l.drop i).map numS))) := by
      intro y hy
      rw [wrp (by omega) (by omega), show ((i : Int) + 1) = ((i + 1 : Nat) : Int) by omega, ih k (i + 1) _ (by omega) (by omega) (by rw [List.length_append, List.length_singleton]; omega) (by
        intro x hxm
        rcases List.mem_append.1 hxm with h | h
        · exact hax x h
        · rw [List.mem_singleton] at h
          rw [h, hy]
          exact Nat.le_trans (numS_size _) hsz), List.drop_eq_getElem_cons hlt, List.map_cons, List.append_assoc, hy]
      rfl
    simp only [norm_Tokens.l1]
    rw [if_pos (by omega), if_pos (by omega), if_pos (by omega), rdT l i hlt, toL]
    by_cases h4 : l[i].f0 = 4
    · rw [if_pos h4]
      by_cases he : tl l[i].f1 = []
      · rw [if_pos he, if_pos (by omega)]
        exact hgo _ (by unfold numS; rw [if_neg (fun h => h.2 he)])
      · have hpos : 0 < l[i].f1.size := by
          rw [← tl_len]
          exact List.length_pos_iff.2 he
        rw [if_neg he, number_f _ hpos (by omega), Option.bind_some, if_pos (by omega)]
        exact hgo _ (by unfold numS; rw [if_pos ⟨h4, he⟩])
    · rw [if_neg h4, if_pos (by omega)]
      exact hgo _ (by unfold numS; rw [if_neg (fun h => h4 h.1)])
theorem tokens_l0 : ∀ (m : Nat) (l : List S35) (k : Nat), l.length = m → l.length ≤ 3000 → (∀ x ∈ l, x.f1.size ≤ B) → 2 * m + 20002 < k → norm_Tokens.l0 k l = some (ofL (showS (normS l))) := by
  have hj : ∀ (l : List S35) (k : Nat), l.length ≤ 3000 → (∀ x ∈ l, x.f1.size ≤ B) → l.length + 20001 < k → cutSS l = l → norm_Tokens.j1 k l = some (ofL (showS (normS l))) := by
    intro l k hl hx hk hc
    obtain ⟨k, rfl⟩ : ∃ j, k = j + 1 := ⟨k - 1, by omega⟩
    simp only [norm_Tokens.j1]
    have := tokens_l1 B hB l hl hx l.length k 0 [] (by omega) (by omega) (Nat.le_refl _) (by simp)
    rw [List.drop_zero, List.nil_append] at this
    unfold normS
    rw [hc]
    exact this
  intro m
  induction m with
  | zero =>
    intro l k hl hb hx hk
    obtain rfl := List.length_eq_zero_iff.1 hl
    obtain ⟨k, rfl⟩ : ∃ j, k = j + 1 := ⟨k - 1, by omega⟩
    simp only [norm_Tokens.l0]
    rw [if_neg (by simp)]
    exact hj [] k hb hx (by simp; omega) rfl
  | succ m ih =>
    intro l k hl hb hx hk
    obtain ⟨k, rfl⟩ : ∃ j, k = j + 1 := ⟨k - 1, by omega⟩
    have hne : l ≠ [] := by intro e; rw [e] at hl; simp at hl
    obtain ⟨r, c, rfl⟩ : ∃ r c, l = r ++ [c] := ⟨l.dropLast, l.getLast hne, (List.dropLast_concat_getLast hne).symm⟩
    have hsz : (r ++ [c]).length = r.length + 1 := by rw [List.length_append]; rfl
    have hrd : rd_T35 (r ++ [c]) (r.length : Int) = c := by
      rw [rdT _ _ (by omega), List.getElem_append_right (Nat.le_refl _)]
      simp
    have hcut := cutSS_snoc r c
    simp only [norm_Tokens.l0]
    rw [hsz, wrp (by omega) (by omega), show (((r.length + 1 : Nat) : Int) - 1) = (r.length : Int) by omega, if_pos (by omega), if_pos (by omega), if_pos (by omega), hrd, toL, Int.toNat_natCast, List.take_append_of_le_length (Nat.le_refl _), List.take_length]
    by_cases hs : semiS c = true
    · rw [if_pos hs] at hcut
      have h5 : c.f0 = 5 ∧ tl c.f1 = [59] := by
        unfold semiS at hs
        rw [Bool.and_eq_true, beq_iff_eq, beq_iff_eq] at hs
        exact hs
      rw [if_pos h5.1, if_pos h5.2, if_pos (by omega)]
      have hns : normS (r ++ [c]) = normS r := by unfold normS; rw [hcut]
      rw [hns]
      exact ih r k (by omega) (by omega) (fun x hxm => hx x (List.mem_append_left _ hxm)) (by omega)
    · rw [if_neg hs] at hcut
      have hjj := hj (r ++ [c]) k hb hx (by omega) hcut
      rw [hjj]
      unfold semiS at hs
      by_cases h5 : c.f0 = 5
      · rw [if_pos h5]
        by_cases h59 : tl c.f1 = [59]
        · exfalso
          apply hs
          rw [h5, h59]
          rfl
        · rw [if_neg h59]
      · rw [if_neg h5]
theorem tokens_f (l : List S35) (k : Nat) (hn : l.length ≤ 3000) (hx : ∀ x ∈ l, x.f1.size ≤ B) (hk : 30000 ≤ k) : norm_Tokens.f k l = some (ofL (showS (normS l))) :=
  tokens_l0 B hB l.length l k rfl hn hx (by omega)
end
/-! Form -/
def formF (s : ByteArray) : ByteArray × Int := if s.size > 2000 then (⟨#[]⟩, 2) else match scan (tl s) with
  | .ok l => (ofL (showL (normL l)), 0)
  | .err e _ => (⟨#[]⟩, e)
theorem toks_ok (s : ByteArray) (_hs : s.size ≤ 2000) (l : List Tk) (h : scan (tl s) = .ok l) : (l.map tkS).length ≤ s.size ∧ ∀ x ∈ l.map tkS, x.f1.size ≤ s.size := by
  obtain ⟨v1, v2, v3, v4⟩ := scL_valid _ _ _ _ h
  have vt := scL_text _ _ _ _ h
  rw [tl_len] at v4
  refine ⟨by rw [List.length_map]; exact v4, fun x hx => ?_⟩
  obtain ⟨t, ht, rfl⟩ := List.mem_map.1 hx
  have a1 := vt t ht
  rw [tl_len] at a1
  show (ofL t.text).size ≤ _
  rw [ofL_size]
  exact a1
theorem form_f (s : ByteArray) (hs : s.size ≤ 140737488351232) (k : Nat) (hk : 30000 ≤ k) : norm_Form.f k s = some (formF s) := by
  unfold norm_Form.f formF
  rw [scan_f s hs, Option.bind_some]
  by_cases h2 : s.size > 2000
  · rw [scanF_big s h2, if_pos h2]
    exact if_neg (by decide)
  · rw [if_neg h2]
    cases hr : scan (tl s) with
    | ok l =>
      obtain ⟨a, b⟩ := toks_ok s (by omega) l hr
      rw [scanF_ok s (by omega) l hr]
      show (if (0 : Int) = 0 then ((norm_Tokens.f k (l.map tkS)).bind fun t154 => some (t154, (0 : Int))) else _) = _
      rw [if_pos rfl, tokens_f 2000 (by omega) _ k (by omega) (fun x hx => Nat.le_trans (b x hx) (by omega)) hk, normS_tk, showS_tk]
      rfl
    | err e a =>
      have h0 := scL_err _ _ _ _ _ (Nat.lt_succ_self _) hr
      rw [scanF_err s (by omega) e a hr]
      show (if e = 0 then _ else _) = _
      rw [if_neg (by omega)]
end Go.Proofs.Ytgfppniifjabdaa
