/- lexer: Same, Show, the fixed calls, in plain words. -/
import Derived.Test.YtgfppniifjabdaaNoK
import Derived.Test.YtgfppniifjabdaaLxQ0
import Derived.KernelRfl
namespace Go.Proofs.Ytgfppniifjabdaa
open Go Go.RowKit Go.Proofs.Ytgfppniifjabdaa.Pb Go.Proofs.YtgfppniifjabdaaW.PrintWords Go.Proofs.YtgfppniifjabdaaW.PrintLast
set_option linter.unusedSimpArgs false

/-! Show -/
theorem double_l (s : ByteArray) (q : UInt8) (hs : s.size ≤ 100000) : ∀ (m k i : Nat) (acc : List UInt8), i + m = s.size → m < k → acc.length ≤ 2 * i + 1 → lexer_double.l0 k s (q.toNat : Int) (numsL acc) (s.size : Int) (i : Int) = some (ofL (acc ++ esc q ((tl s).drop i) ++ [q])) := by
  have hap : ∀ (acc : List UInt8) (b : UInt8), numsL acc ++ [(b.toNat : Int)] = numsL (acc ++ [b]) := by intro acc b; simp [numsL]
  have hnl : ∀ acc : List UInt8, (numsL acc).length = acc.length := by intro acc; simp [numsL]
  intro m
  induction m with
  | zero =>
    intro k i acc hi hk ha
    obtain ⟨k, rfl⟩ : ∃ j, k = j + 1 := ⟨k - 1, by omega⟩
    simp only [lexer_double.l0]
    rw [if_neg (by omega), hnl, if_pos (by omega), hap, str_numsL, List.drop_of_length_le (by rw [tl_len]; omega)]
    simp [esc]
  | succ m ih =>
    intro k i acc hi hk ha
    obtain ⟨k, rfl⟩ : ∃ j, k = j + 1 := ⟨k - 1, by omega⟩
    have hlt : i < s.size := by omega
    simp only [lexer_double.l0]
    rw [if_pos (by omega), if_pos (by omega), if_pos (by omega), bt_i s i hlt, wrp (by omega) (by omega), show ((i : Int) + 1) = ((i + 1 : Nat) : Int) by omega, dropc s i hlt]
    by_cases hq : s[i] = q
    · rw [if_pos ((u8_eq _ _).2 hq), hnl, if_pos (by omega), Option.bind_some, hap, hnl, if_pos (by rw [List.length_append]; simp; omega), hap, ih k (i + 1) _ (by omega) (by omega) (by simp; omega)]
      have e : esc q (s[i] :: (tl s).drop (i + 1)) = q :: q :: esc q ((tl s).drop (i + 1)) := if_pos hq
      rw [e, hq]
      simp
    · rw [if_neg (fun e => hq ((u8_eq _ _).1 e)), hnl, if_pos (by omega), hap, ih k (i + 1) _ (by omega) (by omega) (by simp; omega)]
      have e : esc q (s[i] :: (tl s).drop (i + 1)) = s[i] :: esc q ((tl s).drop (i + 1)) := if_neg hq
      rw [e]
      simp
theorem double_f (s : ByteArray) (q : UInt8) (hs : s.size ≤ 100000) (k : Nat) (hk : s.size < k) : lexer_double.f k s (q.toNat : Int) = some (ofL (dbl q (tl s))) := by
  have := double_l s q hs s.size k 0 [q] (by omega) hk (by simp)
  rw [List.drop_zero] at this
  exact this
def shT (x : S35) : List UInt8 := showT x.f0 (tl x.f1)
def shR : List S35 → List UInt8
  | [] => []
  | x :: r => 32 :: shT x ++ shR r
def showS : List S35 → List UInt8
  | [] => []
  | x :: r => shT x ++ shR r
theorem esc_len (q : UInt8) : ∀ t : List UInt8, (esc q t).length ≤ 2 * t.length
  | [] => Nat.le_refl _
  | c :: r => by
    have := esc_len q r
    unfold esc
    split <;> simp <;> omega
theorem dbl_len (q : UInt8) (t : List UInt8) : (dbl q t).length ≤ 2 * t.length + 2 := by
  have := esc_len q t
  simp [dbl]
  omega
theorem shT_len (x : S35) : (shT x).length ≤ 2 * x.f1.size + 2 := by
  have h2 := dbl_len 34 (tl x.f1)
  have h3 := dbl_len 39 (tl x.f1)
  rw [tl_len] at h2 h3
  unfold shT showT
  split
  · exact h2
  · split
    · exact h3
    · rw [tl_len]; omega
theorem app_ofL (s : ByteArray) (l : List UInt8) : s ++ ofL l = ofL (tl s ++ l) := tl_inj (by rw [tl_ofL]; simp [tl, ofL])
theorem app_tl (s t : ByteArray) : s ++ t = ofL (tl s ++ tl t) := tl_inj (by rw [tl_ofL]; simp [tl])
theorem show_l (l : List S35) (B : Nat) (hB : B ≤ 3000) (hn : l.length ≤ 3000) (hx : ∀ x ∈ l, x.f1.size ≤ B) : ∀ (m k i : Nat) (acc : ByteArray), i + m = l.length → 2 * m + B + 5 < k → acc.size ≤ i * 6010 → lexer_Show.l0 k acc l (l.length : Int) (i : Int) = some (ofL (tl acc ++ (if i = 0 then showS (l.drop i) else shR (l.drop i)))) := by
  intro m
  induction m with
  | zero =>
    intro k i acc hi hk ha
    obtain ⟨k, rfl⟩ : ∃ j, k = j + 1 := ⟨k - 1, by omega⟩
    simp only [lexer_Show.l0]
    rw [if_neg (by omega), List.drop_of_length_le (by omega)]
    have : (if i = 0 then showS [] else shR []) = [] := by split <;> rfl
    rw [this, List.append_nil, ofL_tl]
  | succ m ih =>
    intro k i acc hi hk ha
    obtain ⟨k, rfl⟩ : ∃ j, k = j + 2 := ⟨k - 2, by omega⟩
    have hlt : i < l.length := by omega
    have hsz := hx l[i] (List.getElem_mem hlt)
    have hJ : ∀ acc : ByteArray, acc.size ≤ i * 6010 + 1 → lexer_Show.j1 (k + 1) acc l (l.length : Int) (i : Int) l[i].f0 l[i].f1 l[i].f2 = some (ofL (tl acc ++ shT l[i] ++ shR (l.drop (i + 1)))) := by
      intro acc ha
      have hlen := shT_len l[i]
      have hnx : ∀ t : ByteArray, tl t = shT l[i] → lexer_Show.l0 k (acc ++ t) l (l.length : Int) (wrap64 ((i : Int) + 1)) = some (ofL (tl acc ++ shT l[i] ++ shR (l.drop (i + 1)))) := by
        intro t ht
        have hts : t.size ≤ 2 * B + 2 := by rw [← tl_len, ht]; omega
        rw [wrp (by omega) (by omega), show ((i : Int) + 1) = ((i + 1 : Nat) : Int) by omega, ih k (i + 1) (acc ++ t) (by omega) (by omega) (by rw [ByteArray.size_append]; omega), if_neg (by omega)]
        congr 2
        rw [app_tl, tl_ofL, ht]
      simp only [lexer_Show.j1]
      by_cases h2 : l[i].f0 = 2
      · have e : shT l[i] = dbl 34 (tl l[i].f1) := by unfold shT showT; rw [if_pos h2]
        have hd := double_f l[i].f1 34 (by omega) k (by omega)
        have hd' : lexer_double.f k l[i].f1 34 = some (ofL (dbl 34 (tl l[i].f1))) := hd
        rw [if_pos h2, hd', Option.bind_some, if_pos (by rw [ofL_size, ← e]; omega)]
        exact hnx _ (by rw [tl_ofL, e])
      · rw [if_neg h2]
        by_cases h3 : l[i].f0 = 3
        · have e : shT l[i] = dbl 39 (tl l[i].f1) := by unfold shT showT; rw [if_neg h2, if_pos h3]
          have hd := double_f l[i].f1 39 (by omega) k (by omega)
          have hd' : lexer_double.f k l[i].f1 39 = some (ofL (dbl 39 (tl l[i].f1))) := hd
          rw [if_pos h3, hd', Option.bind_some, if_pos (by rw [ofL_size, ← e]; omega)]
          exact hnx _ (by rw [tl_ofL, e])
        · have e : shT l[i] = tl l[i].f1 := by unfold shT showT; rw [if_neg h2, if_neg h3]
          rw [if_neg h3, if_pos (by omega)]
          exact hnx _ e.symm
    rw [show k + 2 = (k + 1) + 1 from rfl, lexer_Show.l0, if_pos (by omega), if_pos (by omega), if_pos (by omega), rdT l i hlt, List.drop_eq_getElem_cons hlt]
    by_cases h0 : i = 0
    · subst h0
      rw [if_neg (by omega), if_pos rfl, hJ acc (by omega), List.append_assoc]
      rfl
    · rw [if_pos (by omega), if_pos (by omega), if_neg h0, hJ _ (by rw [ByteArray.size_append]; show acc.size + 1 ≤ _; omega)]
      congr 2
      rw [app_tl, tl_ofL]
      show (tl acc ++ [32]) ++ shT l[i] ++ shR (l.drop (i + 1)) = tl acc ++ (32 :: shT l[i] ++ shR (l.drop (i + 1)))
      simp
theorem show_f (l : List S35) (B : Nat) (hB : B ≤ 3000) (hn : l.length ≤ 3000) (hx : ∀ x ∈ l, x.f1.size ≤ B) (k : Nat) (hk : 2 * l.length + B + 5 < k) : lexer_Show.f k l = some (ofL (showS l)) := by
  have := show_l l B hB hn hx l.length k 0 ⟨#[]⟩ (by omega) hk (Nat.zero_le _)
  rw [if_pos rfl, List.drop_zero] at this
  exact this
theorem showS_tk : ∀ l : List Tk, showS (l.map tkS) = showL l
  | [] => rfl
  | [t] => by
    show shT (tkS t) ++ [] = showT t.kind t.text
    rw [List.append_nil]
    unfold shT tkS
    rw [tl_ofL]
  | t :: u :: r => by
    have ih := showS_tk (u :: r)
    show shT (tkS t) ++ (32 :: shT (tkS u) ++ shR (r.map tkS)) = showT t.kind t.text ++ 32 :: showL (u :: r)
    rw [← ih]
    show _ = showT t.kind t.text ++ 32 :: (shT (tkS u) ++ shR (r.map tkS))
    have : shT (tkS t) = showT t.kind t.text := by unfold shT tkS; rw [tl_ofL]
    rw [this]
    rfl
/-! Scan -/
theorem scan_f (s : ByteArray) (hs : s.size ≤ 140737488351232) : lexer_Scan.f s = some (scanF s) := if_pos hs
theorem scanF_ok (s : ByteArray) (hs : s.size ≤ 2000) (l : List Tk) (h : scan (tl s) = .ok l) : scanF s = (l.map tkS, 0, 0) := by
  unfold scanF
  rw [if_neg (by omega), h]
theorem scanF_err (s : ByteArray) (hs : s.size ≤ 2000) (e : Int) (a : Nat) (h : scan (tl s) = .err e a) : scanF s = ([], e, (a : Int)) := by
  unfold scanF
  rw [if_neg (by omega), h]
theorem scanF_big (s : ByteArray) (hs : 2000 < s.size) : scanF s = ([], 2, 2000) := if_pos hs
end Go.Proofs.Ytgfppniifjabdaa
