/- lexer: the document's Scan, in the same plain words. -/
import Derived.Test.YtgfppniifjabdaaNoQ1
import Derived.Test.YtgfppniifjabdaaPbx9
namespace Go.Proofs.Ytgfppniifjabdaa
open Go Go.RowKit Go.Proofs.Ytgfppniifjabdaa.Pb Go.Proofs.YtgfppniifjabdaaW.PrintWords Go.Proofs.YtgfppniifjabdaaW.PrintLast
set_option linter.unusedSimpArgs false

theorem rlet_f (c : UInt8) : pontoonref04_letter.f (c.toNat : Int) = some (letB c) := all_u8 (fun c => pontoonref04_letter.f (c.toNat : Int) = some (letB c)) (by decide +kernel) c
theorem rdig_f (c : UInt8) : pontoonref04_digit.f (c.toNat : Int) = some (digB c) := all_u8 (fun c => pontoonref04_digit.f (c.toNat : Int) = some (digB c)) (by decide +kernel) c
theorem rsgn_f (c : UInt8) : pontoonref04_sign.f (c.toNat : Int) = some (signB c) := all_u8 (fun c => pontoonref04_sign.f (c.toNat : Int) = some (signB c)) (by decide +kernel) c
theorem rstarts_f (s : ByteArray) (hs : s.size ≤ 2000) (i : Nat) (h : ByteArray) (hi : i ≤ s.size) (hh : h.size ≤ 2000) : pontoonref04_starts.f s (i : Int) h = some ((tl h).isPrefixOf ((tl s).drop i)) := by
  unfold pontoonref04_starts.f
  rw [wrp (by omega) (by omega)]
  have hdl : ((tl s).drop i).length = s.size - i := by rw [List.length_drop, tl_len]
  by_cases c : i + h.size ≤ s.size
  · rw [if_pos (by omega), if_pos (by omega), if_pos (by omega), toL, toL, tl_ext, show ((i : Int) + (h.size : Int)).toNat = i + h.size by omega, Int.toNat_natCast]
    congr 1
    have e : ((tl s).take (i + h.size)).drop i = ((tl s).drop i).take h.size := by rw [List.drop_take, Nat.add_sub_cancel_left]
    rw [e]
    cases hp : (tl h).isPrefixOf ((tl s).drop i)
    · rw [beq_eq_false_iff_ne]
      intro e
      have : (tl h).isPrefixOf ((tl s).drop i) = true := by
        rw [List.isPrefixOf_iff_prefix, ← e]
        exact List.take_prefix _ _
      rw [this] at hp
      cases hp
    · rw [beq_iff_eq]
      have := List.prefix_iff_eq_take.1 (List.isPrefixOf_iff_prefix.1 hp)
      rw [tl_len] at this
      exact this.symm
  · rw [if_neg (by omega)]
    cases hp : (tl h).isPrefixOf ((tl s).drop i)
    · rfl
    · have := prefix_len hp
      rw [tl_len, hdl] at this
      omega
theorem rremark_l (s : ByteArray) (hs : s.size ≤ 2000) : ∀ (m k i d : Nat), i + m = s.size → m < k → d ≤ i → (1 ≤ d ∨ [47, 42].isPrefixOf ((tl s).drop i) = true) → ∀ j : Nat, d = j → pontoonref04_remark.l0 k s (i : Int) (j : Int) = some (negOr i (remL ((tl s).drop i) d)) := by
  intro m
  induction m using Nat.strongRecOn with
  | ind m ih =>
    intro k i d hi hk hd hp j hj
    subst hj
    obtain ⟨k, rfl⟩ : ∃ j, k = j + 1 := ⟨k - 1, by omega⟩
    simp only [pontoonref04_remark.l0]
    by_cases c : i < s.size
    · have e1 : tl ⟨#[47, 42]⟩ = [47, 42] := rfl
      have e2 : tl ⟨#[42, 47]⟩ = [42, 47] := rfl
      have hd2 : ((tl s).drop (i + 1)).drop 1 = (tl s).drop (i + 2) := by rw [List.drop_drop]
      rw [if_pos (by omega), rstarts_f s hs i _ (by omega) (by decide), rstarts_f s hs i _ (by omega) (by decide), Option.bind_some, Option.bind_some, e1, e2, dropc s i c, remL_cons, hd2, wrp (show -9223372036854775808 ≤ (i : Int) + 1 by omega) (by omega), wrp (show -9223372036854775808 ≤ (i : Int) + 2 by omega) (by omega), wrp (show -9223372036854775808 ≤ (d : Int) + 1 by omega) (by omega), wrp (show -9223372036854775808 ≤ (d : Int) - 1 by omega) (by omega)]
      have mp : ∀ (o : Option Nat) (n : Nat), negOr (i + n) o = negOr i (o.map (· + n)) := by
        intro o n
        cases o with
        | none => rfl
        | some x => simp only [negOr, Option.map_some]; omega
      cases h1 : [47, 42].isPrefixOf (s[i] :: (tl s).drop (i + 1))
      · simp only [Bool.false_eq_true, if_false]
        have hd1 : 1 ≤ d := by
          rcases hp with hp | hp
          · exact hp
          · rw [dropc s i c, h1] at hp
            cases hp
        cases h2 : [42, 47].isPrefixOf (s[i] :: (tl s).drop (i + 1))
        · simp only [Bool.false_eq_true, if_false]
          rw [show ((i : Int) + 1) = ((i + 1 : Nat) : Int) by omega, ih (m - 1) (by omega) k (i + 1) d (by omega) (by omega) (by omega) (.inl hd1) d rfl, mp]
        · have hl := prefix_len h2
          simp only [if_true]
          by_cases h3 : d = 1
          · rw [if_pos (by omega), if_pos h3]
            show _ = some ((i + 2 : Nat) : Int)
            congr 1
          · have h4 : i + 2 ≤ s.size := by
              simp only [List.length_cons, List.length_nil, List.length_drop, tl_len] at hl
              omega
            rw [if_neg (by omega), if_neg h3, show ((i : Int) + 2) = ((i + 2 : Nat) : Int) by omega, show ((d : Int) - 1) = ((d - 1 : Nat) : Int) by omega, ih (m - 2) (by omega) k (i + 2) (d - 1) (by omega) (by omega) (by omega) (.inl (by omega)) (d - 1) rfl, mp]
      · have hl := prefix_len h1
        have h4 : i + 2 ≤ s.size := by
          simp only [List.length_cons, List.length_nil, List.length_drop, tl_len] at hl
          omega
        simp only [if_true]
        rw [show ((i : Int) + 2) = ((i + 2 : Nat) : Int) by omega, show ((d : Int) + 1) = ((d + 1 : Nat) : Int) by omega, ih (m - 2) (by omega) k (i + 2) (d + 1) (by omega) (by omega) (by omega) (.inl (by omega)) (d + 1) rfl, mp]
    · rw [if_neg (by omega), List.drop_of_length_le (by rw [tl_len]; omega)]
      rfl
/-! rows of a kind -/
def rowB (t : Int) (c : UInt8) : Bool := digB c || (t == 1 && (letB c || c == 36)) || (t == 4 && c == 46)
theorem rrow_l (s : ByteArray) (hs : s.size ≤ 2000) (t : Int) : ∀ (m k i : Nat), i + m = s.size → m < k → pontoonref04_row.l0 k s (i : Int) t = some ((i + runL (rowB t) ((tl s).drop i) : Nat) : Int) := by
  intro m
  induction m with
  | zero =>
    intro k i hi hk
    obtain ⟨k, rfl⟩ : ∃ j, k = j + 1 := ⟨k - 1, by omega⟩
    simp only [pontoonref04_row.l0]
    rw [if_neg (by omega), List.drop_of_length_le (by rw [tl_len]; omega)]
    rfl
  | succ m ih =>
    intro k i hi hk
    obtain ⟨k, rfl⟩ : ∃ j, k = j + 1 := ⟨k - 1, by omega⟩
    have hlt : i < s.size := by omega
    have e36 : (bt s (i : Int) = 36) ↔ s[i] = 36 := by rw [bt_i s i hlt]; exact (bt36 _).symm
    have e46 : (bt s (i : Int) = 46) ↔ s[i] = 46 := by rw [bt_i s i hlt]; exact (u8_eq _ 46)
    simp only [pontoonref04_row.l0]
    rw [if_pos (by omega), if_pos (by omega), wrp (by omega) (by omega), show ((i : Int) + 1) = ((i + 1 : Nat) : Int) by omega, ih k (i + 1) (by omega) (by omega), dropc s i hlt]
    simp only [e36, e46]
    rw [bt_i s i hlt, rdig_f, rlet_f, Option.bind_some, Option.bind_some]
    have hrun : runL (rowB t) (s[i] :: (tl s).drop (i + 1)) = if rowB t s[i] then runL (rowB t) ((tl s).drop (i + 1)) + 1 else 0 := rfl
    rw [hrun]
    generalize runL (rowB t) ((tl s).drop (i + 1)) = n
    unfold rowB
    cases digB s[i]
    · by_cases h1 : t = 1
      · subst h1
        cases letB s[i]
        · by_cases h36 : s[i] = 36
          · simp [h36]; omega
          · simp [h36]
        · simp; omega
      · by_cases h4 : t = 4
        · subst h4
          by_cases h46 : s[i] = 46
          · simp [h46]; omega
          · simp [h46]
        · simp [h1, h4]
    · simp; omega
theorem runL_congr (p q : UInt8 → Bool) (h : ∀ c, p c = q c) : ∀ l, runL p l = runL q l
  | [] => rfl
  | c :: r => by
    show (if p c then _ else _) = (if q c then _ else _)
    rw [h c, runL_congr p q h r]
theorem rrow_f (s : ByteArray) (hs : s.size ≤ 2000) (t : Int) (p : UInt8 → Bool) (hp : ∀ c, rowB t c = p c) (k i : Nat) (hi : i ≤ s.size) (hk : 2000 < k) : pontoonref04_row.f k s (i : Int) t = some ((i + runL p ((tl s).drop i) : Nat) : Int) := by
  have := rrow_l s hs t (s.size - i) k i (by omega) (by omega)
  rw [runL_congr _ p hp] at this
  exact this
/-! quotes -/
theorem rquoted_l (s : ByteArray) (hs : s.size ≤ 2000) (q : UInt8) : ∀ (m k i : Nat) (acc : List UInt8), i + m = s.size → m < k → acc.length ≤ i → pontoonref04_quoted.l0 k s (q.toNat : Int) (ofL acc) (i : Int) = some (quoO acc i (quoL q ((tl s).drop i))) := by
  intro m
  induction m using Nat.strongRecOn with
  | ind m ih =>
    intro k i acc hi hk ha
    obtain ⟨k, rfl⟩ : ∃ j, k = j + 1 := ⟨k - 1, by omega⟩
    have mp : ∀ (o : Option (List UInt8 × Nat)) (b : UInt8) (n : Nat), quoO (acc ++ [b]) (i + n) o = quoO acc i (o.map fun p => (b :: p.1, p.2 + n)) := by
      intro o b n
      cases o with
      | none => rfl
      | some x => simp [quoO]; omega
    simp only [pontoonref04_quoted.l0]
    by_cases c : i < s.size
    · have hx : s.extract i (i + 1) = ofL [s[i]] := tl_inj (by
        rw [tl_ext, tl_ofL, List.drop_take, dropc s i c, Nat.add_sub_cancel_left]
        rfl)
      have hap : ofL acc ++ ofL [s[i]] = ofL (acc ++ [s[i]]) := by rw [app_ofL, tl_ofL]
      have hxs : (ofL acc).size + (ofL [s[i]]).size ≤ 9223372036854775807 := by rw [ofL_size, ofL_size]; simp; omega
      rw [if_pos (by omega), if_pos (by omega), bt_i s i c, wrp (show -9223372036854775808 ≤ (i : Int) + 1 by omega) (by omega), wrp (show -9223372036854775808 ≤ (i : Int) + 1 + 1 by omega) (by omega), Int.toNat_natCast, show ((i : Int) + 1).toNat = i + 1 by omega, hx, dropc s i c]
      by_cases hq : s[i] = q
      · rw [if_pos ((u8_eq _ _).2 hq)]
        by_cases he : i + 1 = s.size
        · rw [if_neg (by omega), List.drop_of_length_le (by rw [tl_len]; omega)]
          unfold quoL
          rw [if_pos hq]
          simp [quoO]
        · have hlt : i + 1 < s.size := by omega
          rw [if_pos (by omega), if_pos (by omega), show ((i : Int) + 1) = ((i + 1 : Nat) : Int) by omega, bt_i s (i + 1) hlt, dropc s (i + 1) hlt]
          unfold quoL
          rw [if_pos hq]
          by_cases hq2 : s[i + 1] = q
          · rw [if_pos ((u8_eq _ _).2 hq2), if_pos hq2, if_pos (by omega), if_pos (by omega), if_pos hxs, hap, show (((i + 1 : Nat) : Int) + 1) = ((i + 2 : Nat) : Int) by omega, ih (m - 2) (by omega) k (i + 2) _ (by omega) (by omega) (by simp; omega), mp, hq]
          · rw [if_neg (fun e => hq2 ((u8_eq _ _).1 e)), if_neg hq2]
            simp [quoO]
      · rw [if_neg (fun e => hq ((u8_eq _ _).1 e)), if_pos (by omega), if_pos (by omega), if_pos hxs, hap, show ((i : Int) + 1) = ((i + 1 : Nat) : Int) by omega, ih (m - 1) (by omega) k (i + 1) _ (by omega) (by omega) (by simp; omega), mp]
        cases hd : (tl s).drop (i + 1) with
        | nil =>
          unfold quoL
          rw [if_neg hq]
          rfl
        | cons e r =>
          conv => rhs; unfold quoL
          rw [if_neg hq]
    · rw [if_neg (by omega), List.drop_of_length_le (by rw [tl_len]; omega)]
      rfl
/-! dollars -/
theorem rtag_run (s : ByteArray) (hs : s.size ≤ 2000) (a : Nat) : ∀ (m k i : Nat), i + m = s.size → m < k → a + 1 < i → pontoonref04_tag.l0 k s (a : Int) (i : Int) = some (if ((tl s).drop i)[runL tagB ((tl s).drop i)]? = some 36 then ((i + runL tagB ((tl s).drop i) + 1 : Nat) : Int) else -1) := by
  intro m
  induction m with
  | zero =>
    intro k i hi hk ha
    obtain ⟨k, rfl⟩ : ∃ j, k = j + 1 := ⟨k - 1, by omega⟩
    simp only [pontoonref04_tag.l0]
    rw [if_neg (by omega), List.drop_of_length_le (by rw [tl_len]; omega)]
    rfl
  | succ m ih =>
    intro k i hi hk ha
    obtain ⟨k, rfl⟩ : ∃ j, k = j + 1 := ⟨k - 1, by omega⟩
    have hlt : i < s.size := by omega
    simp only [pontoonref04_tag.l0]
    rw [if_pos (by omega), if_pos (by omega), bt_i s i hlt, rlet_f, rdig_f, Option.bind_some, Option.bind_some, wrp (show -9223372036854775808 ≤ (i : Int) + 1 by omega) (by omega), wrp (show -9223372036854775808 ≤ (a : Int) + 1 by omega) (by omega), if_pos (show (i : Int) > (a : Int) + 1 by omega), show ((i : Int) + 1) = ((i + 1 : Nat) : Int) by omega, ih k (i + 1) (by omega) (by omega) (by omega), dropc s i hlt]
    have hrun : runL tagB (s[i] :: (tl s).drop (i + 1)) = if tagB s[i] then runL tagB ((tl s).drop (i + 1)) + 1 else 0 := rfl
    rw [hrun]
    generalize runL tagB ((tl s).drop (i + 1)) = n
    unfold tagB
    have hgo : (if ((tl s).drop (i + 1))[n]? = some 36 then ((i + 1 + n + 1 : Nat) : Int) else -1) = (if (s[i] :: (tl s).drop (i + 1))[n + 1]? = some 36 then ((i + (n + 1) + 1 : Nat) : Int) else -1) := by
      rw [List.getElem?_cons_succ, show i + 1 + n + 1 = i + (n + 1) + 1 by omega]
    cases hl : letB s[i]
    · cases hd : digB s[i]
      · by_cases h36 : s[i] = 36
        · simp [h36]
        · have h36' : ¬ ((s[i].toNat : Nat) : Int) = 36 := fun e => h36 ((bt36 _).2 e)
          simp [h36, h36']
      · simp only [Bool.false_eq_true, if_false, if_true, Bool.or_true, Bool.false_or]
        exact congrArg some hgo
    · simp only [if_true, Bool.true_or]
      exact congrArg some hgo
theorem rtag_f (s : ByteArray) (hs : s.size ≤ 2000) (a k : Nat) (ha : a < s.size) (hk : 2001 < k) : pontoonref04_tag.f k s (a : Int) = some (match tagL ((tl s).drop (a + 1)) with | some n => ((a + n : Nat) : Int) | none => -1) := by
  unfold pontoonref04_tag.f
  obtain ⟨k, rfl⟩ : ∃ j, k = j + 1 := ⟨k - 1, by omega⟩
  rw [wrp (by omega) (by omega), show ((a : Int) + 1) = ((a + 1 : Nat) : Int) by omega, pontoonref04_tag.l0]
  by_cases hlt : a + 1 < s.size
  · rw [if_pos (by omega), if_pos (by omega), bt_i s (a + 1) hlt, rlet_f, rdig_f, Option.bind_some, Option.bind_some, wrp (show -9223372036854775808 ≤ (a : Int) + 1 by omega) (by omega), wrp (show -9223372036854775808 ≤ ((a + 1 : Nat) : Int) + 1 by omega) (by omega), if_neg (show ¬ ((a + 1 : Nat) : Int) > (a : Int) + 1 by omega), show (((a + 1 : Nat) : Int) + 1) = ((a + 2 : Nat) : Int) by omega, rtag_run s hs a (s.size - (a + 2)) k (a + 2) (by omega) (by omega) (by omega), dropc s (a + 1) hlt]
    have hN : tagN (s[a + 1] :: (tl s).drop (a + 2)) = if letB s[a + 1] then runL tagB ((tl s).drop (a + 2)) + 1 else 0 := by
      show (if letB s[a + 1] then (if tagB s[a + 1] then runL tagB ((tl s).drop (a + 2)) + 1 else 0) else 0) = _
      unfold tagB
      cases letB s[a + 1]
      · rfl
      · simp
    unfold tagL
    rw [hN]
    generalize runL tagB ((tl s).drop (a + 2)) = n
    cases hl : letB s[a + 1]
    · simp only [Bool.false_eq_true, if_false]
      by_cases h36 : s[a + 1] = 36
      · rw [if_pos ((bt36 _).1 h36), if_pos (by rw [h36]; rfl)]
      · rw [if_neg (fun e => h36 ((bt36 _).2 e)), if_neg (by
          intro e
          exact h36 (Option.some.inj e))]
    · simp only [if_true]
      rw [List.getElem?_cons_succ]
      by_cases h : ((tl s).drop (a + 2))[n]? = some 36
      · rw [if_pos h, if_pos h]
        congr 2
        omega
      · rw [if_neg h, if_neg h]
  · rw [if_neg (by omega), List.drop_of_length_le (by rw [tl_len]; omega)]
    rfl
theorem rdollar_l (s : ByteArray) (hs : s.size ≤ 2000) (a b : Nat) (hab : a < b) (hb : b ≤ s.size) : ∀ (m k i : Nat), i + m = s.size → m + 1 < k → b ≤ i → pontoonref04_dollar.l0 k s (a : Int) (b : Int) (i : Int) = some (match dolL (((tl s).take b).drop a) ((tl s).drop i) with | some o => (s.extract b (i + o.1.length), ((i + o.2 : Nat) : Int)) | none => (⟨#[]⟩, -1)) := by
  have hT : tl (s.extract a b) = ((tl s).take b).drop a := tl_ext s a b
  have hTl : (((tl s).take b).drop a).length = b - a := by rw [List.length_drop, List.length_take, tl_len]; omega
  have hTs : (s.extract a b).size ≤ 2000 := Nat.le_trans (ext_le _ _ _) hs
  intro m
  induction m with
  | zero =>
    intro k i hi hk hbi
    obtain ⟨k, rfl⟩ : ∃ j, k = j + 2 := ⟨k - 2, by omega⟩
    have hdi : (tl s).drop i = [] := List.drop_of_length_le (by rw [tl_len]; omega)
    rw [show k + 2 = (k + 1) + 1 from rfl, pontoonref04_dollar.l0, if_pos (by omega), if_pos (by omega), if_pos (by omega), if_pos (by omega), Int.toNat_natCast, Int.toNat_natCast, rstarts_f s hs i _ (by omega) hTs, hT, Option.bind_some, hdi]
    have hp : (((tl s).take b).drop a).isPrefixOf [] = false := by
      cases hp : (((tl s).take b).drop a).isPrefixOf []
      · rfl
      · have := prefix_len hp
        rw [hTl] at this
        simp at this
        omega
    unfold dolL
    rw [hp, if_neg (by decide), if_neg (by decide), wrp (by omega) (by omega), pontoonref04_dollar.l0, if_neg (by omega)]
  | succ m ih =>
    intro k i hi hk hbi
    obtain ⟨k, rfl⟩ : ∃ j, k = j + 1 := ⟨k - 1, by omega⟩
    have hlt : i < s.size := by omega
    rw [pontoonref04_dollar.l0, if_pos (by omega), if_pos (by omega), if_pos (by omega), if_pos (by omega), Int.toNat_natCast, Int.toNat_natCast, rstarts_f s hs i _ (by omega) hTs, hT, Option.bind_some, if_pos (show (0 : Int) ≤ (b : Int) by omega), if_pos (show (b : Int) ≤ (i : Int) by omega), Int.toNat_natCast, wrp (show -9223372036854775808 ≤ (i : Int) + b by omega) (by omega), wrp (show -9223372036854775808 ≤ (i : Int) + b - a by omega) (by omega), wrp (show -9223372036854775808 ≤ (i : Int) + 1 by omega) (by omega), dropc s i hlt]
    unfold dolL
    cases hp : (((tl s).take b).drop a).isPrefixOf (s[i] :: (tl s).drop (i + 1))
    · rw [if_neg (by decide), if_neg (by decide), show ((i : Int) + 1) = ((i + 1 : Nat) : Int) by omega, ih k (i + 1) (by omega) (by omega) (by omega)]
      cases dolL (((tl s).take b).drop a) ((tl s).drop (i + 1)) with
      | none => rfl
      | some o =>
        simp only [Option.map_some, List.length_cons]
        rw [show i + 1 + o.1.length = i + (o.1.length + 1) by omega, show i + 1 + o.2 = i + (o.2 + 1) by omega]
    · rw [if_pos rfl, if_pos rfl]
      simp only [List.length_nil, Nat.add_zero, hTl]
      congr 2
      omega
end Go.Proofs.Ytgfppniifjabdaa
