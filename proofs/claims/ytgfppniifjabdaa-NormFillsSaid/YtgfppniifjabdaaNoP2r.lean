/- norm: the document's functions of parameters, in the same plain words. -/
import Derived.Test.YtgfppniifjabdaaNoP2
import Derived.Test.YtgfppniifjabdaaPbx14
namespace Go.Proofs.Ytgfppniifjabdaa
open Go Go.RowKit Go.Proofs.Ytgfppniifjabdaa.Pb Go.Proofs.YtgfppniifjabdaaW.PrintWords Go.Proofs.YtgfppniifjabdaaW.PrintLast
set_option linter.unusedSimpArgs false

theorem u8m (c d : UInt8) (n : Int) (hn : (d.toNat : Int) = n) : (((c.toNat : Nat) : Int) = n) ↔ c = d := by rw [← hn]; exact u8_eq c d
def parV (o : Option Int) : Int := match o with | none => -1 | some v => v
theorem rpar_l (s : ByteArray) (hs : s.size ≤ 3000) (kd at_ : Int) : ∀ (m k i n : Nat), i + m = s.size → 2 * m + 2 < k → 1 ≤ i → n < 10 ^ (min (i - 1) 9) → pontoonref05_param.l0 k (n : Int) (i : Int) kd s at_ = some (parV ((parD ((tl s).drop i) (i - 1) (n : Int)).map fun n => if 10 < s.size then 0 else n)) := by
  intro m
  induction m with
  | zero =>
    intro k i n hi hk h1 hn
    obtain ⟨k, rfl⟩ : ∃ j, k = j + 1 := ⟨k - 1, by omega⟩
    simp only [pontoonref05_param.l0]
    rw [if_neg (by omega), List.drop_of_length_le (by rw [tl_len]; omega)]
    show _ = some (if 10 < s.size then 0 else (n : Int))
    by_cases h10 : 10 < s.size
    · rw [if_pos (by omega), if_pos h10]
    · rw [if_neg (by omega), if_neg h10]
  | succ m ih =>
    intro k i n hi hk h1 hn
    obtain ⟨k, rfl⟩ : ∃ j, k = j + 2 := ⟨k - 2, by omega⟩
    have hlt : i < s.size := by omega
    have hb := s[i].toNat_lt
    have hp : (10 : Nat) ^ (min (i - 1) 9) ≤ 10 ^ 9 := Nat.pow_le_pow_right (by decide) (Nat.min_le_right _ _)
    rw [show (10 : Nat) ^ 9 = 1000000000 from rfl] at hp
    rw [show k + 2 = (k + 1) + 1 from rfl, pontoonref05_param.l0, if_pos (by omega), if_pos (by omega), bt_i s i hlt, dropc s i hlt]
    unfold parD
    by_cases hc : s[i].toNat < 48 ∨ 57 < s[i].toNat
    · rw [if_pos hc]
      have hj : pontoonref05_param.j2 (k + 1) (n : Int) (i : Int) true kd s at_ = some (-1) := by rw [pontoonref05_param.j2, if_pos rfl]
      by_cases h48 : ((s[i].toNat : Nat) : Int) < 48
      · rw [if_pos h48, hj]
        rfl
      · rw [if_neg h48, decide_eq_true (by omega), hj]
        rfl
    · rw [if_neg hc, if_neg (by omega), decide_eq_false (by omega), pontoonref05_param.j2, if_neg (by decide), bt_i s i hlt, wrp (show -9223372036854775808 ≤ (i : Int) + 1 by omega) (by omega), show ((i : Int) + 1) = ((i + 1 : Nat) : Int) by omega]
      by_cases h9 : i ≤ 9
      · have e : (10 : Nat) ^ (min (i + 1 - 1) 9) = 10 * 10 ^ (min (i - 1) 9) := by
          rw [show min (i + 1 - 1) 9 = min (i - 1) 9 + 1 by omega, Nat.pow_succ, Nat.mul_comm]
        rw [if_pos (by omega), if_pos (by omega), if_pos (by omega), if_pos (show i - 1 < 9 by omega), wrp (show -9223372036854775808 ≤ 10 * (n : Int) by omega) (by omega), show ((((s[i].toNat : Nat) : Int) - 48) % 256) = ((s[i].toNat - 48 : Nat) : Int) by omega, wrp (show -9223372036854775808 ≤ 10 * (n : Int) + ((s[i].toNat - 48 : Nat) : Int) by omega) (by omega), show 10 * (n : Int) + ((s[i].toNat - 48 : Nat) : Int) = ((10 * n + (s[i].toNat - 48) : Nat) : Int) by omega, ih k (i + 1) _ (by omega) (by omega) (by omega) (by rw [e]; omega)]
        rw [show i + 1 - 1 = i - 1 + 1 by omega, show ((10 * n + (s[i].toNat - 48) : Nat) : Int) = 10 * (n : Int) + (((s[i].toNat : Nat) : Int) - 48) by omega]
      · rw [if_neg (by omega), if_neg (show ¬ i - 1 < 9 by omega), ih k (i + 1) n (by omega) (by omega) (by omega) (by rw [show min (i + 1 - 1) 9 = min (i - 1) 9 by omega]; exact hn)]
        rw [show i + 1 - 1 = i - 1 + 1 by omega]
theorem rparam_f (kd : Int) (s : ByteArray) (at_ : Int) (hs : s.size ≤ 3000) (k : Nat) (hk : 2 * s.size + 4 < k) : pontoonref05_param.f k kd s at_ = some (parV (parL kd (tl s))) := by
  obtain ⟨k, rfl⟩ : ∃ j, k = j + 1 := ⟨k - 1, by omega⟩
  have hj : pontoonref05_param.j0 (k + 1) true kd s at_ = some (-1) := by rw [pontoonref05_param.j0, if_pos rfl]
  unfold pontoonref05_param.f parL
  by_cases h5 : kd = 5
  · rw [if_pos h5]
    by_cases h2 : s.size < 2
    · rw [if_pos (by omega), hj, if_pos (.inr (.inl (by rw [tl_len]; exact h2)))]
      rfl
    · have h0 : 0 < s.size := by omega
      have hd := dropc s 0 h0
      rw [List.drop_zero] at hd
      have b0 : bt s 0 = ((s[0].toNat : Nat) : Int) := bt_i s 0 h0
      rw [if_neg (by omega), if_pos (by omega), b0]
      by_cases h36 : s[0] = 36
      · have e : (((s[0].toNat : Nat) : Int) != 36) = false := by rw [bne_eq_false_iff_eq]; exact (u8m _ 36 36 rfl).2 h36
        rw [e, pontoonref05_param.j0, if_neg (by decide), if_neg]
        · have := rpar_l s hs kd at_ (s.size - 1) k 1 0 (by omega) (by omega) (Nat.le_refl _) (by decide)
          rw [tl_len]
          exact this
        · rintro (h | h | h)
          · exact h h5
          · rw [tl_len] at h; omega
          · rw [hd] at h
            exact h (by show some s[0] = some 36; rw [h36])
      · have e : (((s[0].toNat : Nat) : Int) != 36) = true := by rw [bne_iff_ne]; exact fun h => h36 ((u8m _ 36 36 rfl).1 h)
        rw [e, hj, if_pos]
        · rfl
        · right; right
          rw [hd]
          exact fun h => h36 (Option.some.inj h)
  · rw [if_neg h5, hj, if_pos (.inl h5)]
    rfl
section
variable (args : List ByteArray) (null : List Bool) (hl : args.length = null.length) (hal : args.length ≤ 1000)
include hl hal
theorem rfill_l (l : List S35) (hn : l.length ≤ 3000) (hx : ∀ x ∈ l, x.f1.size ≤ 3000) : ∀ (m k i : Nat) (acc : List S35), i + m = l.length → 3 * m + 6010 < k → acc.length ≤ i → pontoonref05_Fill.l0 k l args null acc (i : Int) = some (fillR acc (fillS args null (l.drop i))) := by
  intro m
  induction m with
  | zero =>
    intro k i acc hi hk ha
    obtain ⟨k, rfl⟩ : ∃ j, k = j + 1 := ⟨k - 1, by omega⟩
    simp only [pontoonref05_Fill.l0]
    rw [if_neg (by omega), List.drop_of_length_le (by omega)]
    show _ = some (acc ++ [], (0 : Int))
    rw [List.append_nil]
  | succ m ih =>
    intro k i acc hi hk ha
    obtain ⟨k, rfl⟩ : ∃ j, k = j + 3 := ⟨k - 3, by omega⟩
    have hlt : i < l.length := by omega
    have hsz := hx _ (List.getElem_mem hlt)
    have hgo : ∀ y, pontoonref05_Fill.l0 k l args null (acc ++ [y]) (wrap64 ((i : Int) + 1)) = some (fillR acc ((fillS args null (l.drop (i + 1))).map (y :: ·))) := by
      intro y
      rw [wrp (by omega) (by omega), show ((i : Int) + 1) = ((i + 1 : Nat) : Int) by omega, ih k (i + 1) _ (by omega) (by omega) (by rw [List.length_append, List.length_singleton]; omega), fillR_cons]
    rw [show k + 3 = (k + 2) + 1 from rfl, pontoonref05_Fill.l0, if_pos (by omega), if_pos (by omega), rdT l i hlt, rparam_f _ _ _ hsz (k + 2) (by omega), Option.bind_some, List.drop_eq_getElem_cons hlt]
    unfold fillS
    cases hp : parL l[i].f0 (tl l[i].f1) with
    | none =>
      show (if (-1 : Int) = 0 then _ else _) = some (fillR acc (Option.map (l[i] :: ·) (fillS args null (l.drop (i + 1)))))
      rw [if_neg (by decide)]
      show pontoonref05_Fill.j1 (k + 2) l args null acc (i : Int) (-1) (decide ((-1 : Int) > (args.length : Int))) l[i].f0 l[i].f1 l[i].f2 = _
      rw [decide_eq_false (by omega), show k + 2 = (k + 1) + 1 from rfl, pontoonref05_Fill.j1, if_neg (by decide), if_neg (by decide), pontoonref05_Fill.j2, if_neg (by decide), if_neg (by decide), if_pos (by omega)]
      exact hgo _
    | some n =>
      have h0 := parL_nonneg _ _ _ hp
      show (if n = 0 then pontoonref05_Fill.j1 (k + 2) l args null acc (i : Int) n true l[i].f0 l[i].f1 l[i].f2 else pontoonref05_Fill.j1 (k + 2) l args null acc (i : Int) n (decide (n > (args.length : Int))) l[i].f0 l[i].f1 l[i].f2) = some (fillR acc (if n < 1 ∨ (args.length : Int) < n then none else _))
      have hbad : pontoonref05_Fill.j1 (k + 2) l args null acc (i : Int) n true l[i].f0 l[i].f1 l[i].f2 = some ([], 8) := by
        rw [pontoonref05_Fill.j1, if_pos rfl]
      by_cases h1 : n < 1
      · rw [if_pos (show n = 0 by omega), if_pos (.inl h1), hbad]
        rfl
      · rw [if_neg (show ¬ n = 0 by omega)]
        by_cases h2 : (args.length : Int) < n
        · rw [decide_eq_true h2, if_pos (.inr h2), hbad]
          rfl
        · rw [decide_eq_false (show ¬ n > (args.length : Int) from h2), if_neg (show ¬ (n < 1 ∨ (args.length : Int) < n) by omega), show k + 2 = (k + 1) + 1 from rfl, pontoonref05_Fill.j1, if_neg (by decide), wrp (by omega) (by omega), if_pos (by omega), if_pos (by omega), if_pos (by omega)]
          unfold putS
          rw [pontoonref05_Fill.j2, wrp (show -9223372036854775808 ≤ n - 1 by omega) (by omega)]
          by_cases hb : rdOf false null (n - 1) = true
          · rw [if_pos hb, if_pos hb, if_pos (show acc.length < 4398046511104 by omega)]
            exact hgo _
          · rw [if_neg hb, if_neg hb, if_pos (by omega), if_pos (by omega), if_pos (by omega), if_pos (show acc.length < 4398046511104 by omega)]
            exact hgo _
theorem rfill_f (l : List S35) (hn : l.length ≤ 3000) (hx : ∀ x ∈ l, x.f1.size ≤ 3000) (k : Nat) (hk : 15010 < k) : pontoonref05_Fill.f k l args null = some (fillR [] (fillS args null l)) := by
  unfold pontoonref05_Fill.f
  rw [if_pos (by omega)]
  exact rfill_l args null hl hal l hn hx l.length k 0 [] (by omega) (by omega) (Nat.le_refl _)
end
theorem rbinds_l (l : List S35) (hn : l.length ≤ 3000) (hx : ∀ x ∈ l, x.f1.size ≤ 3000) : ∀ (m k i : Nat) (n : Int), 0 ≤ n → i + m = l.length → m + 6010 < k → pontoonref05_Binds.l0 k l n (i : Int) = some (bindsS (l.drop i) n) := by
  intro m
  induction m with
  | zero =>
    intro k i n h0 hi hk
    obtain ⟨k, rfl⟩ : ∃ j, k = j + 1 := ⟨k - 1, by omega⟩
    simp only [pontoonref05_Binds.l0]
    rw [if_neg (by omega), List.drop_of_length_le (by omega)]
    rfl
  | succ m ih =>
    intro k i n h0 hi hk
    obtain ⟨k, rfl⟩ : ∃ j, k = j + 1 := ⟨k - 1, by omega⟩
    have hlt : i < l.length := by omega
    have hm : mx n (parV (parL l[i].f0 (tl l[i].f1))) = mx n ((parL l[i].f0 (tl l[i].f1)).getD 0) := by
      cases parL l[i].f0 (tl l[i].f1) with
      | none =>
        show mx n (-1) = mx n 0
        unfold mx
        rw [if_neg (by omega), if_neg (by omega)]
      | some v => rfl
    have hge := (mx_ge n ((parL l[i].f0 (tl l[i].f1)).getD 0)).1
    simp only [pontoonref05_Binds.l0]
    rw [if_pos (by omega), if_pos (by omega), rdT l i hlt, rparam_f _ _ _ (hx _ (List.getElem_mem hlt)) k (by have := hx _ (List.getElem_mem hlt); omega), Option.bind_some, hm, wrp (by omega) (by omega), show ((i : Int) + 1) = ((i + 1 : Nat) : Int) by omega, ih k (i + 1) _ (by omega) (by omega) (by omega), List.drop_eq_getElem_cons hlt]
    rfl
theorem rbinds_f (l : List S35) (hn : l.length ≤ 3000) (hx : ∀ x ∈ l, x.f1.size ≤ 3000) (k : Nat) (hk : 9020 < k) : pontoonref05_Binds.f k l = some (bindsS l 0) :=
  rbinds_l l hn hx l.length k 0 0 (Int.le_refl 0) (by omega) (by omega)
end Go.Proofs.Ytgfppniifjabdaa
