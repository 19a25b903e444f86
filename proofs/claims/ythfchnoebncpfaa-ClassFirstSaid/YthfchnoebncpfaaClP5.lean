/- The document's Scan ends, whatever the text of at most 2000 bytes: it has no more tokens than bytes. -/
import Derived.Test.YthfchnoebncpfaaPuA
import Derived.KernelRfl
namespace Go.Proofs.Ythfchnoebncpfaa
open Go Go.RowKit Go.Maps Go.Proofs.Ythfchnoebncpfaa.Pu Go.Proofs.YthfchnoebncpfaaW.PrintWords Go.Proofs.YthfchnoebncpfaaW.PrintLast
set_option linter.unusedSimpArgs false

theorem wr_in {i : Int} (h : -9223372036854775808 ≤ i) (h2 : i ≤ 9223372036854775807) : wrap64 i = i := by unfold wrap64; omega
theorem starts_s (s : ByteArray) (i : Int) (h : ByteArray) (hi : 0 ≤ i) (hi2 : i ≤ 100000) (hh : h.size ≤ 100000) : ∃ b, pontoonref04_starts.f s i h = some b ∧ (b = true → i + (h.size : Int) ≤ (s.size : Int)) := by
  unfold pontoonref04_starts.f
  rw [wr_in (by omega) (by omega)]
  by_cases c : i + (h.size : Int) ≤ (s.size : Int)
  · rw [if_pos c, if_pos hi, if_pos (by omega)]
    exact ⟨_, rfl, fun _ => c⟩
  · rw [if_neg c]
    exact ⟨_, rfl, fun e => by cases e⟩
theorem remark_s (s : ByteArray) (hs : s.size ≤ 2000) : ∀ (d k : Nat) (i j : Int), 0 ≤ i → i + d = s.size → d < k → ∃ r, pontoonref04_remark.l0 k s i j = some r ∧ (r = -1 ∨ i < r ∧ r ≤ s.size) := by
  intro d
  induction d using Nat.strongRecOn with
  | ind d ih =>
    intro k i j h0 hi hk
    obtain ⟨k, rfl⟩ : ∃ m, k = m + 1 := ⟨k - 1, by omega⟩
    simp only [pontoonref04_remark.l0]
    by_cases c : i < (s.size : Int)
    · rw [if_pos c]
      obtain ⟨b1, e1, p1⟩ := starts_s s i ⟨#[47, 42]⟩ h0 (by omega) (by decide)
      obtain ⟨b2, e2, p2⟩ := starts_s s i ⟨#[42, 47]⟩ h0 (by omega) (by decide)
      have z1 : ((⟨#[47, 42]⟩ : ByteArray).size : Int) = 2 := rfl
      have z2 : ((⟨#[42, 47]⟩ : ByteArray).size : Int) = 2 := rfl
      rw [e1, e2, Option.bind_some, Option.bind_some, wr_in (show -9223372036854775808 ≤ i + 2 by omega) (by omega), wr_in (show -9223372036854775808 ≤ i + 1 by omega) (by omega)]
      cases b1
      · rw [if_neg (by decide)]
        cases b2
        · rw [if_neg (by decide)]
          obtain ⟨r, er, pr⟩ := ih (d - 1) (by omega) k (i + 1) j (by omega) (by omega) (by omega)
          exact ⟨r, er, by omega⟩
        · have := p2 rfl
          rw [if_pos rfl]
          split
          · exact ⟨_, rfl, by omega⟩
          · obtain ⟨r, er, pr⟩ := ih (d - 2) (by omega) k (i + 2) (wrap64 (j - 1)) (by omega) (by omega) (by omega)
            exact ⟨r, er, by omega⟩
      · have := p1 rfl
        rw [if_pos rfl]
        obtain ⟨r, er, pr⟩ := ih (d - 2) (by omega) k (i + 2) (wrap64 (j + 1)) (by omega) (by omega) (by omega)
        exact ⟨r, er, by omega⟩
    · rw [if_neg c]
      exact ⟨_, rfl, .inl rfl⟩
theorem gapl_s (s : ByteArray) (hs : s.size ≤ 2000) (D : Nat) (G : ∀ (d k : Nat) (i : Int), d ≤ D → 0 ≤ i → i + d = s.size → 4 * d + 4 ≤ k → ∃ r b, pontoonref04_gap.l0 k s i = some (r, b) ∧ i ≤ r ∧ r ≤ s.size) : ∀ (d k : Nat) (i : Int), d ≤ D → 0 ≤ i → i + d = s.size → 4 * d + 5 ≤ k → ∃ r b, pontoonref04_gap.l1 k s i = some (r, b) ∧ i ≤ r ∧ r ≤ s.size := by
  intro d
  induction d with
  | zero =>
    intro k i hD h0 hi hk
    obtain ⟨k, rfl⟩ : ∃ m, k = m + 1 := ⟨k - 1, by omega⟩
    simp only [pontoonref04_gap.l1]
    rw [if_neg (by omega)]
    exact G 0 k i (by omega) h0 hi (by omega)
  | succ d ih =>
    intro k i hD h0 hi hk
    obtain ⟨k, rfl⟩ : ∃ m, k = m + 1 := ⟨k - 1, by omega⟩
    simp only [pontoonref04_gap.l1]
    rw [if_pos (by omega), if_pos h0, wr_in (by omega) (by omega)]
    split
    · exact G (d + 1) k i hD h0 hi (by omega)
    · obtain ⟨r, b, er, p1, p2⟩ := ih k (i + 1) (by omega) (by omega) (by omega) (by omega)
      exact ⟨r, b, er, by omega, p2⟩
theorem gap_s (s : ByteArray) (hs : s.size ≤ 2000) : ∀ (d k : Nat) (i : Int), 0 ≤ i → i + d = s.size → 4 * d + 4 ≤ k → ∃ r b, pontoonref04_gap.l0 k s i = some (r, b) ∧ i ≤ r ∧ r ≤ s.size := by
  intro d
  induction d using Nat.strongRecOn with
  | ind d ih =>
    intro k i h0 hi hk
    obtain ⟨k, rfl⟩ : ∃ m, k = m + 3 := ⟨k - 3, by omega⟩
    have hT : 0 < d → ∃ r b, pontoonref04_gap.j1 (k + 2) s i true = some (r, b) ∧ i ≤ r ∧ r ≤ s.size := by
      intro hd
      simp only [pontoonref04_gap.j1]
      rw [if_pos trivial, wr_in (by omega) (by omega)]
      obtain ⟨r, b, er, p1, p2⟩ := ih (d - 1) (by omega) (k + 1) (i + 1) (by omega) (by omega) (by omega)
      exact ⟨r, b, er, by omega, p2⟩
    have hF : 0 < d → bt s i ≠ 10 → ∃ r b, pontoonref04_gap.j1 (k + 2) s i false = some (r, b) ∧ i ≤ r ∧ r ≤ s.size := by
      intro hd hne
      obtain ⟨b1, e1, p1⟩ := starts_s s i ⟨#[45, 45]⟩ h0 (by omega) (by decide)
      obtain ⟨b2, e2, p2⟩ := starts_s s i ⟨#[47, 42]⟩ h0 (by omega) (by decide)
      simp only [pontoonref04_gap.j1]
      rw [if_neg (by decide), e1, e2, Option.bind_some, Option.bind_some]
      cases b1
      · rw [if_neg (by decide)]
        cases b2
        · rw [if_neg (by decide)]
          exact ⟨_, _, rfl, by omega, by omega⟩
        · rw [if_pos rfl]
          obtain ⟨r, er, pr⟩ := remark_s s hs d (k + 1) i 0 h0 hi (by omega)
          have er' : pontoonref04_remark.f (k + 1) s i = some r := er
          rw [er', Option.bind_some]
          split
          · exact ⟨_, _, rfl, by omega, by omega⟩
          · obtain ⟨r', b, er, p1, p2⟩ := ih (s.size - r.toNat) (by omega) (k + 1) r (by omega) (by omega) (by omega)
            exact ⟨r', b, er, by omega, p2⟩
      · rw [if_pos rfl, pontoonref04_gap.l1]
        rw [if_pos (by omega), if_pos h0, if_neg hne, wr_in (by omega) (by omega)]
        obtain ⟨r, b, er, p1, p2⟩ := gapl_s s hs (d - 1) (fun d' k' i' hd' => ih d' (by omega) k' i') (d - 1) k (i + 1) (Nat.le_refl _) (by omega) (by omega) (by omega)
        exact ⟨r, b, er, by omega, p2⟩
    rw [show k + 3 = (k + 2) + 1 from rfl, pontoonref04_gap.l0]
    by_cases c : i < (s.size : Int)
    · rw [if_pos c, if_pos h0]
      have hd : 0 < d := by omega
      by_cases h1 : bt s i = 32
      · rw [if_pos h1]; exact hT hd
      rw [if_neg h1]
      by_cases h2 : bt s i = 9
      · rw [if_pos h2]; exact hT hd
      rw [if_neg h2]
      by_cases h3 : bt s i = 10
      · rw [if_pos h3]; exact hT hd
      rw [if_neg h3]
      by_cases h4 : bt s i = 12
      · rw [if_pos h4]; exact hT hd
      rw [if_neg h4]
      cases bt s i == 13
      · exact hF hd h3
      · exact hT hd
    · rw [if_neg c]
      exact ⟨_, _, rfl, by omega, by omega⟩
theorem letter_s (a : Int) : ∃ b, pontoonref04_letter.f a = some b := by
  unfold pontoonref04_letter.f
  repeat' split
  all_goals exact ⟨_, rfl⟩
theorem digit_s (a : Int) : ∃ b, pontoonref04_digit.f a = some b := by
  unfold pontoonref04_digit.f
  split <;> exact ⟨_, rfl⟩
theorem row_s (s : ByteArray) (hs : s.size ≤ 2000) (t : Int) : ∀ (d k : Nat) (i : Int), 0 ≤ i → i + d = s.size → d < k → ∃ r, pontoonref04_row.l0 k s i t = some r ∧ i ≤ r ∧ r ≤ s.size ∧ ((pontoonref04_digit.f (bt s i) = some true ∨ t = 1 ∧ pontoonref04_letter.f (bt s i) = some true) → 0 < d → i < r) := by
  intro d
  induction d with
  | zero =>
    intro k i h0 hi hk
    obtain ⟨k, rfl⟩ : ∃ m, k = m + 1 := ⟨k - 1, by omega⟩
    simp only [pontoonref04_row.l0]
    rw [if_neg (by omega)]
    exact ⟨_, rfl, by omega, by omega, fun _ h => absurd h (by omega)⟩
  | succ d ih =>
    intro k i h0 hi hk
    obtain ⟨k, rfl⟩ : ∃ m, k = m + 1 := ⟨k - 1, by omega⟩
    simp only [pontoonref04_row.l0]
    obtain ⟨r, er, p1, p2, p3⟩ := ih k (i + 1) (by omega) (by omega) (by omega)
    obtain ⟨bd, ed⟩ := digit_s (bt s i)
    obtain ⟨bl, el⟩ := letter_s (bt s i)
    rw [if_pos (by omega), if_pos h0, wr_in (by omega) (by omega), er, ed, el, Option.bind_some, Option.bind_some]
    cases bd
    · rw [if_neg (by decide)]
      by_cases ht : t = 1
      · rw [if_pos ht]
        cases bl
        · rw [if_neg (by decide)]
          have hn : ¬ ((some false : Option Bool) = some true ∨ t = 1 ∧ (some false : Option Bool) = some true) := by simp
          split
          · exact ⟨_, rfl, by omega, p2, fun h => absurd h hn⟩
          · split
            · split
              · exact ⟨_, rfl, by omega, p2, fun h => absurd h hn⟩
              · exact ⟨_, rfl, by omega, by omega, fun h => absurd h hn⟩
            · exact ⟨_, rfl, by omega, by omega, fun h => absurd h hn⟩
        · rw [if_pos rfl]
          exact ⟨_, rfl, by omega, p2, fun _ _ => by omega⟩
      · rw [if_neg ht]
        have hn : ¬ ((some false : Option Bool) = some true ∨ t = 1 ∧ (some bl : Option Bool) = some true) := by simp [ht]
        split
        · split
          · exact ⟨_, rfl, by omega, p2, fun h => absurd h hn⟩
          · exact ⟨_, rfl, by omega, by omega, fun h => absurd h hn⟩
        · exact ⟨_, rfl, by omega, by omega, fun h => absurd h hn⟩
    · rw [if_pos rfl]
      exact ⟨_, rfl, by omega, p2, fun _ _ => by omega⟩
theorem ext1 (s : ByteArray) (i : Int) (h0 : 0 ≤ i) (h : i < s.size) : (s.extract i.toNat (i + 1).toNat).size = 1 := by
  simp only [ByteArray.size_extract]
  omega
theorem quoted_s (s : ByteArray) (hs : s.size ≤ 2000) (q : Int) : ∀ (d k : Nat) (acc : ByteArray) (i : Int), 0 ≤ i → i + d = s.size → d < k → acc.size ≤ i → ∃ t r, pontoonref04_quoted.l0 k s q acc i = some (t, r) ∧ (r < 0 ∨ i < r ∧ r ≤ s.size) := by
  intro d
  induction d using Nat.strongRecOn with
  | ind d ih =>
    intro k acc i h0 hi hk ha
    obtain ⟨k, rfl⟩ : ∃ m, k = m + 1 := ⟨k - 1, by omega⟩
    simp only [pontoonref04_quoted.l0]
    by_cases c : i < (s.size : Int)
    · have hx := ext1 s i h0 c
      rw [if_pos c, if_pos h0, wr_in (show -9223372036854775808 ≤ i + 1 by omega) (by omega), wr_in (show -9223372036854775808 ≤ i + 1 + 1 by omega) (by omega), if_pos (show i ≤ i + 1 by omega), if_pos (show i + 1 ≤ (s.size : Int) by omega), hx, if_pos (show acc.size + 1 ≤ 9223372036854775807 by omega)]
      have hz : (acc ++ s.extract i.toNat (i + 1).toNat).size = acc.size + 1 := by rw [ByteArray.size_append, hx]
      split
      · split
        · rw [if_pos (by omega)]
          split
          · obtain ⟨t, r, er, pr⟩ := ih (d - 2) (by omega) k _ (i + 1 + 1) (by omega) (by omega) (by omega) (by rw [hz]; omega)
            exact ⟨t, r, er, by omega⟩
          · exact ⟨_, _, rfl, by omega⟩
        · exact ⟨_, _, rfl, by omega⟩
      · obtain ⟨t, r, er, pr⟩ := ih (d - 1) (by omega) k _ (i + 1) (by omega) (by omega) (by omega) (by rw [hz]; omega)
        rw [if_pos (show i ≤ i + 1 by omega), if_pos (show i + 1 ≤ (s.size : Int) by omega), if_pos (show acc.size + 1 ≤ 9223372036854775807 by omega)]
        exact ⟨t, r, er, by omega⟩
    · rw [if_neg c]
      exact ⟨_, _, rfl, .inl (by decide)⟩
theorem tag_s (s : ByteArray) (hs : s.size ≤ 2000) (a : Int) : ∀ (d k : Nat) (i : Int), 0 ≤ i → i + d = s.size → d < k → ∃ r, pontoonref04_tag.l0 k s a i = some r ∧ (r = -1 ∨ i < r ∧ r ≤ s.size) := by
  intro d
  induction d with
  | zero =>
    intro k i h0 hi hk
    obtain ⟨k, rfl⟩ : ∃ m, k = m + 1 := ⟨k - 1, by omega⟩
    simp only [pontoonref04_tag.l0]
    rw [if_neg (by omega)]
    exact ⟨_, rfl, .inl rfl⟩
  | succ d ih =>
    intro k i h0 hi hk
    obtain ⟨k, rfl⟩ : ∃ m, k = m + 1 := ⟨k - 1, by omega⟩
    simp only [pontoonref04_tag.l0]
    obtain ⟨r, er, pr⟩ := ih k (i + 1) (by omega) (by omega) (by omega)
    obtain ⟨bd, ed⟩ := digit_s (bt s i)
    obtain ⟨bl, el⟩ := letter_s (bt s i)
    rw [if_pos (by omega), if_pos h0, wr_in (show -9223372036854775808 ≤ i + 1 by omega) (by omega), er, ed, el, Option.bind_some, Option.bind_some]
    repeat' split
    all_goals exact ⟨_, rfl, by omega⟩
theorem dollar_s (s : ByteArray) (hs : s.size ≤ 2000) (a b : Int) (ha : 0 ≤ a) (hab : a < b) (hb : b ≤ s.size) : ∀ (d k : Nat) (i : Int), b ≤ i → i + d = s.size → d + 1 < k → ∃ t r, pontoonref04_dollar.l0 k s a b i = some (t, r) ∧ (r < 0 ∨ a < r ∧ r ≤ s.size) := by
  have hz : (s.extract a.toNat b.toNat).size = (b - a).toNat := by simp only [ByteArray.size_extract]; omega
  intro d
  induction d with
  | zero =>
    intro k i h0 hi hk
    obtain ⟨k, rfl⟩ : ∃ m, k = m + 2 := ⟨k - 2, by omega⟩
    obtain ⟨b1, e1, p1⟩ := starts_s s i (s.extract a.toNat b.toNat) (by omega) (by omega) (by omega)
    rw [hz] at p1
    rw [show k + 2 = (k + 1) + 1 from rfl, pontoonref04_dollar.l0]
    rw [if_pos (by omega), if_pos ha, if_pos (by omega), if_pos hb, e1, Option.bind_some, if_pos (show 0 ≤ b by omega), if_pos (show b ≤ i by omega), wr_in (show -9223372036854775808 ≤ i + b by omega) (by omega), wr_in (show -9223372036854775808 ≤ i + b - a by omega) (by omega), wr_in (show -9223372036854775808 ≤ i + 1 by omega) (by omega)]
    cases b1
    · rw [if_neg (by decide), pontoonref04_dollar.l0, if_neg (by omega)]
      exact ⟨_, _, rfl, .inl (by decide)⟩
    · have := p1 rfl
      rw [if_pos rfl]
      exact ⟨_, _, rfl, by omega⟩
  | succ d ih =>
    intro k i h0 hi hk
    obtain ⟨k, rfl⟩ : ∃ m, k = m + 1 := ⟨k - 1, by omega⟩
    obtain ⟨b1, e1, p1⟩ := starts_s s i (s.extract a.toNat b.toNat) (by omega) (by omega) (by omega)
    rw [hz] at p1
    rw [pontoonref04_dollar.l0]
    rw [if_pos (by omega), if_pos ha, if_pos (by omega), if_pos hb, e1, Option.bind_some, if_pos (show 0 ≤ b by omega), if_pos (show b ≤ i by omega), wr_in (show -9223372036854775808 ≤ i + b by omega) (by omega), wr_in (show -9223372036854775808 ≤ i + b - a by omega) (by omega), wr_in (show -9223372036854775808 ≤ i + 1 by omega) (by omega)]
    cases b1
    · rw [if_neg (by decide)]
      exact ih k (i + 1) (by omega) (by omega) (by omega)
    · have := p1 rfl
      rw [if_pos rfl]
      exact ⟨_, _, rfl, by omega⟩
theorem small_size (s : ByteArray) : (smallF s).size = s.size := by
  unfold smallF
  show (List.toArray _).size = _
  rw [List.size_toArray, List.length_map, Array.length_toList]
  rfl
/-- What one token is: an error, or a token and the place behind it. -/
def OneOk (s : ByteArray) (i : Int) (o : Int × ByteArray × Int × Int × Int) : Prop := o.2.2.2.2 = 0 → i < o.2.2.2.1 ∧ o.2.2.2.1 ≤ s.size ∧ (o.1 = 1 → o.2.1.size ≤ s.size)
theorem one2_s (s : ByteArray) (hs : s.size ≤ 2000) (i c : Int) (x : Bool) (k : Nat) (h0 : 0 ≤ i) (hi : i < s.size) (hk : s.size + 2 < k) (hx : x = true → ∀ m r, s.size + 1 ≤ m → pontoonref04_row.f m s (i + 1) 0 = some r → i + 1 < r) : ∃ o, pontoonref04_one.j2 k s i c x = some o ∧ OneOk s i o := by
  obtain ⟨k, rfl⟩ : ∃ m, k = m + 1 := ⟨k - 1, by omega⟩
  simp only [pontoonref04_one.j2]
  rw [wr_in (show -9223372036854775808 ≤ i + 1 by omega) (by omega)]
  cases x
  · rw [if_neg (by decide)]
    unfold pontoonref04_sign.f
    rw [Option.bind_some, if_pos h0, if_pos (show i ≤ i + 1 by omega), if_pos (show i + 1 ≤ (s.size : Int) by omega)]
    split
    · exact ⟨_, rfl, fun _ => ⟨by show i < i + 1; omega, by show i + 1 ≤ _; omega, fun h => absurd h (by show ¬ (5 : Int) = 1; decide)⟩⟩
    · exact ⟨_, rfl, fun h => absurd h (by show ¬ (7 : Int) = 0; decide)⟩
  · rw [if_pos rfl]
    obtain ⟨r, er, p1, p2, _⟩ := row_s s hs 0 (s.size - (i + 1).toNat) k (i + 1) (by omega) (by omega) (by omega)
    have er' : pontoonref04_row.f k s (i + 1) 0 = some r := er
    have hgt := hx rfl k r (by omega) er'
    rw [er', Option.bind_some, if_pos h0, if_pos (show i ≤ r by omega), if_pos p2]
    exact ⟨_, rfl, fun _ => ⟨by show i < r; omega, p2, fun h => absurd h (by show ¬ (5 : Int) = 1; decide)⟩⟩
theorem leO_some {α : Type} {a b : Option α} {r : α} (h : LeO a b) (ha : a = some r) : b = some r := by
  exact h r ha
theorem one1_s (s : ByteArray) (hs : s.size ≤ 2000) (i c : Int) (x : Bool) (k : Nat) (h0 : 0 ≤ i) (hi : i < s.size) (hk : s.size + 4 < k) (hx : x = true → ∀ m r, s.size + 1 ≤ m → m + 1 ≤ k → pontoonref04_tag.f m s i = some r → 0 < r) : ∃ o, pontoonref04_one.j1 k s i c x = some o ∧ OneOk s i o := by
  obtain ⟨k, rfl⟩ : ∃ m, k = m + 1 := ⟨k - 1, by omega⟩
  simp only [pontoonref04_one.j1]
  rw [wr_in (show -9223372036854775808 ≤ i + 1 by omega) (by omega)]
  cases x
  · rw [if_neg (by decide)]
    split
    · obtain ⟨r, er, p1, p2, _⟩ := row_s s hs 0 (s.size - (i + 1).toNat) k (i + 1) (by omega) (by omega) (by omega)
      have er' : pontoonref04_row.f k s (i + 1) 0 = some r := er
      rw [er', Option.bind_some]
      refine one2_s s hs i c _ k h0 hi (by omega) ?_
      intro hd m r' hm hr'
      have hd := of_decide_eq_true hd
      obtain ⟨r2, er2, _⟩ := row_s s hs 0 (s.size - (i + 1).toNat) (s.size + 1) (i + 1) (by omega) (by omega) (by omega)
      have er2' : pontoonref04_row.f (s.size + 1) s (i + 1) 0 = some r2 := er2
      have up : ∀ j, pontoonref04_row.f (s.size + 1 + j) s (i + 1) 0 = some r2 := by
        intro j
        induction j with
        | zero => exact er2'
        | succ j ih => exact pontoonref04_row.mono _ _ _ _ _ ih
      have e1 := up (k - (s.size + 1))
      have e2 := up (m - (s.size + 1))
      rw [show s.size + 1 + (k - (s.size + 1)) = k by omega, er'] at e1
      rw [show s.size + 1 + (m - (s.size + 1)) = m by omega, hr'] at e2
      cases e1
      cases e2
      exact hd
    · exact one2_s s hs i c false k h0 hi (by omega) (fun h => by cases h)
  · rw [if_pos rfl]
    obtain ⟨r, er, pr⟩ := tag_s s hs i (s.size - (i + 1).toNat) k (i + 1) (by omega) (by omega) (by omega)
    have er' : pontoonref04_tag.f k s i = some r := by
      unfold pontoonref04_tag.f
      rw [wr_in (show -9223372036854775808 ≤ i + 1 by omega) (by omega)]
      exact er
    have hgt := hx rfl k r (by omega) (by omega) er'
    rw [er', Option.bind_some]
    obtain ⟨t, q, eq, pq⟩ := dollar_s s hs i r h0 (by omega) (by omega) (s.size - r.toNat) k r (by omega) (by omega) (by omega)
    have eq' : pontoonref04_dollar.f k s i r = some (t, q) := eq
    rw [eq', Option.bind_some]
    split
    · exact ⟨_, rfl, fun h => absurd h (by show ¬ (6 : Int) = 0; decide)⟩
    · rename_i hq
      have hq : ¬ q < 0 := hq
      exact ⟨_, rfl, fun _ => ⟨by show i < q; omega, by show q ≤ _; omega, fun h => absurd h (by show ¬ (3 : Int) = 1; decide)⟩⟩
theorem one0_s (s : ByteArray) (hs : s.size ≤ 2000) (i c : Int) (x : Bool) (k : Nat) (h0 : 0 ≤ i) (hi : i < s.size) (hk : s.size + 6 < k) : ∃ o, pontoonref04_one.j0 k s i c x = some o ∧ OneOk s i o := by
  obtain ⟨k, rfl⟩ : ∃ m, k = m + 1 := ⟨k - 1, by omega⟩
  simp only [pontoonref04_one.j0]
  cases x
  · rw [if_neg (by decide)]
    split
    · obtain ⟨r, er, pr⟩ := tag_s s hs i (s.size - (i + 1).toNat) k (i + 1) (by omega) (by omega) (by omega)
      have er' : pontoonref04_tag.f k s i = some r := by
        unfold pontoonref04_tag.f
        rw [wr_in (show -9223372036854775808 ≤ i + 1 by omega) (by omega)]
        exact er
      rw [er', Option.bind_some]
      refine one1_s s hs i c _ k h0 hi (by omega) ?_
      intro hd m r' hm hmk hr'
      have hd := of_decide_eq_true hd
      have up : ∀ j, pontoonref04_tag.f (m + j) s i = some r' := by
        intro j
        induction j with
        | zero => exact hr'
        | succ j ih => exact pontoonref04_tag.mono _ _ _ _ ih
      have e1 := up (k - m)
      rw [show m + (k - m) = k by omega, er'] at e1
      cases e1
      exact hd
    · exact one1_s s hs i c false k h0 hi (by omega) (fun h => by cases h)
  · rw [if_pos rfl]
    obtain ⟨t, r, er, pr⟩ := quoted_s s hs (bt s i) (s.size - (i + 1).toNat) k ⟨#[]⟩ (i + 1) (by omega) (by omega) (by omega) (by show ((0 : Nat) : Int) ≤ i + 1; omega)
    have er' : pontoonref04_quoted.f k s i = some (t, r) := by
      unfold pontoonref04_quoted.f
      rw [if_pos h0, if_pos hi, wr_in (show -9223372036854775808 ≤ i + 1 by omega) (by omega)]
      exact er
    rw [er', Option.bind_some]
    split
    · exact ⟨_, rfl, fun h => absurd h (by show ¬ (6 : Int) = 0; decide)⟩
    · rename_i hq
      have hq : ¬ r < 0 := hq
      split
      · exact ⟨_, rfl, fun _ => ⟨by show i < r; omega, by show r ≤ _; omega, fun h => absurd h (by show ¬ (2 : Int) = 1; decide)⟩⟩
      · exact ⟨_, rfl, fun _ => ⟨by show i < r; omega, by show r ≤ _; omega, fun h => absurd h (by show ¬ (3 : Int) = 1; decide)⟩⟩
theorem one_s (s : ByteArray) (hs : s.size ≤ 2000) (i : Int) (k : Nat) (h0 : 0 ≤ i) (hi : i < s.size) (hk : s.size + 6 < k) : ∃ o, pontoonref04_one.f k s i = some o ∧ OneOk s i o := by
  unfold pontoonref04_one.f
  rw [if_pos h0, if_pos hi]
  obtain ⟨bd, ed⟩ := digit_s (bt s i)
  obtain ⟨bl, el⟩ := letter_s (bt s i)
  rw [el, ed, Option.bind_some, Option.bind_some]
  cases bl
  · rw [if_neg (by decide)]
    cases bd
    · rw [if_neg (by decide)]
      split
      · exact one0_s s hs i _ true k h0 hi hk
      · exact one0_s s hs i _ _ k h0 hi hk
    · rw [if_pos rfl]
      obtain ⟨r, er, p1, p2, p3⟩ := row_s s hs 4 (s.size - i.toNat) k i h0 (by omega) (by omega)
      have er' : pontoonref04_row.f k s i 4 = some r := er
      have := p3 (.inl ed) (by omega)
      rw [er', Option.bind_some, if_pos p1, if_pos p2]
      exact ⟨_, rfl, fun _ => ⟨this, p2, fun h => absurd h (by show ¬ (4 : Int) = 1; decide)⟩⟩
  · rw [if_pos rfl]
    obtain ⟨r, er, p1, p2, p3⟩ := row_s s hs 1 (s.size - i.toNat) k i h0 (by omega) (by omega)
    have er' : pontoonref04_row.f k s i 1 = some r := er
    have := p3 (.inr ⟨rfl, el⟩) (by omega)
    have hz : (s.extract i.toNat r.toNat).size ≤ s.size := by simp only [ByteArray.size_extract]; omega
    rw [er', Option.bind_some, if_pos p1, if_pos p2]
    unfold pontoonref04_small.f
    rw [if_pos (by omega), Option.bind_some]
    exact ⟨_, rfl, fun _ => ⟨this, p2, fun _ => by show (smallF _).size ≤ _; rw [small_size]; exact hz⟩⟩
def TkOk (x : S33) : Prop := x.f0 = 1 → x.f1.size ≤ 2000
theorem scan_s (s : ByteArray) (hs : s.size ≤ 2000) : ∀ (d k : Nat) (acc : List S33) (i : Int) (b : Bool), 0 ≤ i → i + d = s.size → 2 * d + 4 * s.size + 20 ≤ k → acc.length ≤ i → (∀ x ∈ acc, TkOk x) → ∃ o, pontoonref04_Scan.l0 k s acc i b = some o ∧ o.1.length ≤ 2000 ∧ ∀ x ∈ o.1, TkOk x := by
  intro d
  induction d using Nat.strongRecOn with
  | ind d ih =>
    intro k acc i b h0 hi hk hn hok
    obtain ⟨k, rfl⟩ : ∃ m, k = m + 2 := ⟨k - 2, by omega⟩
    have hF : ∀ b, ∃ o, pontoonref04_Scan.j1 (k + 1) s acc i b false = some o ∧ o.1.length ≤ 2000 ∧ ∀ x ∈ o.1, TkOk x := by
      intro b
      simp only [pontoonref04_Scan.j1]
      rw [if_neg (by decide)]
      split
      · exact ⟨_, rfl, by show 0 ≤ 2000; omega, fun x hx => by cases hx⟩
      · exact ⟨_, rfl, by show acc.length ≤ 2000; omega, hok⟩
    rw [show k + 2 = (k + 1) + 1 from rfl, pontoonref04_Scan.l0]
    by_cases c : i < (s.size : Int)
    · rw [if_pos c]
      cases b
      · show ∃ o, pontoonref04_Scan.j1 (k + 1) s acc i false true = some o ∧ _
        simp only [pontoonref04_Scan.j1]
        rw [if_pos trivial]
        obtain ⟨o, eo, po⟩ := one_s s hs i k h0 c (by omega)
        rw [eo, Option.bind_some]
        by_cases he : o.2.2.2.2 = 0
        · obtain ⟨q1, q2, q3⟩ := po he
          rw [if_pos he, if_pos (by omega)]
          obtain ⟨r, b', er, g1, g2⟩ := gap_s s hs (s.size - o.2.2.2.1.toNat) k o.2.2.2.1 (by omega) (by omega) (by omega)
          have er' : pontoonref04_gap.f k s o.2.2.2.1 = some (r, b') := er
          rw [er', Option.bind_some]
          refine ih (s.size - r.toNat) (by omega) k _ r b' (by omega) (by omega) (by omega) (by rw [List.length_append]; show ((acc.length + 1 : Nat) : Int) ≤ r; omega) ?_
          intro x hx
          rcases List.mem_append.1 hx with hx | hx
          · exact hok x hx
          · rw [List.mem_singleton] at hx
            subst hx
            intro h1
            have := q3 h1
            show o.2.1.size ≤ 2000
            omega
        · rw [if_neg he]
          exact ⟨_, rfl, by show 0 ≤ 2000; omega, fun x hx => by cases hx⟩
      · exact hF true
    · rw [if_neg c]
      exact hF b
theorem tokens_s (s : ByteArray) (hs : s.size ≤ 2000) : ∃ L, pontoonlaw06_tokens.f 16000 s = some L ∧ L.length ≤ 2000 ∧ ∀ x ∈ L, TkOk x := by
  unfold pontoonlaw06_tokens.f pontoonref04_Scan.f
  rw [if_neg (by omega)]
  obtain ⟨r, b, er, g1, g2⟩ := gap_s s hs s.size 16000 0 (by omega) (by omega) (by omega)
  have er' : pontoonref04_gap.f 16000 s 0 = some (r, b) := er
  rw [er', Option.bind_some]
  obtain ⟨o, eo, p1, p2⟩ := scan_s s hs (s.size - r.toNat) 16000 [] r b (by omega) (by omega) (by omega) (by show ((0 : Nat) : Int) ≤ r; omega) (fun x hx => by cases hx)
  rw [eo, Option.bind_some]
  exact ⟨o.1, rfl, p1, p2⟩
end Go.Proofs.Ythfchnoebncpfaa
