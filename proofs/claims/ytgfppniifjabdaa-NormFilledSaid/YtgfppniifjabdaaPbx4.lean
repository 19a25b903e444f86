-- Written by a program of this session's (wip/ext/run.py) over the kit's print, with contracts of its own.
import Derived.Test.YtgfppniifjabdaaPbx0
import Derived.Test.YtgfppniifjabdaaPbx2
import Derived.Test.YtgfppniifjabdaaPbx3
namespace Go.Proofs.Ytgfppniifjabdaa.Pb
open Go Go.Proofs.Ytgfppniifjabdaa Go.RowKit Go.Proofs.YtgfppniifjabdaaW.PrintWords Go.Proofs.YtgfppniifjabdaaW.PrintLast Go.Proofs.YtgfppniifjabdaaW.PrintMore
attribute [local go_sem] max2_int min2_int max_two min_two max_three min_three max_four min_four   -- for this text's walks alone
set_option linter.unusedVariables false
set_option linter.unusedSimpArgs false

set_option linter.unusedSimpArgs false

theorem wrp {i : Int} (h : -9223372036854775808 ≤ i) (h2 : i ≤ 9223372036854775807) : wrap64 i = i := by unfold wrap64; omega
abbrev tl (s : ByteArray) : List UInt8 := s.data.toList
def ofL (l : List UInt8) : ByteArray := ⟨l.toArray⟩
theorem tl_len (s : ByteArray) : (tl s).length = s.size := by simp [tl]
theorem tl_ofL (l : List UInt8) : tl (ofL l) = l := by simp [tl, ofL]
theorem ofL_tl (s : ByteArray) : ofL (tl s) = s := by simp [tl, ofL]
theorem toL (s : ByteArray) : s.toList = tl s := ByteArray.toList_eq (bs := s)
theorem ofL_size (l : List UInt8) : (ofL l).size = l.length := by simp [ofL, ByteArray.size]
theorem tl_ext (s : ByteArray) (a b : Nat) : tl (s.extract a b) = ((tl s).take b).drop a := by
  unfold tl
  simp [ByteArray.data_extract, Array.toList_extract, List.extract, List.drop_take]
theorem tl_inj {a b : ByteArray} (h : tl a = tl b) : a = b := by rw [← ofL_tl a, h, ofL_tl]
theorem bt_i (s : ByteArray) (i : Nat) (h : i < s.size) : bt s (i : Int) = ((s[i].toNat : Nat) : Int) := by
  unfold bt
  simp [h]
theorem dropc (s : ByteArray) (i : Nat) (h : i < s.size) : (tl s).drop i = s[i] :: (tl s).drop (i + 1) := by
  have h' : i < (tl s).length := by rw [tl_len]; exact h
  rw [List.drop_eq_getElem_cons h']
  rfl
theorem u8_eq (a b : UInt8) : ((a.toNat : Int) = (b.toNat : Int)) ↔ a = b := by
  constructor
  · intro h
    exact UInt8.toNat_inj.1 (by omega)
  · intro h
    rw [h]
theorem letter_f (c : UInt8) : lexer_letter.f (c.toNat : Int) = some (letB c) := all_u8 (fun c => lexer_letter.f (c.toNat : Int) = some (letB c)) (by decide +kernel) c
theorem digit_f (c : UInt8) : lexer_digit.f (c.toNat : Int) = some (digB c) := all_u8 (fun c => lexer_digit.f (c.toNat : Int) = some (digB c)) (by decide +kernel) c
theorem begins_f (r h : ByteArray) : lexer_begins.f r h = some ((tl h).isPrefixOf (tl r)) := by
  unfold lexer_begins.f
  by_cases c : (r.size : Int) ≥ (h.size : Int)
  · rw [if_pos c, if_pos (by omega), if_pos (by omega), toL, toL, tl_ext, Int.toNat_natCast, List.drop_zero]
    congr 1
    cases hp : (tl h).isPrefixOf (tl r)
    · rw [beq_eq_false_iff_ne]
      intro e
      have : (tl h).isPrefixOf (tl r) = true := by
        rw [List.isPrefixOf_iff_prefix, ← e]
        exact List.take_prefix _ _
      rw [this] at hp
      cases hp
    · rw [beq_iff_eq]
      have := List.prefix_iff_eq_take.1 (List.isPrefixOf_iff_prefix.1 hp)
      rw [tl_len] at this
      exact this.symm
  · rw [if_neg c]
    cases hp : (tl h).isPrefixOf (tl r)
    · rfl
    · have := prefix_len hp
      rw [tl_len, tl_len] at this
      omega
theorem remL_cons (c : UInt8) (r : List UInt8) (d : Nat) : remL (c :: r) d = if [47, 42].isPrefixOf (c :: r) then (remL (r.drop 1) (d + 1)).map (· + 2) else if [42, 47].isPrefixOf (c :: r) then (if d = 1 then some 2 else (remL (r.drop 1) (d - 1)).map (· + 2)) else (remL r d).map (· + 1) := by
  conv => lhs; unfold remL
  split
  · rename_i h
    cases h
  · rename_i h
    cases h
    rfl
  · rename_i h
    cases h
    rfl
  · rename_i h1 h2 h
    cases h
    rw [if_neg, if_neg]
    · intro hp
      cases r with
      | nil => simp at hp
      | cons e m =>
        simp at hp
        exact h2 m hp.1.symm (by rw [hp.2])
    · intro hp
      cases r with
      | nil => simp at hp
      | cons e m =>
        simp at hp
        exact h1 m hp.1.symm (by rw [hp.2])
def negOr (i : Nat) : Option Nat → Int
  | some n => ((i + n : Nat) : Int)
  | none => -1
theorem remark_l (s : ByteArray) (hs : s.size ≤ 140737488351232) : ∀ (m k i d : Nat), i + m = s.size → m < k → d ≤ i → (1 ≤ d ∨ [47, 42].isPrefixOf ((tl s).drop i) = true) → lexer_remark.l0 k s (d : Int) (i : Int) = some (negOr i (remL ((tl s).drop i) d)) := by
  intro m
  induction m using Nat.strongRecOn with
  | ind m ih =>
    intro k i d hi hk hd hp
    obtain ⟨k, rfl⟩ : ∃ j, k = j + 1 := ⟨k - 1, by omega⟩
    simp only [lexer_remark.l0]
    by_cases c : i < s.size
    · rw [if_pos (by omega), if_pos (by omega), if_pos (by omega), begins_f, begins_f, Option.bind_some, Option.bind_some, tl_ext, Int.toNat_natCast, List.take_of_length_le (by rw [tl_len]; exact Nat.le_refl _)]
      have e1 : tl ⟨#[47, 42]⟩ = [47, 42] := rfl
      have e2 : tl ⟨#[42, 47]⟩ = [42, 47] := rfl
      rw [e1, e2, dropc s i c, remL_cons]
      have hd2 : ((tl s).drop (i + 1)).drop 1 = (tl s).drop (i + 2) := by rw [List.drop_drop]
      rw [hd2, wrp (show -9223372036854775808 ≤ (i : Int) + 1 by omega) (by omega), wrp (show -9223372036854775808 ≤ (i : Int) + 1 + 1 by omega) (by omega), wrp (show -9223372036854775808 ≤ (d : Int) + 1 by omega) (by omega), wrp (show -9223372036854775808 ≤ (d : Int) - 1 by omega) (by omega)]
      have mp : ∀ (o : Option Nat) (n : Nat), negOr (i + n) o = negOr i (o.map (· + n)) := by
        intro o n
        cases o with
        | none => rfl
        | some x => simp only [negOr, Option.map_some]; omega
      cases h1 : [47, 42].isPrefixOf (s[i] :: (tl s).drop (i + 1))
      · simp only [Bool.false_eq_true, if_false]
        have hd1 : 1 ≤ d := by
          rcases hp with hp | hp
          · exact hp
          · rw [dropc s i c, h1] at hp
            cases hp
        cases h2 : [42, 47].isPrefixOf (s[i] :: (tl s).drop (i + 1))
        · simp only [Bool.false_eq_true, if_false]
          rw [show ((i : Int) + 1) = ((i + 1 : Nat) : Int) by omega, ih (m - 1) (by omega) k (i + 1) d (by omega) (by omega) (by omega) (.inl hd1), mp]
        · have hl := prefix_len h2
          simp only [if_true]
          by_cases h3 : d = 1
          · rw [if_pos (by omega), if_pos h3]
            show _ = some ((i + 2 : Nat) : Int)
            congr 1
          · have h4 : i + 2 ≤ s.size := by
              simp only [List.length_cons, List.length_nil, List.length_drop, tl_len] at hl
              omega
            rw [if_neg (by omega), if_neg h3, show ((i : Int) + 1 + 1) = ((i + 2 : Nat) : Int) by omega, show ((d : Int) - 1) = ((d - 1 : Nat) : Int) by omega, ih (m - 2) (by omega) k (i + 2) (d - 1) (by omega) (by omega) (by omega) (.inl (by omega)), mp]
      · have hl := prefix_len h1
        have h4 : i + 2 ≤ s.size := by
          simp only [List.length_cons, List.length_nil, List.length_drop, tl_len] at hl
          omega
        simp only [if_true]
        rw [show ((i : Int) + 1 + 1) = ((i + 2 : Nat) : Int) by omega, show ((d : Int) + 1) = ((d + 1 : Nat) : Int) by omega, ih (m - 2) (by omega) k (i + 2) (d + 1) (by omega) (by omega) (by omega) (.inl (by omega)), mp]
    · rw [if_neg (by omega), List.drop_of_length_le (by rw [tl_len]; omega)]
      rfl
theorem remark_f (s : ByteArray) (hs : s.size ≤ 140737488351232) (hp : [47, 42].isPrefixOf (tl s) = true) : lexer_remark.f (s.size + 1) s = some (negOr 0 (remL (tl s) 0)) := by
  have := remark_l s hs s.size (s.size + 1) 0 0 (by omega) (by omega) (by omega) (.inr hp)
  rw [List.drop_zero] at this
  exact this
def numsL (l : List UInt8) : List Int := l.map fun b => (b.toNat : Int)
theorem str_numsL (l : List UInt8) : strOfNums (numsL l) = ofL l := by
  unfold strOfNums numsL ofL
  congr 2
  rw [List.map_map]
  conv => rhs; rw [← List.map_id l]
  apply List.map_congr_left
  intro b _
  simp
def quoO (acc : List UInt8) (i : Nat) : Option (List UInt8 × Nat) → ByteArray × Int
  | some o => (ofL (acc ++ o.1), ((i + o.2 : Nat) : Int))
  | none => (⟨#[]⟩, -1)
theorem quoted_l (s : ByteArray) (hs : s.size ≤ 140737488351232) (h0 : 0 < s.size) : ∀ (m k i : Nat) (acc : List UInt8), i + m = s.size → m < k → acc.length ≤ i → lexer_quoted.l0 k s (numsL acc) (i : Int) = some (quoO acc i (quoL s[0] ((tl s).drop i))) := by
  intro m
  induction m using Nat.strongRecOn with
  | ind m ih =>
    intro k i acc hi hk ha
    obtain ⟨k, rfl⟩ : ∃ j, k = j + 1 := ⟨k - 1, by omega⟩
    have hnl : (numsL acc).length = acc.length := by simp [numsL]
    have hap : ∀ b : UInt8, numsL acc ++ [(b.toNat : Int)] = numsL (acc ++ [b]) := by intro b; simp [numsL]
    have mp : ∀ (o : Option (List UInt8 × Nat)) (b : UInt8) (n : Nat), quoO (acc ++ [b]) (i + n) o = quoO acc i (o.map fun p => (b :: p.1, p.2 + n)) := by
      intro o b n
      cases o with
      | none => rfl
      | some x => simp [quoO]; omega
    simp only [lexer_quoted.l0]
    by_cases c : i < s.size
    · have hb0 : bt s 0 = ((s[0].toNat : Nat) : Int) := bt_i s 0 h0
      rw [if_pos (by omega), if_pos (by omega), if_pos (by omega), bt_i s i c, hb0, wrp (show -9223372036854775808 ≤ (i : Int) + 1 by omega) (by omega), wrp (show -9223372036854775808 ≤ (i : Int) + 1 + 1 by omega) (by omega), str_numsL, hnl, dropc s i c]
      by_cases hq : s[i] = s[0]
      · rw [if_pos ((u8_eq _ _).2 hq)]
        by_cases he : i + 1 = s.size
        · rw [if_pos (by omega), List.drop_of_length_le (by rw [tl_len]; omega)]
          unfold quoL
          rw [if_pos hq]
          simp [quoO]
        · have hlt : i + 1 < s.size := by omega
          rw [if_neg (by omega), if_pos (by omega), if_pos (by omega), show ((i : Int) + 1) = ((i + 1 : Nat) : Int) by omega, bt_i s (i + 1) hlt, dropc s (i + 1) hlt]
          unfold quoL
          rw [if_pos hq]
          by_cases hq2 : s[i + 1] = s[0]
          · rw [if_pos ((u8_eq _ _).2 hq2), if_pos hq2, if_pos (by omega), show (((i + 1 : Nat) : Int) + 1) = ((i + 2 : Nat) : Int) by omega, hap, ih (m - 2) (by omega) k (i + 2) _ (by omega) (by omega) (by simp; omega), mp, hq2]
          · rw [if_neg (fun e => hq2 ((u8_eq _ _).1 e)), if_neg hq2]
            simp [quoO]
      · rw [if_neg (fun e => hq ((u8_eq _ _).1 e)), if_pos (by omega), show ((i : Int) + 1) = ((i + 1 : Nat) : Int) by omega, hap, ih (m - 1) (by omega) k (i + 1) _ (by omega) (by omega) (by simp; omega), mp]
        cases hd : (tl s).drop (i + 1) with
        | nil =>
          unfold quoL
          rw [if_neg hq]
          rfl
        | cons e r =>
          conv => rhs; unfold quoL
          rw [if_neg hq]
    · rw [if_neg (by omega), List.drop_of_length_le (by rw [tl_len]; omega)]
      rfl
theorem quoted_f (s : ByteArray) (hs : s.size ≤ 140737488351232) (h0 : 0 < s.size) : lexer_quoted.f (s.size + 1) s = some (quoO [] 1 (quoL s[0] ((tl s).drop 1))) :=
  quoted_l s hs h0 (s.size - 1) (s.size + 1) 1 [] (by omega) (by omega) (by simp)
theorem dolL_short (T : List UInt8) : ∀ l : List UInt8, l.length < T.length → dolL T l = none
  | [], h => by
    unfold dolL
    rw [if_neg]
    intro hp
    have := prefix_len hp
    simp only [List.length_nil] at this h
    omega
  | c :: r, h => by
    unfold dolL
    rw [if_neg (fun hp => by have := prefix_len hp; omega), dolL_short T r (by simp at h; omega)]
    rfl
theorem dolL_take (T : List UInt8) : ∀ (l t : List UInt8) (m : Nat), dolL T l = some (t, m) → t = l.take t.length ∧ m = t.length + T.length ∧ t.length ≤ l.length
  | [], t, m, h => by
    unfold dolL at h
    split at h
    · cases h; simp
    · cases h
  | c :: r, t, m, h => by
    unfold dolL at h
    split at h
    · cases h; simp
    · obtain ⟨o, ho, he⟩ := Option.map_eq_some_iff.1 h
      cases he
      obtain ⟨h1, h2, h3⟩ := dolL_take T r o.1 o.2 ho
      refine ⟨?_, by simp; omega, by simp; omega⟩
      show c :: o.1 = _
      rw [List.length_cons, List.take_succ_cons, ← h1]
def dolO (s : ByteArray) (n i : Nat) : Option (List UInt8 × Nat) → ByteArray × Int
  | some o => (s.extract n (i + o.1.length), ((i + o.2 : Nat) : Int))
  | none => (⟨#[]⟩, -1)
theorem dollar_l (s : ByteArray) (hs : s.size ≤ 140737488351232) (n : Nat) (hn : 1 ≤ n) (hn2 : n ≤ s.size) : ∀ (m k i : Nat), i + m = s.size → m < k → n ≤ i → lexer_dollar.l0 k s (n : Int) (i : Int) = some (dolO s n i (dolL ((tl s).take n) ((tl s).drop i))) := by
  have hT : ((tl s).take n).length = n := by rw [List.length_take, tl_len]; omega
  intro m
  induction m with
  | zero =>
    intro k i hi hk hni
    obtain ⟨k, rfl⟩ : ∃ j, k = j + 1 := ⟨k - 1, by omega⟩
    simp only [lexer_dollar.l0]
    rw [wrp (by omega) (by omega), if_neg (by omega), dolL_short _ _ (by rw [hT, List.length_drop, tl_len]; omega)]
    rfl
  | succ m ih =>
    intro k i hi hk hni
    obtain ⟨k, rfl⟩ : ∃ j, k = j + 1 := ⟨k - 1, by omega⟩
    simp only [lexer_dollar.l0]
    rw [wrp (by omega) (by omega)]
    by_cases c : i + n ≤ s.size
    · rw [if_pos (by omega), if_pos (by omega), if_pos (by omega), if_pos (by omega), if_pos (by omega), toL, toL, tl_ext, tl_ext, List.drop_zero, if_pos (show (n : Int) ≤ i by omega), if_pos (show (i : Int) ≤ s.size by omega), show ((i : Int) + n).toNat = i + n by omega, Int.toNat_natCast, Int.toNat_natCast, dropc s i (by omega)]
      have hpx : ((tl s).take (i + n)).drop i = (tl s).take n ↔ ((tl s).take n).isPrefixOf (s[i] :: (tl s).drop (i + 1)) = true := by
        rw [← dropc s i (by omega), List.isPrefixOf_iff_prefix, List.prefix_iff_eq_take, hT, List.drop_take, show i + n - i = n by omega]
        exact eq_comm
      unfold dolL
      by_cases hp : ((tl s).take (i + n)).drop i = (tl s).take n
      · rw [if_pos hp, if_pos (hpx.1 hp)]
        simp only [dolO, hT, List.length_nil, Nat.add_zero]
        congr 1
      · rw [if_neg hp, if_neg (fun e => hp (hpx.2 e)), wrp (by omega) (by omega), show ((i : Int) + 1) = ((i + 1 : Nat) : Int) by omega, ih k (i + 1) (by omega) (by omega) (by omega)]
        cases dolL ((tl s).take n) ((tl s).drop (i + 1)) with
        | none => rfl
        | some o =>
          simp only [dolO, Option.map_some, List.length_cons]
          rw [show i + 1 + o.1.length = i + (o.1.length + 1) by omega, show i + 1 + o.2 = i + (o.2 + 1) by omega]
    · rw [if_neg (by omega), dolL_short _ _ (by rw [hT, List.length_drop, tl_len]; omega)]
      rfl
theorem dollar_f (s : ByteArray) (hs : s.size ≤ 140737488351232) (n : Nat) (hn : 1 ≤ n) (hn2 : n ≤ s.size) : lexer_dollar.f (s.size + 1) s (n : Int) = some (dolO s n n (dolL ((tl s).take n) ((tl s).drop n))) :=
  dollar_l s hs n hn hn2 (s.size - n) (s.size + 1) n (by omega) (by omega) (by omega)

theorem let_any (c : UInt8) (w : World) : Calls Try.prog 51 #[.int .i32 c.toNat] w fun e w' => e = .returned (.bool (letB c)) ∧ Below w.heap.size w w' := (lexer_letter.calls _ _ w (letter_f c)).mono fun _ _ ⟨e, d⟩ => ⟨e, d.below⟩
theorem dig_any (c : UInt8) (w : World) : Calls Try.prog 53 #[.int .i32 c.toNat] w fun e w' => e = .returned (.bool (digB c)) ∧ Below w.heap.size w w' := (lexer_digit.calls _ _ w (digit_f c)).mono fun _ _ ⟨e, d⟩ => ⟨e, d.below⟩
theorem tagc_any (c : UInt8) (w : World) : Calls Try.prog 60 #[.int .i32 c.toNat] w fun e w' => e = .returned (.bool (tagB c)) ∧ Below w.heap.size w w' := by
  have HB : Hid (Below w.heap.size w w) := Lib.hid (Below.refl _ _)
  unfold tagB
  have HL := Lib.hid (fun w => let_any c w)
  have HD := Lib.hid (fun w => dig_any c w)
  generalize letB c = a at *
  generalize digB c = b at *
  generalize (c.toNat : Int) = n at *
  go_enter Try.func60, Try.ntmps60
  cases a
  · repeat (first | go_values | go_skip | go_guarded | go_step | go_upon)
    (go_at_call 51; refine (HL.out _).mono ?_; rintro e w1 ⟨rfl, b1⟩; have HB1 := Lib.hid (HB.out.trans (b1.mono HB.out.size)); clear b1; dsimp only)
    repeat (first | go_values | go_skip | go_guarded | go_step | go_upon)
    (go_at_call 53; refine (HD.out _).mono ?_; rintro e w2 ⟨rfl, b2⟩; have HB2 := Lib.hid (HB1.out.trans (b2.mono HB1.out.size)); clear b2; dsimp only)
    repeat (first | go_values | go_skip | go_guarded | go_step | go_upon)
    go_ret
    exact ⟨rfl, HB2.out⟩
  · repeat (first | go_values | go_skip | go_guarded | go_step | go_upon)
    (go_at_call 51; refine (HL.out _).mono ?_; rintro e w1 ⟨rfl, b1⟩; have HB1 := Lib.hid (HB.out.trans (b1.mono HB.out.size)); clear b1; dsimp only)
    repeat (first | go_values | go_skip | go_guarded | go_step | go_upon)
    go_ret
    exact ⟨rfl, HB1.out⟩
theorem wordc_any (c : UInt8) (w : World) : Calls Try.prog 52 #[.int .i32 c.toNat] w fun e w' => e = .returned (.bool (wordB c)) ∧ Below w.heap.size w w' := by
  have HB : Hid (Below w.heap.size w w) := Lib.hid (Below.refl _ _)
  have hc : (c == 36) = ((c.toNat : Int) == 36) := all_u8 (fun c => (c == 36) = ((c.toNat : Int) == 36)) (by decide +kernel) c
  unfold wordB
  rw [hc]
  clear hc
  have HL := Lib.hid (fun w => let_any c w)
  have HD := Lib.hid (fun w => dig_any c w)
  generalize letB c = a at *
  generalize digB c = b at *
  generalize (c.toNat : Int) = n at *
  go_enter Try.func52, Try.ntmps52
  cases a
  · cases b
    · repeat (first | go_values | go_skip | go_guarded | go_step | go_upon)
      (go_at_call 51; refine (HL.out _).mono ?_; rintro e w1 ⟨rfl, b1⟩; have HB1 := Lib.hid (HB.out.trans (b1.mono HB.out.size)); clear b1; dsimp only)
      repeat (first | go_values | go_skip | go_guarded | go_step | go_upon)
      (go_at_call 53; refine (HD.out _).mono ?_; rintro e w2 ⟨rfl, b2⟩; have HB2 := Lib.hid (HB1.out.trans (b2.mono HB1.out.size)); clear b2; dsimp only)
      repeat (first | go_values | go_skip | go_guarded | go_step | go_upon)
      go_ret
      exact ⟨by simp, HB2.out⟩
    · repeat (first | go_values | go_skip | go_guarded | go_step | go_upon)
      (go_at_call 51; refine (HL.out _).mono ?_; rintro e w1 ⟨rfl, b1⟩; have HB1 := Lib.hid (HB.out.trans (b1.mono HB.out.size)); clear b1; dsimp only)
      repeat (first | go_values | go_skip | go_guarded | go_step | go_upon)
      (go_at_call 53; refine (HD.out _).mono ?_; rintro e w2 ⟨rfl, b2⟩; have HB2 := Lib.hid (HB1.out.trans (b2.mono HB1.out.size)); clear b2; dsimp only)
      repeat (first | go_values | go_skip | go_guarded | go_step | go_upon)
      go_ret
      exact ⟨by simp, HB2.out⟩
  · repeat (first | go_values | go_skip | go_guarded | go_step | go_upon)
    (go_at_call 51; refine (HL.out _).mono ?_; rintro e w1 ⟨rfl, b1⟩; have HB1 := Lib.hid (HB.out.trans (b1.mono HB.out.size)); clear b1; dsimp only)
    repeat (first | go_values | go_skip | go_guarded | go_step | go_upon)
    go_ret
    exact ⟨by simp, HB1.out⟩
theorem numc_any (c : UInt8) (w : World) : Calls Try.prog 55 #[.int .i32 c.toNat] w fun e w' => e = .returned (.bool (numB c)) ∧ Below w.heap.size w w' := by
  have HB : Hid (Below w.heap.size w w) := Lib.hid (Below.refl _ _)
  have hc : (c == 46) = ((c.toNat : Int) == 46) := all_u8 (fun c => (c == 46) = ((c.toNat : Int) == 46)) (by decide +kernel) c
  unfold numB
  rw [hc]
  clear hc
  have HD := Lib.hid (fun w => dig_any c w)
  generalize digB c = b at *
  generalize (c.toNat : Int) = n at *
  go_enter Try.func55, Try.ntmps55
  cases b
  · repeat (first | go_values | go_skip | go_guarded | go_step | go_upon)
    (go_at_call 53; refine (HD.out _).mono ?_; rintro e w2 ⟨rfl, b2⟩; have HB2 := Lib.hid (HB.out.trans (b2.mono HB.out.size)); clear b2; dsimp only)
    repeat (first | go_values | go_skip | go_guarded | go_step | go_upon)
    go_ret
    exact ⟨by simp, HB2.out⟩
  · repeat (first | go_values | go_skip | go_guarded | go_step | go_upon)
    (go_at_call 53; refine (HD.out _).mono ?_; rintro e w2 ⟨rfl, b2⟩; have HB2 := Lib.hid (HB.out.trans (b2.mono HB.out.size)); clear b2; dsimp only)
    repeat (first | go_values | go_skip | go_guarded | go_step | go_upon)
    go_ret
    exact ⟨by simp, HB2.out⟩
theorem linec_any (c : UInt8) (w : World) : Calls Try.prog 30 #[.int .i32 c.toNat] w fun e w' => e = .returned (.bool (c != 10)) ∧ Below w.heap.size w w' := by
  have hc : (c != 10) = ((c.toNat : Int) != 10) := all_u8 (fun c => (c != 10) = ((c.toNat : Int) != 10)) (by decide +kernel) c
  rw [hc]
  generalize (c.toNat : Int) = n at *
  go_enter Try.func30, Try.ntmps30
  repeat (first | go_values | go_skip | go_guarded | go_step | go_upon)
  go_ret
  exact ⟨by simp, Below.refl _ _⟩
abbrev RunC (F : Nat) (p : UInt8 → Bool) : Prop := ∀ (s : ByteArray) (_ : s.size ≤ 140737488351232) (w : World), Calls Try.prog 29 #[.string s, .func (.func F) #[] #[]] w fun e w' => e = .returned (.int .i64 (runL p (tl s))) ∧ Below w.heap.size w w'
theorem run_tag : RunC 60 tagB := run_any _ _ tagc_any (fun _ _ => rfl)
theorem run_word : RunC 52 wordB := run_any _ _ wordc_any (fun _ _ => rfl)
theorem run_num : RunC 55 numB := run_any _ _ numc_any (fun _ _ => rfl)
theorem run_dig : RunC 53 digB := run_any _ _ dig_any (fun _ _ => rfl)
theorem run_line : RunC 30 (fun c => c != 10) := run_any _ _ linec_any (fun _ _ => rfl)

def orNeg : Option Nat → Int
  | some n => n
  | none => -1
def tagV (s : ByteArray) : Int := orNeg (tagL ((tl s).drop 1))
theorem tl_drop (s : ByteArray) (k : Nat) : tl (s.extract k s.size) = (tl s).drop k := by
  rw [tl_ext, List.take_of_length_le (by rw [tl_len]; exact Nat.le_refl _)]
theorem ext_le (s : ByteArray) (a b : Nat) : (s.extract a b).size ≤ s.size := by
  simp only [ByteArray.size_extract]
  omega
theorem tagV_short (s : ByteArray) (h : s.size ≤ 1) : tagV s = -1 := by
  unfold tagV
  rw [List.drop_of_length_le (by rw [tl_len]; exact h)]
  rfl
theorem tagN_at (s : ByteArray) (h : 1 < s.size) : tagN ((tl s).drop 1) = if letB s[1] then runL tagB ((tl s).drop 1) else 0 := by
  rw [dropc s 1 h]
  rfl
theorem tagV_at (s : ByteArray) (n : Nat) (hn : tagN ((tl s).drop 1) = n) : tagV s = if h : n + 1 < s.size then (if s[n + 1] = 36 then ((n + 2 : Nat) : Int) else -1) else -1 := by
  unfold tagV tagL
  rw [hn, List.getElem?_drop]
  by_cases h : n + 1 < s.size
  · rw [dif_pos h]
    have e : (tl s)[1 + n]? = some s[n + 1] := by
      rw [Nat.add_comm 1 n, List.getElem?_eq_getElem (by rw [tl_len]; exact h)]
      rfl
    rw [e]
    by_cases h36 : s[n + 1] = 36
    · rw [if_pos h36, if_pos (by rw [h36])]
      rfl
    · rw [if_neg h36, if_neg (by intro e; exact h36 (Option.some.inj e))]
      rfl
  · rw [dif_neg h, List.getElem?_eq_none (by rw [tl_len]; omega), if_neg (by simp)]
    rfl
theorem bt36 (c : UInt8) : c = 36 ↔ (c.toNat : Int) = 36 := by
  constructor
  · rintro rfl
    rfl
  · intro h
    exact UInt8.toNat_inj.1 (by show c.toNat = 36; omega)
set_option maxHeartbeats 1000000 in
theorem tag_any (s : ByteArray) (hs : s.size ≤ 140737488351232) (h0 : 0 < s.size) (w : World) : Calls Try.prog 57 #[.string s] w fun e w' => e = .returned (.int .i64 (tagV s)) ∧ Below w.heap.size w w' := by
  have HB : Hid (Below w.heap.size w w) := Lib.hid (Below.refl _ _)
  by_cases h1 : 1 < s.size
  · have HL := Lib.hid (fun w => let_any (s[1]'h1) w)
    have hN := tagN_at s h1
    have hb := (s[1]'h1).toNat_lt
    cases hl : letB (s[1]'h1) with
    | false =>
      rw [hl, if_neg (by decide)] at hN
      have hV := tagV_at s 0 hN
      rw [dif_pos h1] at hV
      by_cases h36 : s[1]'h1 = 36
      · have HV : Hid (tagV s = 2) := Lib.hid (by rw [hV, if_pos h36]; rfl)
        have hc : (((s[1]'h1).toNat : Int) == 36) = true := by rw [beq_iff_eq]; exact (bt36 _).1 h36
        clear hV hN h36
        rw [hl] at HL
        clear hl
        go_enter Try.func57, Try.ntmps57
        repeat (first | go_values | go_skip | go_guarded | go_step | go_upon)
        (go_at_call 51; refine (HL.out _).mono ?_; rintro e w1 ⟨rfl, b1⟩; have HB1 := Lib.hid (HB.out.trans (b1.mono HB.out.size)); clear b1; dsimp only)
        repeat (first | go_values | go_skip | go_guarded | go_step | go_upon)
        go_ret
        exact ⟨by rw [HV.out]; rfl, HB1.out⟩
      · have HV : Hid (tagV s = -1) := Lib.hid (by rw [hV, if_neg h36])
        have hc : (((s[1]'h1).toNat : Int) == 36) = false := by rw [beq_eq_false_iff_ne]; exact fun e => h36 ((bt36 _).2 e)
        clear hV hN h36
        rw [hl] at HL
        clear hl
        go_enter Try.func57, Try.ntmps57
        repeat (first | go_values | go_skip | go_guarded | go_step | go_upon)
        (go_at_call 51; refine (HL.out _).mono ?_; rintro e w1 ⟨rfl, b1⟩; have HB1 := Lib.hid (HB.out.trans (b1.mono HB.out.size)); clear b1; dsimp only)
        repeat (first | go_values | go_skip | go_guarded | go_step | go_upon)
        go_ret
        exact ⟨by rw [HV.out]; rfl, HB1.out⟩
    | true =>
      rw [hl, if_pos rfl] at hN
      have HR := Lib.hid (fun w => run_tag (s.extract 1 s.size) (Nat.le_trans (ext_le _ _ _) hs) w)
      have hle := runL_le tagB ((tl s).drop 1)
      rw [List.length_drop, tl_len] at hle
      rw [tl_drop] at HR
      generalize runL tagB ((tl s).drop 1) = n at *
      have hV := tagV_at s n hN
      clear hN
      rw [hl] at HL
      clear hl
      obtain ⟨i, hi⟩ : ∃ i : Int, i = 1 + (n : Int) := ⟨_, rfl⟩
      by_cases hn : n + 1 < s.size
      · rw [dif_pos hn] at hV
        have hx : ∀ h : (1 + (n : Int)).toNat < s.size, (((s[(1 + (n : Int)).toNat]'h).toNat : Nat) : Int) = ((s[n + 1]'hn).toNat : Int) := by
          intro h
          congr 3
          omega
        have hb2 := (s[n + 1]'hn).toNat_lt
        have p0 : (0 : Int) ≤ 1 + (n : Int) := by omega
        have p1 : 1 + (n : Int) < (s.size : Int) := by omega
        by_cases h36 : s[n + 1]'hn = 36
        · have HV : Hid (tagV s = (1 + (n : Int)) + 1) := Lib.hid (by rw [hV, if_pos h36]; omega)
          have hc : (((s[n + 1]'hn).toNat : Int) == 36) = true := by rw [beq_iff_eq]; exact (bt36 _).1 h36
          clear hV h36 hi hle
          go_enter Try.func57, Try.ntmps57
          repeat (first | go_values | go_skip | go_guarded | go_step | go_upon)
          (go_at_call 51; refine (HL.out _).mono ?_; rintro e w1 ⟨rfl, b1⟩; have HB1 := Lib.hid (HB.out.trans (b1.mono HB.out.size)); clear b1; dsimp only)
          repeat (first | go_values | go_skip | go_guarded | go_step | go_upon)
          (go_at_call 29; refine (HR.out _).mono ?_; rintro e w2 ⟨rfl, b1⟩; have HB2 := Lib.hid (HB1.out.trans (b1.mono HB1.out.size)); clear b1; dsimp only)
          repeat (first | go_values | go_skip | go_guarded | go_step | go_upon)
          go_ret
          exact ⟨by rw [HV.out]; rfl, HB2.out⟩
        · have HV : Hid (tagV s = -1) := Lib.hid (by rw [hV, if_neg h36])
          have hc : (((s[n + 1]'hn).toNat : Int) == 36) = false := by rw [beq_eq_false_iff_ne]; exact fun e => h36 ((bt36 _).2 e)
          clear hV h36 hi hle
          go_enter Try.func57, Try.ntmps57
          repeat (first | go_values | go_skip | go_guarded | go_step | go_upon)
          (go_at_call 51; refine (HL.out _).mono ?_; rintro e w1 ⟨rfl, b1⟩; have HB1 := Lib.hid (HB.out.trans (b1.mono HB.out.size)); clear b1; dsimp only)
          repeat (first | go_values | go_skip | go_guarded | go_step | go_upon)
          (go_at_call 29; refine (HR.out _).mono ?_; rintro e w2 ⟨rfl, b1⟩; have HB2 := Lib.hid (HB1.out.trans (b1.mono HB1.out.size)); clear b1; dsimp only)
          repeat (first | go_values | go_skip | go_guarded | go_step | go_upon)
          go_ret
          exact ⟨by rw [HV.out]; rfl, HB2.out⟩
      · rw [dif_neg hn] at hV
        have HV := Lib.hid hV
        have hnn : ¬ (1 + (n : Int) < (s.size : Int)) := by omega
        clear hV hi
        go_enter Try.func57, Try.ntmps57
        repeat (first | go_values | go_skip | go_guarded | go_step | go_upon)
        (go_at_call 51; refine (HL.out _).mono ?_; rintro e w1 ⟨rfl, b1⟩; have HB1 := Lib.hid (HB.out.trans (b1.mono HB.out.size)); clear b1; dsimp only)
        repeat (first | go_values | go_skip | go_guarded | go_step | go_upon)
        (go_at_call 29; refine (HR.out _).mono ?_; rintro e w2 ⟨rfl, b1⟩; have HB2 := Lib.hid (HB1.out.trans (b1.mono HB1.out.size)); clear b1; dsimp only)
        repeat (first | go_values | go_skip | go_guarded | go_step | go_upon)
        go_ret
        exact ⟨by rw [HV.out]; rfl, HB2.out⟩
  · have HV := Lib.hid (tagV_short s (by omega))
    have h1' : ¬ (1 : Int) < (s.size : Int) := by omega
    go_enter Try.func57, Try.ntmps57
    repeat (first | go_values | go_skip | go_guarded | go_step | go_upon)
    go_ret
    exact ⟨by rw [HV.out]; rfl, HB.out⟩

def signT : ByteArray := ⟨#[40, 41, 44, 59, 46, 61, 60, 62, 43, 45, 42, 47, 37, 38, 124, 94, 126, 33, 64, 35, 63, 58, 91, 93]⟩
theorem signT_at (k : Nat) (h : k < signT.size) : signs.drop k = signT[k] :: signs.drop (k + 1) := dropc signT k h
theorem signT_low (k : Nat) (h : k < signT.size) : (signT[k]).toNat < 128 := by
  have hl : ∀ b ∈ signs, b.toNat < 128 := by decide
  have hm : signT[k] ∈ signs.drop k := by rw [signT_at k h]; exact List.mem_cons_self
  exact hl _ (List.mem_of_mem_drop hm)
theorem below_iter (w : World) (s : ByteArray) (p : Nat) : Below w.heap.size w (w.iter s p) := (Below.refl _ _).alloc (Nat.le_refl _) _
set_option maxHeartbeats 1000000 in
theorem sgn_any (s : ByteArray) (hs : s.size ≤ 140737488351232) (h0 : 0 < s.size) (w : World) : Calls Try.prog 59 #[.string s] w fun e w' => e = .returned (.int .i64 (if s[0] = 36 then (if runL digB ((tl s).drop 1) = 0 then 0 else ((runL digB ((tl s).drop 1) + 1 : Nat) : Int)) else if signB s[0] then 1 else 0)) ∧ Below w.heap.size w w' := by
  have HB : Hid (Below w.heap.size w w) := Lib.hid (Below.refl _ _)
  have hb := (s[0]'h0).toNat_lt
  by_cases h36 : s[0]'h0 = 36
  · have hc : (((s[0]'h0).toNat : Int) == 36) = true := by rw [beq_iff_eq]; exact (bt36 _).1 h36
    have h1 : (1 : Int) ≤ s.size := by omega
    have HR := Lib.hid (fun w => run_dig (s.extract 1 s.size) (Nat.le_trans (ext_le _ _ _) hs) w)
    have hle := runL_le digB ((tl s).drop 1)
    rw [List.length_drop, tl_len] at hle
    rw [tl_drop] at HR
    simp only [if_pos h36]
    clear h36
    generalize runL digB ((tl s).drop 1) = n at *
    by_cases hn : n = 0
    · subst hn
      go_enter Try.func59, Try.ntmps59
      repeat (first | go_values | go_skip | go_guarded | go_step | go_upon)
      (go_at_call 29; refine (HR.out _).mono ?_; rintro e w2 ⟨rfl, b1⟩; have HB2 := Lib.hid (HB.out.trans (b1.mono HB.out.size)); clear b1; dsimp only)
      repeat (first | go_values | go_skip | go_guarded | go_step | go_upon)
      go_ret
      exact ⟨rfl, HB2.out⟩
    · have hn1 : (0 : Int) < (n : Int) := by omega
      rw [if_neg hn]
      go_enter Try.func59, Try.ntmps59
      repeat (first | go_values | go_skip | go_guarded | go_step | go_upon)
      (go_at_call 29; refine (HR.out _).mono ?_; rintro e w2 ⟨rfl, b1⟩; have HB2 := Lib.hid (HB.out.trans (b1.mono HB.out.size)); clear b1; dsimp only)
      repeat (first | go_values | go_skip | go_guarded | go_step | go_upon)
      go_ret
      exact ⟨rfl, HB2.out⟩
  · have hc : (((s[0]'h0).toNat : Int) == 36) = false := by rw [beq_eq_false_iff_ne]; exact fun e => h36 ((bt36 _).2 e)
    simp only [if_neg h36]
    clear h36
    obtain ⟨c, hcc⟩ : ∃ c, c = s[0]'h0 := ⟨_, rfl⟩
    have HCC := Lib.hid hcc
    rw [← hcc]
    obtain ⟨r, hr⟩ : ∃ r : Int, r = if signB c then 1 else 0 := ⟨_, rfl⟩
    rw [← hr]
    have HRR := Lib.hid hr
    clear hr hcc
    go_enter Try.func59, Try.ntmps59
    repeat (first | go_values | go_skip | go_guarded | go_step | go_upon)
    have e : (⟨#[40, 41, 44, 59, 46, 61, 60, 62, 43, 45, 42, 47, 37, 38, 124, 94, 126, 33, 64, 35, 63, 58, 91, 93]⟩ : ByteArray) = signT := rfl
    rw [e]
    clear e
    obtain ⟨S, hS⟩ : ∃ S, S = signT := ⟨_, rfl⟩
    rw [← hS]
    have HS := Lib.hid hS
    clear hS
    go_loopw [2] (fun n wr => n = .int .i64 0 ∧ ∃ k : Nat, wr = w.iter S k ∧ k ≤ 24 ∧ Hid ((signs.drop k).contains c = signB c)) (fun _ wr => 24 - wr.iterPos w.heap.size)
    case atStart => exact ⟨rfl, 0, rfl, Nat.zero_le _, Lib.hid rfl⟩
    case round =>
      obtain ⟨rfl, k, rfl, hk, H⟩ := hrel
      by_cases hlt : k < 24
      · have hz : S.size = 24 := by rw [HS.out]; rfl
        have hlS : k < S.size := by omega
        have hlow : (S[k]'hlS).toNat < 128 := by
          have h := HS.out
          subst h
          exact signT_low k hlS
        have hat : Hid (signs.drop k = S[k]'hlS :: signs.drop (k + 1)) := Lib.hid (by
          have h := HS.out
          subst h
          exact signT_at k hlS)
        have hnx : ∀ ty, (Instr.next (.pointer (some ⟨w.heap.size, 0, none⟩)) true ty).run Try.prog (w.iter S k) = _ := fun ty => run_next_ascii w S k ty hlS hlow
        by_cases hq : S[k]'hlS = c
        · have hcq : ((c.toNat : Int) == ((S[k]'hlS).toNat : Int)) = true := by rw [beq_iff_eq, hq]
          have HF : Hid (r = 1) := Lib.hid (by
            rw [HRR.out, if_pos]
            rw [← H.out, hat.out, hq]
            simp)
          clear hq
          rw [HCC.out] at hcq
          go_wp2_with fail
          go_ret
          exact ⟨by rw [HF.out]; rfl, below_iter _ _ _⟩
        · have hcq : ((c.toNat : Int) == ((S[k]'hlS).toNat : Int)) = false := by
            rw [beq_eq_false_iff_ne]
            exact fun e => hq ((u8_eq _ _).1 e.symm)
          have HF : Hid ((signs.drop (k + 1)).contains c = signB c) := Lib.hid (by
            rw [← H.out, hat.out, List.contains_cons]
            have : (c == S[k]'hlS) = false := by rw [beq_eq_false_iff_ne]; exact fun e => hq e.symm
            rw [this]
            rfl)
          clear hq
          rw [HCC.out] at hcq
          go_wp2_with fail
          go_roundw
          case rel => exact ⟨rfl, k + 1, rfl, hlt, HF⟩
          case measure => simp; omega
      · have hz : S.size = 24 := by rw [HS.out]; rfl
        have hge : ¬ k < S.size := by omega
        have hnx : ∀ ty, (Instr.next (.pointer (some ⟨w.heap.size, 0, none⟩)) true ty).run Try.prog (w.iter S k) = _ := fun ty => run_next_end w S k ty hge
        have HF : Hid (r = 0) := Lib.hid (by
          rw [HRR.out, if_neg]
          rw [← H.out, show k = 24 by omega]
          show ¬ (List.contains [] c = true)
          simp)
        go_wp2_with fail
        go_ret
        exact ⟨by rw [HF.out]; rfl, below_iter _ _ _⟩
set_option linter.unusedVariables false

theorem small_lex (s : ByteArray) (hs : s.size ≤ 140737488351232) (w : World) : Calls Try.prog 54 #[.string s] w fun e w' => e = .returned (.string (smallF s)) ∧ Below w.heap.size w w' := lsmall_any s w hs
set_option maxHeartbeats 2000000 in
theorem onew_word (s : ByteArray) (hs : s.size ≤ 140737488351232) (h0 : 0 < s.size) (hl : letB s[0] = true) (w : World) : Calls Try.prog 32 #[.string s] w fun e w' => e = .returned (.tuple #[.agg #[.int .i64 1, .string (smallF (s.extract 0 (runL wordB (tl s)))), .int .i64 0], .int .i64 (runL wordB (tl s) : Nat)]) ∧ Below w.heap.size w w' := by
  have hu30 := Try.underlying35
  have hb0 := (s[0]'h0).toNat_lt
  have HL := Lib.hid (fun w => let_any (s[0]'h0) w)
  rw [hl] at HL
  clear hl
  have HR := Lib.hid (fun w => run_word s hs w)
  have hle := runL_le wordB (tl s)
  rw [tl_len] at hle
  generalize runL wordB (tl s) = n at *
  have hn0 : (0 : Int) ≤ (n : Int) := by omega
  have hn1 : (n : Int) ≤ (s.size : Int) := by omega
  have HS := Lib.hid (fun w => small_lex (s.extract 0 n) (Nat.le_trans (ext_le _ _ _) hs) w)
  clear hle
  obtain ⟨g, hg⟩ : ∃ g, w.heap.size = g := ⟨_, rfl⟩
  have HG := Lib.hid hg
  have BK0 : Hid ((w.alloc (.cells #[.int .i64 0, .string (⟨#[]⟩ : ByteArray), .int .i64 0] 35)).heap[g]? = some (.cells #[.int .i64 0, .string (⟨#[]⟩ : ByteArray), .int .i64 0] 35 (0, 0))) := Lib.hid (by rw [← hg]; exact blk_new w _)
  have HB0 : Hid (Below g w (w.alloc (.cells #[.int .i64 0, .string (⟨#[]⟩ : ByteArray), .int .i64 0] 35))) := Lib.hid (by rw [← hg]; exact below_alloc (Below.refl _ _) _)
  clear hg
  go_enter Try.func32, Try.ntmps32
  repeat (first | go_values | go_skip | go_guarded | go_step | go_upon)
  rw [HG.out]
  generalize (w.alloc (.cells #[.int .i64 0, .string (⟨#[]⟩ : ByteArray), .int .i64 0] 35)) = W0 at *
  (go_at_call 51; refine (HL.out _).mono ?_; rintro e W1 ⟨rfl, b1⟩; have BK1 := Lib.hid (blk_below BK0.out b1); have HB1 := Lib.hid (HB0.out.trans (b1.mono (by have := blk_lt BK0.out; omega))); clear b1 BK0 HB0; dsimp only)
  repeat (first | go_values | go_skip | go_guarded | go_step | go_upon)
  (go_at_call 29; refine (HR.out _).mono ?_; rintro e W2 ⟨rfl, b1⟩; have BK2 := Lib.hid (blk_below BK1.out b1); have HB2 := Lib.hid (HB1.out.trans (b1.mono (by have := blk_lt BK1.out; omega))); clear b1 BK1 HB1; dsimp only)
  repeat (first | go_values | go_skip | go_guarded | go_step | go_upon)
  (go_at_call 54; refine (HS.out _).mono ?_; rintro e W3 ⟨rfl, b1⟩; have BK3 := Lib.hid (blk_below BK2.out b1); have HB3 := Lib.hid (HB2.out.trans (b1.mono (by have := blk_lt BK2.out; omega))); clear b1 BK2 HB2; dsimp only)
  have hz0 : W3.cell? ⟨g, 0, none⟩ = some (.int .i64 0) := (blk_cell BK3.out 0).trans rfl
  have hz1 : W3.cell? ⟨g, 1, none⟩ = some (.string (⟨#[]⟩ : ByteArray)) := (blk_cell BK3.out 1).trans rfl
  have hz2 : W3.cell? ⟨g, 2, none⟩ = some (.int .i64 0) := (blk_cell BK3.out 2).trans rfl
  have hf0 := blk_frozen BK3.out 0
  have hf1 := blk_frozen BK3.out 1
  have hf2 := blk_frozen BK3.out 2
  repeat (first | go_values | go_skip | go_guarded | go_step | go_upon)
  refine bodyPost_ret (results_ct rfl _ _ g 35 #[.int .i64 1, .string (smallF (s.extract 0 n)), .int .i64 0] (0, 0) _ rfl (blk_put (cs := #[.int .i64 1, .string (smallF (s.extract 0 n)), .int .i64 0]) (blk_put (cs := #[.int .i64 1, .string (⟨#[]⟩ : ByteArray), .int .i64 0]) (blk_put (cs := #[.int .i64 0, .string (⟨#[]⟩ : ByteArray), .int .i64 0]) BK3.out 0 _ rfl) 1 _ rfl) 2 _ rfl) Try.underlying35 rfl (by kernel_rfl)) rfl ?_
  exact ⟨rfl, by rw [HG.out]; exact ((HB3.out.setCell (Nat.le_refl _) _).setCell (Nat.le_refl _) _).setCell (Nat.le_refl _) _⟩
set_option maxHeartbeats 2000000 in
theorem onew_num (s : ByteArray) (hs : s.size ≤ 140737488351232) (h0 : 0 < s.size) (hl : letB s[0] = false) (hd : digB s[0] = true)  (w : World) : Calls Try.prog 32 #[.string s] w fun e w' => e = .returned (.tuple #[.agg #[.int .i64 4, .string (s.extract 0 (runL numB (tl s))), .int .i64 0], .int .i64 (runL numB (tl s) : Nat)]) ∧ Below w.heap.size w w' := by
  have hu30 := Try.underlying35
  have hb0 := (s[0]'h0).toNat_lt
  have HL := Lib.hid (fun w => let_any (s[0]'h0) w)
  rw [hl] at HL
  clear hl
  have HD := Lib.hid (fun w => dig_any (s[0]'h0) w)
  rw [hd] at HD
  clear hd
  have HR := Lib.hid (fun w => run_num s hs w)
  have hle := runL_le numB (tl s)
  rw [tl_len] at hle
  generalize runL numB (tl s) = n at *
  have hn0 : (0 : Int) ≤ (n : Int) := by omega
  have hn1 : (n : Int) ≤ (s.size : Int) := by omega
  clear hle
  obtain ⟨g, hg⟩ : ∃ g, w.heap.size = g := ⟨_, rfl⟩
  have HG := Lib.hid hg
  have BK0 : Hid ((w.alloc (.cells #[.int .i64 0, .string (⟨#[]⟩ : ByteArray), .int .i64 0] 35)).heap[g]? = some (.cells #[.int .i64 0, .string (⟨#[]⟩ : ByteArray), .int .i64 0] 35 (0, 0))) := Lib.hid (by rw [← hg]; exact blk_new w _)
  have HB0 : Hid (Below g w (w.alloc (.cells #[.int .i64 0, .string (⟨#[]⟩ : ByteArray), .int .i64 0] 35))) := Lib.hid (by rw [← hg]; exact below_alloc (Below.refl _ _) _)
  clear hg
  go_enter Try.func32, Try.ntmps32
  repeat (first | go_values | go_skip | go_guarded | go_step | go_upon)
  rw [HG.out]
  generalize (w.alloc (.cells #[.int .i64 0, .string (⟨#[]⟩ : ByteArray), .int .i64 0] 35)) = W0 at *
  (go_at_call 51; refine (HL.out _).mono ?_; rintro e W1 ⟨rfl, b1⟩; have BK1 := Lib.hid (blk_below BK0.out b1); have HB1 := Lib.hid (HB0.out.trans (b1.mono (by have := blk_lt BK0.out; omega))); clear b1 BK0 HB0; dsimp only)
  repeat (first | go_values | go_skip | go_guarded | go_step | go_upon)
  (go_at_call 53; refine (HD.out _).mono ?_; rintro e W2 ⟨rfl, b1⟩; have BK2 := Lib.hid (blk_below BK1.out b1); have HB2 := Lib.hid (HB1.out.trans (b1.mono (by have := blk_lt BK1.out; omega))); clear b1 BK1 HB1; dsimp only)
  repeat (first | go_values | go_skip | go_guarded | go_step | go_upon)
  (go_at_call 29; refine (HR.out _).mono ?_; rintro e W3 ⟨rfl, b1⟩; have BK3 := Lib.hid (blk_below BK2.out b1); have HB3 := Lib.hid (HB2.out.trans (b1.mono (by have := blk_lt BK2.out; omega))); clear b1 BK2 HB2; dsimp only)
  have hz0 : W3.cell? ⟨g, 0, none⟩ = some (.int .i64 0) := (blk_cell BK3.out 0).trans rfl
  have hz1 : W3.cell? ⟨g, 1, none⟩ = some (.string (⟨#[]⟩ : ByteArray)) := (blk_cell BK3.out 1).trans rfl
  have hz2 : W3.cell? ⟨g, 2, none⟩ = some (.int .i64 0) := (blk_cell BK3.out 2).trans rfl
  have hf0 := blk_frozen BK3.out 0
  have hf1 := blk_frozen BK3.out 1
  have hf2 := blk_frozen BK3.out 2
  repeat (first | go_values | go_skip | go_guarded | go_step | go_upon)
  refine bodyPost_ret (results_ct rfl _ _ g 35 #[.int .i64 4, .string (s.extract 0 n), .int .i64 0] (0, 0) _ rfl (blk_put (cs := #[.int .i64 4, .string (s.extract 0 n), .int .i64 0]) (blk_put (cs := #[.int .i64 4, .string (⟨#[]⟩ : ByteArray), .int .i64 0]) (blk_put (cs := #[.int .i64 0, .string (⟨#[]⟩ : ByteArray), .int .i64 0]) BK3.out 0 _ rfl) 1 _ rfl) 2 _ rfl) Try.underlying35 rfl (by kernel_rfl)) rfl ?_
  exact ⟨rfl, by rw [HG.out]; exact ((HB3.out.setCell (Nat.le_refl _) _).setCell (Nat.le_refl _) _).setCell (Nat.le_refl _) _⟩
set_option maxHeartbeats 2000000 in
theorem onew_quo (s : ByteArray) (hs : s.size ≤ 140737488351232) (h0 : 0 < s.size) (hl : letB s[0] = false) (hd : digB s[0] = false) (hc34 : (((s[0]'h0).toNat : Int) == 34) = true) (t : ByteArray) (m : Int) (hq : lexer_quoted.f (s.size + 1) s = some (t, m)) (w : World) : Calls Try.prog 32 #[.string s] w fun e w' => e = .returned (.tuple #[.agg #[.int .i64 2, .string t, .int .i64 0], .int .i64 m]) ∧ Below w.heap.size w w' := by
  have hu30 := Try.underlying35
  have hb0 := (s[0]'h0).toNat_lt
  have HL := Lib.hid (fun w => let_any (s[0]'h0) w)
  rw [hl] at HL
  clear hl
  have HD := Lib.hid (fun w => dig_any (s[0]'h0) w)
  rw [hd] at HD
  clear hd
  have HQ := Lib.hid (fun w => lexer_quoted.calls _ s t m w hq)
  clear hq
  obtain ⟨g, hg⟩ : ∃ g, w.heap.size = g := ⟨_, rfl⟩
  have HG := Lib.hid hg
  have BK0 : Hid ((w.alloc (.cells #[.int .i64 0, .string (⟨#[]⟩ : ByteArray), .int .i64 0] 35)).heap[g]? = some (.cells #[.int .i64 0, .string (⟨#[]⟩ : ByteArray), .int .i64 0] 35 (0, 0))) := Lib.hid (by rw [← hg]; exact blk_new w _)
  have HB0 : Hid (Below g w (w.alloc (.cells #[.int .i64 0, .string (⟨#[]⟩ : ByteArray), .int .i64 0] 35))) := Lib.hid (by rw [← hg]; exact below_alloc (Below.refl _ _) _)
  clear hg
  go_enter Try.func32, Try.ntmps32
  repeat (first | go_values | go_skip | go_guarded | go_step | go_upon)
  rw [HG.out]
  generalize (w.alloc (.cells #[.int .i64 0, .string (⟨#[]⟩ : ByteArray), .int .i64 0] 35)) = W0 at *
  (go_at_call 51; refine (HL.out _).mono ?_; rintro e W1 ⟨rfl, b1⟩; have BK1 := Lib.hid (blk_below BK0.out b1); have HB1 := Lib.hid (HB0.out.trans (b1.mono (by have := blk_lt BK0.out; omega))); clear b1 BK0 HB0; dsimp only)
  repeat (first | go_values | go_skip | go_guarded | go_step | go_upon)
  (go_at_call 53; refine (HD.out _).mono ?_; rintro e W2 ⟨rfl, b1⟩; have BK2 := Lib.hid (blk_below BK1.out b1); have HB2 := Lib.hid (HB1.out.trans (b1.mono (by have := blk_lt BK1.out; omega))); clear b1 BK1 HB1; dsimp only)
  repeat (first | go_values | go_skip | go_guarded | go_step | go_upon)
  (go_at_call 56; refine (HQ.out _).mono ?_; rintro e W3 ⟨rfl, b1⟩; have BK3 := Lib.hid (blk_below BK2.out b1); have HB3 := Lib.hid (HB2.out.trans (b1.mono (by have := blk_lt BK2.out; omega))); clear b1 BK2 HB2; dsimp only)
  have hz0 : W3.cell? ⟨g, 0, none⟩ = some (.int .i64 0) := (blk_cell BK3.out 0).trans rfl
  have hz1 : W3.cell? ⟨g, 1, none⟩ = some (.string (⟨#[]⟩ : ByteArray)) := (blk_cell BK3.out 1).trans rfl
  have hz2 : W3.cell? ⟨g, 2, none⟩ = some (.int .i64 0) := (blk_cell BK3.out 2).trans rfl
  have hf0 := blk_frozen BK3.out 0
  have hf1 := blk_frozen BK3.out 1
  have hf2 := blk_frozen BK3.out 2
  repeat (first | go_values | go_skip | go_guarded | go_step | go_upon)
  refine bodyPost_ret (results_ct rfl _ _ g 35 #[.int .i64 2, .string t, .int .i64 0] (0, 0) _ rfl (blk_put (cs := #[.int .i64 2, .string t, .int .i64 0]) (blk_put (cs := #[.int .i64 2, .string (⟨#[]⟩ : ByteArray), .int .i64 0]) (blk_put (cs := #[.int .i64 0, .string (⟨#[]⟩ : ByteArray), .int .i64 0]) BK3.out 0 _ rfl) 1 _ rfl) 2 _ rfl) Try.underlying35 rfl (by kernel_rfl)) rfl ?_
  exact ⟨rfl, by rw [HG.out]; exact ((HB3.out.setCell (Nat.le_refl _) _).setCell (Nat.le_refl _) _).setCell (Nat.le_refl _) _⟩
set_option maxHeartbeats 2000000 in
theorem onew_str (s : ByteArray) (hs : s.size ≤ 140737488351232) (h0 : 0 < s.size) (hl : letB s[0] = false) (hd : digB s[0] = false) (hc34 : (((s[0]'h0).toNat : Int) == 34) = false) (hc39 : (((s[0]'h0).toNat : Int) == 39) = true) (t : ByteArray) (m : Int) (hq : lexer_quoted.f (s.size + 1) s = some (t, m)) (w : World) : Calls Try.prog 32 #[.string s] w fun e w' => e = .returned (.tuple #[.agg #[.int .i64 3, .string t, .int .i64 0], .int .i64 m]) ∧ Below w.heap.size w w' := by
  have hu30 := Try.underlying35
  have hb0 := (s[0]'h0).toNat_lt
  have HL := Lib.hid (fun w => let_any (s[0]'h0) w)
  rw [hl] at HL
  clear hl
  have HD := Lib.hid (fun w => dig_any (s[0]'h0) w)
  rw [hd] at HD
  clear hd
  have HQ := Lib.hid (fun w => lexer_quoted.calls _ s t m w hq)
  clear hq
  obtain ⟨g, hg⟩ : ∃ g, w.heap.size = g := ⟨_, rfl⟩
  have HG := Lib.hid hg
  have BK0 : Hid ((w.alloc (.cells #[.int .i64 0, .string (⟨#[]⟩ : ByteArray), .int .i64 0] 35)).heap[g]? = some (.cells #[.int .i64 0, .string (⟨#[]⟩ : ByteArray), .int .i64 0] 35 (0, 0))) := Lib.hid (by rw [← hg]; exact blk_new w _)
  have HB0 : Hid (Below g w (w.alloc (.cells #[.int .i64 0, .string (⟨#[]⟩ : ByteArray), .int .i64 0] 35))) := Lib.hid (by rw [← hg]; exact below_alloc (Below.refl _ _) _)
  clear hg
  go_enter Try.func32, Try.ntmps32
  repeat (first | go_values | go_skip | go_guarded | go_step | go_upon)
  rw [HG.out]
  generalize (w.alloc (.cells #[.int .i64 0, .string (⟨#[]⟩ : ByteArray), .int .i64 0] 35)) = W0 at *
  (go_at_call 51; refine (HL.out _).mono ?_; rintro e W1 ⟨rfl, b1⟩; have BK1 := Lib.hid (blk_below BK0.out b1); have HB1 := Lib.hid (HB0.out.trans (b1.mono (by have := blk_lt BK0.out; omega))); clear b1 BK0 HB0; dsimp only)
  repeat (first | go_values | go_skip | go_guarded | go_step | go_upon)
  (go_at_call 53; refine (HD.out _).mono ?_; rintro e W2 ⟨rfl, b1⟩; have BK2 := Lib.hid (blk_below BK1.out b1); have HB2 := Lib.hid (HB1.out.trans (b1.mono (by have := blk_lt BK1.out; omega))); clear b1 BK1 HB1; dsimp only)
  repeat (first | go_values | go_skip | go_guarded | go_step | go_upon)
  (go_at_call 56; refine (HQ.out _).mono ?_; rintro e W3 ⟨rfl, b1⟩; have BK3 := Lib.hid (blk_below BK2.out b1); have HB3 := Lib.hid (HB2.out.trans (b1.mono (by have := blk_lt BK2.out; omega))); clear b1 BK2 HB2; dsimp only)
  have hz0 : W3.cell? ⟨g, 0, none⟩ = some (.int .i64 0) := (blk_cell BK3.out 0).trans rfl
  have hz1 : W3.cell? ⟨g, 1, none⟩ = some (.string (⟨#[]⟩ : ByteArray)) := (blk_cell BK3.out 1).trans rfl
  have hz2 : W3.cell? ⟨g, 2, none⟩ = some (.int .i64 0) := (blk_cell BK3.out 2).trans rfl
  have hf0 := blk_frozen BK3.out 0
  have hf1 := blk_frozen BK3.out 1
  have hf2 := blk_frozen BK3.out 2
  repeat (first | go_values | go_skip | go_guarded | go_step | go_upon)
  refine bodyPost_ret (results_ct rfl _ _ g 35 #[.int .i64 3, .string t, .int .i64 0] (0, 0) _ rfl (blk_put (cs := #[.int .i64 3, .string t, .int .i64 0]) (blk_put (cs := #[.int .i64 3, .string (⟨#[]⟩ : ByteArray), .int .i64 0]) (blk_put (cs := #[.int .i64 0, .string (⟨#[]⟩ : ByteArray), .int .i64 0]) BK3.out 0 _ rfl) 1 _ rfl) 2 _ rfl) Try.underlying35 rfl (by kernel_rfl)) rfl ?_
  exact ⟨rfl, by rw [HG.out]; exact ((HB3.out.setCell (Nat.le_refl _) _).setCell (Nat.le_refl _) _).setCell (Nat.le_refl _) _⟩
set_option maxHeartbeats 2000000 in
theorem onew_dol (s : ByteArray) (hs : s.size ≤ 140737488351232) (h0 : 0 < s.size) (hl : letB s[0] = false) (hd : digB s[0] = false) (hc34 : (((s[0]'h0).toNat : Int) == 34) = false) (hc39 : (((s[0]'h0).toNat : Int) == 39) = false) (hc36 : (((s[0]'h0).toNat : Int) == 36) = true) (hv : (tagV s != -1) = true) (t : ByteArray) (m : Int) (hq : lexer_dollar.f (s.size + 1) s (tagV s) = some (t, m)) (w : World) : Calls Try.prog 32 #[.string s] w fun e w' => e = .returned (.tuple #[.agg #[.int .i64 3, .string t, .int .i64 0], .int .i64 m]) ∧ Below w.heap.size w w' := by
  have hu30 := Try.underlying35
  have hb0 := (s[0]'h0).toNat_lt
  have HL := Lib.hid (fun w => let_any (s[0]'h0) w)
  rw [hl] at HL
  clear hl
  have HD := Lib.hid (fun w => dig_any (s[0]'h0) w)
  rw [hd] at HD
  clear hd
  have HT := Lib.hid (fun w => tag_any s hs h0 w)
  generalize tagV s = v at *
  have HQ := Lib.hid (fun w => (lexer_dollar.calls _ s v t m w hq).mono fun e w' (h : _ ∧ _) => (⟨h.1, h.2.below⟩ : e = .returned (.tuple #[.string t, .int .i64 m]) ∧ Below w.heap.size w w'))
  clear hq
  obtain ⟨g, hg⟩ : ∃ g, w.heap.size = g := ⟨_, rfl⟩
  have HG := Lib.hid hg
  have BK0 : Hid ((w.alloc (.cells #[.int .i64 0, .string (⟨#[]⟩ : ByteArray), .int .i64 0] 35)).heap[g]? = some (.cells #[.int .i64 0, .string (⟨#[]⟩ : ByteArray), .int .i64 0] 35 (0, 0))) := Lib.hid (by rw [← hg]; exact blk_new w _)
  have HB0 : Hid (Below g w (w.alloc (.cells #[.int .i64 0, .string (⟨#[]⟩ : ByteArray), .int .i64 0] 35))) := Lib.hid (by rw [← hg]; exact below_alloc (Below.refl _ _) _)
  clear hg
  go_enter Try.func32, Try.ntmps32
  repeat (first | go_values | go_skip | go_guarded | go_step | go_upon)
  rw [HG.out]
  generalize (w.alloc (.cells #[.int .i64 0, .string (⟨#[]⟩ : ByteArray), .int .i64 0] 35)) = W0 at *
  (go_at_call 51; refine (HL.out _).mono ?_; rintro e W1 ⟨rfl, b1⟩; have BK1 := Lib.hid (blk_below BK0.out b1); have HB1 := Lib.hid (HB0.out.trans (b1.mono (by have := blk_lt BK0.out; omega))); clear b1 BK0 HB0; dsimp only)
  repeat (first | go_values | go_skip | go_guarded | go_step | go_upon)
  (go_at_call 53; refine (HD.out _).mono ?_; rintro e W2 ⟨rfl, b1⟩; have BK2 := Lib.hid (blk_below BK1.out b1); have HB2 := Lib.hid (HB1.out.trans (b1.mono (by have := blk_lt BK1.out; omega))); clear b1 BK1 HB1; dsimp only)
  repeat (first | go_values | go_skip | go_guarded | go_step | go_upon)
  (go_at_call 57; refine (HT.out _).mono ?_; rintro e W3 ⟨rfl, b1⟩; have BK3 := Lib.hid (blk_below BK2.out b1); have HB3 := Lib.hid (HB2.out.trans (b1.mono (by have := blk_lt BK2.out; omega))); clear b1 BK2 HB2; dsimp only)
  repeat (first | go_values | go_skip | go_guarded | go_step | go_upon)
  (go_at_call 57; refine (HT.out _).mono ?_; rintro e W4 ⟨rfl, b1⟩; have BK4 := Lib.hid (blk_below BK3.out b1); have HB4 := Lib.hid (HB3.out.trans (b1.mono (by have := blk_lt BK3.out; omega))); clear b1 BK3 HB3; dsimp only)
  repeat (first | go_values | go_skip | go_guarded | go_step | go_upon)
  (go_at_call 58; refine (HQ.out _).mono ?_; rintro e W5 ⟨rfl, b1⟩; have BK5 := Lib.hid (blk_below BK4.out b1); have HB5 := Lib.hid (HB4.out.trans (b1.mono (by have := blk_lt BK4.out; omega))); clear b1 BK4 HB4; dsimp only)
  have hz0 : W5.cell? ⟨g, 0, none⟩ = some (.int .i64 0) := (blk_cell BK5.out 0).trans rfl
  have hz1 : W5.cell? ⟨g, 1, none⟩ = some (.string (⟨#[]⟩ : ByteArray)) := (blk_cell BK5.out 1).trans rfl
  have hz2 : W5.cell? ⟨g, 2, none⟩ = some (.int .i64 0) := (blk_cell BK5.out 2).trans rfl
  have hf0 := blk_frozen BK5.out 0
  have hf1 := blk_frozen BK5.out 1
  have hf2 := blk_frozen BK5.out 2
  repeat (first | go_values | go_skip | go_guarded | go_step | go_upon)
  refine bodyPost_ret (results_ct rfl _ _ g 35 #[.int .i64 3, .string t, .int .i64 0] (0, 0) _ rfl (blk_put (cs := #[.int .i64 3, .string t, .int .i64 0]) (blk_put (cs := #[.int .i64 3, .string (⟨#[]⟩ : ByteArray), .int .i64 0]) (blk_put (cs := #[.int .i64 0, .string (⟨#[]⟩ : ByteArray), .int .i64 0]) BK5.out 0 _ rfl) 1 _ rfl) 2 _ rfl) Try.underlying35 rfl (by kernel_rfl)) rfl ?_
  exact ⟨rfl, by rw [HG.out]; exact ((HB5.out.setCell (Nat.le_refl _) _).setCell (Nat.le_refl _) _).setCell (Nat.le_refl _) _⟩
set_option maxHeartbeats 2000000 in
theorem onew_par (s : ByteArray) (hs : s.size ≤ 140737488351232) (h0 : 0 < s.size) (hl : letB s[0] = false) (hd : digB s[0] = false) (hc34 : (((s[0]'h0).toNat : Int) == 34) = false) (hc39 : (((s[0]'h0).toNat : Int) == 39) = false) (hc36 : (((s[0]'h0).toNat : Int) == 36) = true) (hv : (tagV s != -1) = false) (r : Nat) (hr : (if s[0] = 36 then (if runL digB ((tl s).drop 1) = 0 then 0 else ((runL digB ((tl s).drop 1) + 1 : Nat) : Int)) else if signB s[0] then 1 else 0) = (r : Int)) (hrs : r ≤ s.size) (w : World) : Calls Try.prog 32 #[.string s] w fun e w' => e = .returned (.tuple #[.agg #[.int .i64 5, .string (s.extract 0 r), .int .i64 0], .int .i64 (r : Nat)]) ∧ Below w.heap.size w w' := by
  have hu30 := Try.underlying35
  have hb0 := (s[0]'h0).toNat_lt
  have HL := Lib.hid (fun w => let_any (s[0]'h0) w)
  rw [hl] at HL
  clear hl
  have HD := Lib.hid (fun w => dig_any (s[0]'h0) w)
  rw [hd] at HD
  clear hd
  have HT := Lib.hid (fun w => tag_any s hs h0 w)
  generalize tagV s = v at *
  have HSG := Lib.hid (fun w => (sgn_any s hs h0 w).mono fun e w' (h : _ ∧ _) => (⟨h.1.trans (by rw [hr]), h.2⟩ : e = .returned (.int .i64 (r : Nat)) ∧ _))
  have hr0 : (0 : Int) ≤ (r : Int) := by omega
  have hr1 : (r : Int) ≤ (s.size : Int) := by omega
  clear hr
  obtain ⟨g, hg⟩ : ∃ g, w.heap.size = g := ⟨_, rfl⟩
  have HG := Lib.hid hg
  have BK0 : Hid ((w.alloc (.cells #[.int .i64 0, .string (⟨#[]⟩ : ByteArray), .int .i64 0] 35)).heap[g]? = some (.cells #[.int .i64 0, .string (⟨#[]⟩ : ByteArray), .int .i64 0] 35 (0, 0))) := Lib.hid (by rw [← hg]; exact blk_new w _)
  have HB0 : Hid (Below g w (w.alloc (.cells #[.int .i64 0, .string (⟨#[]⟩ : ByteArray), .int .i64 0] 35))) := Lib.hid (by rw [← hg]; exact below_alloc (Below.refl _ _) _)
  clear hg
  go_enter Try.func32, Try.ntmps32
  repeat (first | go_values | go_skip | go_guarded | go_step | go_upon)
  rw [HG.out]
  generalize (w.alloc (.cells #[.int .i64 0, .string (⟨#[]⟩ : ByteArray), .int .i64 0] 35)) = W0 at *
  (go_at_call 51; refine (HL.out _).mono ?_; rintro e W1 ⟨rfl, b1⟩; have BK1 := Lib.hid (blk_below BK0.out b1); have HB1 := Lib.hid (HB0.out.trans (b1.mono (by have := blk_lt BK0.out; omega))); clear b1 BK0 HB0; dsimp only)
  repeat (first | go_values | go_skip | go_guarded | go_step | go_upon)
  (go_at_call 53; refine (HD.out _).mono ?_; rintro e W2 ⟨rfl, b1⟩; have BK2 := Lib.hid (blk_below BK1.out b1); have HB2 := Lib.hid (HB1.out.trans (b1.mono (by have := blk_lt BK1.out; omega))); clear b1 BK1 HB1; dsimp only)
  repeat (first | go_values | go_skip | go_guarded | go_step | go_upon)
  (go_at_call 57; refine (HT.out _).mono ?_; rintro e W3 ⟨rfl, b1⟩; have BK3 := Lib.hid (blk_below BK2.out b1); have HB3 := Lib.hid (HB2.out.trans (b1.mono (by have := blk_lt BK2.out; omega))); clear b1 BK2 HB2; dsimp only)
  repeat (first | go_values | go_skip | go_guarded | go_step | go_upon)
  (go_at_call 59; refine (HSG.out _).mono ?_; rintro e W4 ⟨rfl, b1⟩; have BK4 := Lib.hid (blk_below BK3.out b1); have HB4 := Lib.hid (HB3.out.trans (b1.mono (by have := blk_lt BK3.out; omega))); clear b1 BK3 HB3; dsimp only)
  have hz0 : W4.cell? ⟨g, 0, none⟩ = some (.int .i64 0) := (blk_cell BK4.out 0).trans rfl
  have hz1 : W4.cell? ⟨g, 1, none⟩ = some (.string (⟨#[]⟩ : ByteArray)) := (blk_cell BK4.out 1).trans rfl
  have hz2 : W4.cell? ⟨g, 2, none⟩ = some (.int .i64 0) := (blk_cell BK4.out 2).trans rfl
  have hf0 := blk_frozen BK4.out 0
  have hf1 := blk_frozen BK4.out 1
  have hf2 := blk_frozen BK4.out 2
  repeat (first | go_values | go_skip | go_guarded | go_step | go_upon)
  refine bodyPost_ret (results_ct rfl _ _ g 35 #[.int .i64 5, .string (s.extract 0 r), .int .i64 0] (0, 0) _ rfl (blk_put (cs := #[.int .i64 5, .string (s.extract 0 r), .int .i64 0]) (blk_put (cs := #[.int .i64 5, .string (⟨#[]⟩ : ByteArray), .int .i64 0]) (blk_put (cs := #[.int .i64 0, .string (⟨#[]⟩ : ByteArray), .int .i64 0]) BK4.out 0 _ rfl) 1 _ rfl) 2 _ rfl) Try.underlying35 rfl (by kernel_rfl)) rfl ?_
  exact ⟨rfl, by rw [HG.out]; exact ((HB4.out.setCell (Nat.le_refl _) _).setCell (Nat.le_refl _) _).setCell (Nat.le_refl _) _⟩
set_option maxHeartbeats 2000000 in
theorem onew_sgn (s : ByteArray) (hs : s.size ≤ 140737488351232) (h0 : 0 < s.size) (hl : letB s[0] = false) (hd : digB s[0] = false) (hc34 : (((s[0]'h0).toNat : Int) == 34) = false) (hc39 : (((s[0]'h0).toNat : Int) == 39) = false) (hc36 : (((s[0]'h0).toNat : Int) == 36) = false) (r : Nat) (hr : (if s[0] = 36 then (if runL digB ((tl s).drop 1) = 0 then 0 else ((runL digB ((tl s).drop 1) + 1 : Nat) : Int)) else if signB s[0] then 1 else 0) = (r : Int)) (hrs : r ≤ s.size) (w : World) : Calls Try.prog 32 #[.string s] w fun e w' => e = .returned (.tuple #[.agg #[.int .i64 5, .string (s.extract 0 r), .int .i64 0], .int .i64 (r : Nat)]) ∧ Below w.heap.size w w' := by
  have hu30 := Try.underlying35
  have hb0 := (s[0]'h0).toNat_lt
  have HL := Lib.hid (fun w => let_any (s[0]'h0) w)
  rw [hl] at HL
  clear hl
  have HD := Lib.hid (fun w => dig_any (s[0]'h0) w)
  rw [hd] at HD
  clear hd
  have HSG := Lib.hid (fun w => (sgn_any s hs h0 w).mono fun e w' (h : _ ∧ _) => (⟨h.1.trans (by rw [hr]), h.2⟩ : e = .returned (.int .i64 (r : Nat)) ∧ _))
  have hr0 : (0 : Int) ≤ (r : Int) := by omega
  have hr1 : (r : Int) ≤ (s.size : Int) := by omega
  clear hr
  obtain ⟨g, hg⟩ : ∃ g, w.heap.size = g := ⟨_, rfl⟩
  have HG := Lib.hid hg
  have BK0 : Hid ((w.alloc (.cells #[.int .i64 0, .string (⟨#[]⟩ : ByteArray), .int .i64 0] 35)).heap[g]? = some (.cells #[.int .i64 0, .string (⟨#[]⟩ : ByteArray), .int .i64 0] 35 (0, 0))) := Lib.hid (by rw [← hg]; exact blk_new w _)
  have HB0 : Hid (Below g w (w.alloc (.cells #[.int .i64 0, .string (⟨#[]⟩ : ByteArray), .int .i64 0] 35))) := Lib.hid (by rw [← hg]; exact below_alloc (Below.refl _ _) _)
  clear hg
  go_enter Try.func32, Try.ntmps32
  repeat (first | go_values | go_skip | go_guarded | go_step | go_upon)
  rw [HG.out]
  generalize (w.alloc (.cells #[.int .i64 0, .string (⟨#[]⟩ : ByteArray), .int .i64 0] 35)) = W0 at *
  (go_at_call 51; refine (HL.out _).mono ?_; rintro e W1 ⟨rfl, b1⟩; have BK1 := Lib.hid (blk_below BK0.out b1); have HB1 := Lib.hid (HB0.out.trans (b1.mono (by have := blk_lt BK0.out; omega))); clear b1 BK0 HB0; dsimp only)
  repeat (first | go_values | go_skip | go_guarded | go_step | go_upon)
  (go_at_call 53; refine (HD.out _).mono ?_; rintro e W2 ⟨rfl, b1⟩; have BK2 := Lib.hid (blk_below BK1.out b1); have HB2 := Lib.hid (HB1.out.trans (b1.mono (by have := blk_lt BK1.out; omega))); clear b1 BK1 HB1; dsimp only)
  repeat (first | go_values | go_skip | go_guarded | go_step | go_upon)
  (go_at_call 59; refine (HSG.out _).mono ?_; rintro e W3 ⟨rfl, b1⟩; have BK3 := Lib.hid (blk_below BK2.out b1); have HB3 := Lib.hid (HB2.out.trans (b1.mono (by have := blk_lt BK2.out; omega))); clear b1 BK2 HB2; dsimp only)
  have hz0 : W3.cell? ⟨g, 0, none⟩ = some (.int .i64 0) := (blk_cell BK3.out 0).trans rfl
  have hz1 : W3.cell? ⟨g, 1, none⟩ = some (.string (⟨#[]⟩ : ByteArray)) := (blk_cell BK3.out 1).trans rfl
  have hz2 : W3.cell? ⟨g, 2, none⟩ = some (.int .i64 0) := (blk_cell BK3.out 2).trans rfl
  have hf0 := blk_frozen BK3.out 0
  have hf1 := blk_frozen BK3.out 1
  have hf2 := blk_frozen BK3.out 2
  repeat (first | go_values | go_skip | go_guarded | go_step | go_upon)
  refine bodyPost_ret (results_ct rfl _ _ g 35 #[.int .i64 5, .string (s.extract 0 r), .int .i64 0] (0, 0) _ rfl (blk_put (cs := #[.int .i64 5, .string (s.extract 0 r), .int .i64 0]) (blk_put (cs := #[.int .i64 5, .string (⟨#[]⟩ : ByteArray), .int .i64 0]) (blk_put (cs := #[.int .i64 0, .string (⟨#[]⟩ : ByteArray), .int .i64 0]) BK3.out 0 _ rfl) 1 _ rfl) 2 _ rfl) Try.underlying35 rfl (by kernel_rfl)) rfl ?_
  exact ⟨rfl, by rw [HG.out]; exact ((HB3.out.setCell (Nat.le_refl _) _).setCell (Nat.le_refl _) _).setCell (Nat.le_refl _) _⟩

/-- What one tells: a kind, a text, how long. -/
def oneV (s : ByteArray) : Int × ByteArray × Int := match oneL (tl s) with
  | .tok k t n => (k, ofL t, n)
  | .open_ => (if (tl s).head? = some 34 then 2 else 3, ⟨#[]⟩, -1)
  | .bad => (5, ⟨#[]⟩, 0)
theorem tl_small (s : ByteArray) : tl (smallF s) = (tl s).map lowB := by
  unfold smallF tl
  simp
  exact fun _ _ => rfl
theorem u8_num (c : UInt8) (n : UInt8) (m : Int) (hm : m = n.toNat) : ((c.toNat : Int) == m) = (c == n) := by
  subst hm
  by_cases h : c = n
  · subst h; simp
  · rw [beq_eq_false_iff_ne.2 h, beq_eq_false_iff_ne]
    exact fun e => h ((u8_eq _ _).1 e)
theorem one_any (s : ByteArray) (hs : s.size ≤ 140737488351232) (h0 : 0 < s.size) (w : World) : Calls Try.prog 32 #[.string s] w fun e w' => e = .returned (.tuple #[.agg #[.int .i64 (oneV s).1, .string (oneV s).2.1, .int .i64 0], .int .i64 (oneV s).2.2]) ∧ Below w.heap.size w w' := by
  have hd0 : tl s = s[0] :: (tl s).drop 1 := by
    have := dropc s 0 h0
    rwa [List.drop_zero] at this
  have hln : ((tl s).drop 1).length = s.size - 1 := by rw [List.length_drop, tl_len]
  obtain ⟨V, hV⟩ : ∃ V, V = oneV s := ⟨_, rfl⟩
  rw [← hV]
  have e34 := u8_num s[0] 34 34 rfl
  have e39 := u8_num s[0] 39 39 rfl
  have e36 := u8_num s[0] 36 36 rfl
  have hV1 : V = match oneC s[0] ((tl s).drop 1) with
    | .tok k t n => (k, ofL t, n)
    | .open_ => (if (tl s).head? = some 34 then 2 else 3, ⟨#[]⟩, -1)
    | .bad => (5, ⟨#[]⟩, 0) := by
    rw [hV]
    unfold oneV
    have : oneL (tl s) = oneC s[0] ((tl s).drop 1) := by
      conv => lhs; rw [hd0]
      rfl
    rw [this]
  have hhd : (tl s).head? = some s[0] := by rw [hd0]; rfl
  clear hV
  unfold oneC at hV1
  by_cases hl : letB s[0] = true
  · rw [if_pos hl, ← hd0] at hV1
    have hx : smallF (s.extract 0 (runL wordB (tl s))) = ofL (((tl s).take (runL wordB (tl s))).map lowB) := tl_inj (by rw [tl_small, tl_ext, tl_ofL, List.drop_zero])
    have hy : V = (1, smallF (s.extract 0 (runL wordB (tl s))), ((runL wordB (tl s) : Nat) : Int)) := by rw [hV1, hx]
    rw [hy]
    exact onew_word s hs h0 hl w
  rw [Bool.not_eq_true] at hl
  rw [if_neg (by rw [hl]; decide)] at hV1
  by_cases hd : digB s[0] = true
  · rw [if_pos hd, ← hd0] at hV1
    have hx : s.extract 0 (runL numB (tl s)) = ofL ((tl s).take (runL numB (tl s))) := tl_inj (by rw [tl_ext, tl_ofL, List.drop_zero])
    have hy : V = (4, s.extract 0 (runL numB (tl s)), ((runL numB (tl s) : Nat) : Int)) := by rw [hV1, hx]
    rw [hy]
    exact onew_num s hs h0 hl hd w
  rw [Bool.not_eq_true] at hd
  rw [if_neg (by rw [hd]; decide)] at hV1
  by_cases h34 : s[0] = 34
  · rw [if_pos h34] at hV1
    rw [beq_iff_eq.2 h34] at e34
    have hq := quoted_f s hs h0
    rw [h34] at hq
    have hx : V = (2, (quoO [] 1 (quoL 34 ((tl s).drop 1))).1, (quoO [] 1 (quoL 34 ((tl s).drop 1))).2) := by
      rw [hV1, hhd, h34]
      cases quoL 34 ((tl s).drop 1) with
      | none => rfl
      | some o => simp [quoO]; omega
    rw [hx]
    exact onew_quo s hs h0 hl hd e34 _ _ hq w
  rw [if_neg h34] at hV1
  rw [beq_eq_false_iff_ne.2 h34] at e34
  by_cases h39 : s[0] = 39
  · rw [if_pos h39] at hV1
    rw [beq_iff_eq.2 h39] at e39
    have hq := quoted_f s hs h0
    rw [h39] at hq
    have hx : V = (3, (quoO [] 1 (quoL 39 ((tl s).drop 1))).1, (quoO [] 1 (quoL 39 ((tl s).drop 1))).2) := by
      rw [hV1, hhd, h39]
      cases quoL 39 ((tl s).drop 1) with
      | none => rfl
      | some o => simp [quoO]; omega
    rw [hx]
    exact onew_str s hs h0 hl hd e34 e39 _ _ hq w
  rw [if_neg h39] at hV1
  rw [beq_eq_false_iff_ne.2 h39] at e39
  by_cases h36 : s[0] = 36
  · rw [if_pos h36, ← hd0] at hV1
    rw [beq_iff_eq.2 h36] at e36
    cases ht : tagL ((tl s).drop 1) with
    | some n =>
      have hb := tagL_le _ _ ht
      have hv : tagV s = (n : Int) := by unfold tagV; rw [ht]; rfl
      have hq := dollar_f s hs n (by omega) (by omega)
      rw [← hv] at hq
      rw [ht] at hV1
      simp only [] at hV1
      have hx : V = (3, (dolO s n n (dolL ((tl s).take n) ((tl s).drop n))).1, (dolO s n n (dolL ((tl s).take n) ((tl s).drop n))).2) := by
        rw [hV1, hhd, h36]
        cases hdl : dolL ((tl s).take n) ((tl s).drop n) with
        | none => rfl
        | some o =>
          obtain ⟨q1, q2, q3⟩ := dolL_take _ _ o.1 o.2 hdl
          have hxe : s.extract n (n + o.1.length) = ofL o.1 := tl_inj (by
            rw [tl_ext, tl_ofL, List.drop_take, Nat.add_sub_cancel_left]
            exact q1.symm)
          simp [dolO, hxe]
      rw [hx]
      exact onew_dol s hs h0 hl hd e34 e39 e36 (by rw [hv, bne_iff_ne]; omega) _ _ hq w
    | none =>
      have hv : tagV s = -1 := by unfold tagV; rw [ht]; rfl
      rw [ht] at hV1
      simp only [] at hV1
      have hle := runL_le digB ((tl s).drop 1)
      by_cases hz : runL digB ((tl s).drop 1) = 0
      · rw [if_pos hz] at hV1
        have hx : V = (5, s.extract 0 0, ((0 : Nat) : Int)) := by
          rw [hV1]
          have : s.extract 0 0 = ⟨#[]⟩ := tl_inj (by rw [tl_ext]; rfl)
          rw [this]
          rfl
        rw [hx]
        exact onew_par s hs h0 hl hd e34 e39 e36 (by rw [hv]; decide) 0 (by rw [if_pos h36, if_pos hz]; rfl) (Nat.zero_le _) w
      · rw [if_neg hz] at hV1
        have hx : V = (5, s.extract 0 (runL digB ((tl s).drop 1) + 1), ((runL digB ((tl s).drop 1) + 1 : Nat) : Int)) := by
          rw [hV1]
          have : s.extract 0 (runL digB ((tl s).drop 1) + 1) = ofL ((tl s).take (runL digB ((tl s).drop 1) + 1)) := tl_inj (by rw [tl_ext, tl_ofL, List.drop_zero])
          rw [this]
        rw [hx]
        exact onew_par s hs h0 hl hd e34 e39 e36 (by rw [hv]; decide) _ (by rw [if_pos h36, if_neg hz]) (by omega) w
  rw [if_neg h36] at hV1
  rw [beq_eq_false_iff_ne.2 h36] at e36
  by_cases hs2 : signB s[0] = true
  · rw [if_pos hs2] at hV1
    have hx : V = (5, s.extract 0 1, ((1 : Nat) : Int)) := by
      rw [hV1]
      have : s.extract 0 1 = ofL [s[0]] := tl_inj (by
        rw [tl_ext, tl_ofL, List.drop_zero]
        conv => lhs; rw [hd0]
        rfl)
      rw [this]
    rw [hx]
    exact onew_sgn s hs h0 hl hd e34 e39 e36 1 (by rw [if_neg h36, if_pos hs2]; rfl) h0 w
  · rw [if_neg hs2] at hV1
    have hx : V = (5, s.extract 0 0, ((0 : Nat) : Int)) := by
      rw [hV1]
      have : s.extract 0 0 = ⟨#[]⟩ := tl_inj (by rw [tl_ext]; rfl)
      rw [this]
      rfl
    rw [hx]
    exact onew_sgn s hs h0 hl hd e34 e39 e36 0 (by rw [if_neg h36, if_neg hs2]; rfl) (Nat.zero_le _) w
set_option linter.unusedVariables false

def tkS (t : Tk) : S35 := ⟨t.kind, ofL t.text, t.at_⟩
/-- What is still to be told, from a place on. -/
def scA (s : ByteArray) (k : Nat) : Res := scL (s.size - k + 1) k ((tl s).drop k)
theorem scA_gap (s : ByteArray) (k n : Nat) (hk : k < s.size) (h : stepL ((tl s).drop k) = .gap n) : scA s k = scA s (k + n) ∧ 0 < n ∧ k + n ≤ s.size := by
  have hp := stepL_gap _ _ h
  rw [List.length_drop, tl_len] at hp
  refine ⟨?_, hp.1, by omega⟩
  unfold scA
  conv => lhs; unfold scL; rw [h]
  simp only [List.drop_drop]
  exact scL_more _ _ _ _ (by rw [List.length_drop, tl_len]; omega) (by rw [List.length_drop, tl_len]; omega)
theorem scA_tok (s : ByteArray) (k n : Nat) (kd : Int) (t : List UInt8) (hk : k < s.size) (h : stepL ((tl s).drop k) = .one (.tok kd t n)) : scA s k = (scA s (k + n)).cons ⟨kd, t, k⟩ ∧ 0 < n ∧ k + n ≤ s.size := by
  have hp := stepL_tok _ _ _ _ h
  rw [List.length_drop, tl_len] at hp
  refine ⟨?_, hp.1, by omega⟩
  unfold scA
  conv => lhs; unfold scL; rw [h]
  simp only [List.drop_drop]
  rw [scL_more (s.size - k) (s.size - (k + n) + 1) (k + n) _ (by rw [List.length_drop, tl_len]; omega) (by rw [List.length_drop, tl_len]; omega)]
theorem scA_err (s : ByteArray) (k : Nat) (e : Int) (h : stepL ((tl s).drop k) = .open_ ∧ e = 6 ∨ stepL ((tl s).drop k) = .one .open_ ∧ e = 6 ∨ stepL ((tl s).drop k) = .one .bad ∧ e = 7) : scA s k = .err e k := by
  unfold scA
  unfold scL
  rcases h with ⟨h, rfl⟩ | ⟨h, rfl⟩ | ⟨h, rfl⟩ <;> rw [h]
theorem scA_end (s : ByteArray) (k : Nat) (h : s.size ≤ k) : scA s k = .ok [] := by
  unfold scA
  rw [List.drop_of_length_le (by rw [tl_len]; exact h)]
  rfl
theorem pre_cons (acc : List Tk) (t : Tk) (r : Res) : (r.cons t).pre acc = r.pre (acc ++ [t]) := by
  cases r <;> simp [Res.cons, Res.pre]
/-- What Scan tells. -/
def scanF (s : ByteArray) : List S35 × Int × Int := if s.size > 2000 then ([], 2, 2000) else match scan (tl s) with
  | .ok l => (l.map tkS, 0, 0)
  | .err e a => ([], e, a)
def ScanP (w : World) (r : List S35 × Int × Int) (e : Ending) (w' : World) : Prop := ∃ v0 : Value, e = .returned (.tuple #[v0, .int .i64 r.2.1, .int .i64 r.2.2]) ∧ Kd.R k35 35 w' w.heap.size (fun _ => True) v0 r.1 ∧ Below w.heap.size w w'
theorem step_dash (s : ByteArray) (k : Nat) (hk : k < s.size) (hb : blankB s[k] = false) (h : [45, 45].isPrefixOf ((tl s).drop k) = true) : stepL ((tl s).drop k) = .gap (runL (fun c => c != 10) ((tl s).drop k)) := by
  rw [dropc s k hk] at *
  show stepC _ _ = _
  unfold stepC
  have hq : (s[k] == 45 && ((tl s).drop (k + 1)).head? == some 45) = true := by
    cases hd : (tl s).drop (k + 1) with
    | nil => rw [hd] at h; simp at h
    | cons c r => rw [hd] at h; simp at h ⊢; exact ⟨h.1.symm, h.2.symm⟩
  rw [if_neg (by rw [hb]; decide), if_pos hq]
theorem not_dash (c : UInt8) (r : List UInt8) (h : [45, 45].isPrefixOf (c :: r) = false) : ¬ (c == 45 && r.head? == some 45) = true := by
  intro e
  cases r with
  | nil => simp at e
  | cons d m =>
    simp at e
    obtain ⟨rfl, rfl⟩ := e
    simp [List.isPrefixOf] at h
theorem not_star (c : UInt8) (r : List UInt8) (h : [47, 42].isPrefixOf (c :: r) = false) : ¬ (c == 47 && r.head? == some 42) = true := by
  intro e
  cases r with
  | nil => simp at e
  | cons d m =>
    simp at e
    obtain ⟨rfl, rfl⟩ := e
    simp [List.isPrefixOf] at h
theorem step_star (s : ByteArray) (k : Nat) (hk : k < s.size) (hb : blankB s[k] = false) (hn : [45, 45].isPrefixOf ((tl s).drop k) = false) (h : [47, 42].isPrefixOf ((tl s).drop k) = true) : stepL ((tl s).drop k) = (match remL ((tl s).drop k) 0 with | none => .open_ | some n => .gap n) := by
  rw [dropc s k hk] at *
  show stepC _ _ = _
  unfold stepC
  have hq : (s[k] == 47 && ((tl s).drop (k + 1)).head? == some 42) = true := by
    cases hd : (tl s).drop (k + 1) with
    | nil => rw [hd] at h; simp at h
    | cons c r => rw [hd] at h; simp at h ⊢; exact ⟨h.1.symm, h.2.symm⟩
  rw [if_neg (by rw [hb]; decide), if_neg (not_dash _ _ hn), if_pos hq]
  cases remL (s[k] :: (tl s).drop (k + 1)) 0 <;> rfl
theorem step_one (s : ByteArray) (k : Nat) (hk : k < s.size) (hb : blankB s[k] = false) (hn : [45, 45].isPrefixOf ((tl s).drop k) = false) (h : [47, 42].isPrefixOf ((tl s).drop k) = false) : stepL ((tl s).drop k) = .one (oneL ((tl s).drop k)) := by
  rw [dropc s k hk] at *
  show stepC _ _ = _
  unfold stepC
  rw [if_neg (by rw [hb]; decide), if_neg (not_dash _ _ hn), if_neg (not_star _ _ h)]
theorem step_blank (s : ByteArray) (k : Nat) (hk : k < s.size) (hb : blankB s[k] = true) : stepL ((tl s).drop k) = .gap 1 := by
  rw [dropc s k hk]
  show stepC _ _ = _
  unfold stepC
  rw [if_pos hb]
theorem begins_any (s : ByteArray) (k : Nat) (h : ByteArray) (w : World) : Calls Try.prog 28 #[.string (s.extract k s.size), .string h] w fun e w' => e = .returned (.bool ((tl h).isPrefixOf ((tl s).drop k))) ∧ Below w.heap.size w w' := by
  have := begins_f (s.extract k s.size) h
  rw [tl_drop] at this
  exact (lexer_begins.calls _ _ _ w this).mono fun _ _ ⟨e, d⟩ => ⟨e, d.below⟩

set_option maxRecDepth 100000 in
set_option maxHeartbeats 8000000 in
theorem Scan_any (s : ByteArray) (hs : s.size ≤ 140737488351232) (w : World) : Calls Try.prog 19 #[.string s] w (ScanP w (scanF s)) := by
  have hu30 := Try.underlying35
  by_cases hbig : s.size > 2000
  · have e : scanF s = ([], 2, 2000) := if_pos hbig
    rw [e]
    have hbig' : (2000 : Int) < s.size := by omega
    go_enter Try.func19, Try.ntmps19
    repeat (first | go_step3 | go_values | go_skip | go_guarded | go_step | go_upon)
    go_ret3
    exact ⟨_, rfl, Kd.R_nil _ _ _ _ _, Below.refl _ _⟩
  have hsm : s.size ≤ 2000 := by omega
  have HSF : Hid (scanF s = match scan (tl s) with | .ok l => (l.map tkS, 0, 0) | .err e a => ([], e, a)) := Lib.hid (if_neg hbig)
  have hbig' : ¬ (2000 : Int) < s.size := by omega
  obtain ⟨F, hF⟩ : ∃ F, F = scanF s := ⟨_, rfl⟩
  rw [← hF]
  rw [← hF] at HSF
  clear hF
  go_enter Try.func19, Try.ntmps19
  repeat (first | go_step3 | go_values | go_skip | go_guarded | go_step | go_upon)
  go_loopw [5, 6] (fun v i wr => ∃ (k : Nat) (acc : List Tk), i = .int .i64 k ∧ k ≤ s.size ∧ Hid (Kd.R k35 35 wr w.heap.size (fun _ => True) v (acc.map tkS)) ∧ Hid (Below w.heap.size w wr) ∧ Hid ((scA s k).pre acc = scan (tl s)) ∧ Hid (acc.length ≤ k)) (fun _ i _ => s.size - (intOf i).toNat)
  case atStart =>
    refine ⟨0, [], rfl, Nat.zero_le _, Lib.hid (Kd.R_nil _ _ _ _ _), Lib.hid (Below.refl _ _), Lib.hid ?_, Lib.hid (Nat.le_refl _)⟩
    have : scA s 0 = scan (tl s) := by unfold scA scan; rw [List.drop_zero, Nat.sub_zero, tl_len]
    rw [this]
    cases scan (tl s) <;> rfl
  case round =>
    obtain ⟨k, acc, rfl, hk, HO, HB, HS, HN⟩ := hrel
    by_cases hlt : k < s.size
    · have hki : (k : Int) < s.size := by omega
      have hk0 : (0 : Int) ≤ (k : Int) := by omega
      have hk1 : (k : Int) ≤ s.size := by omega
      have hbt := (s[k]'hlt).toNat_lt
      have HLT : Hid (k < s.size) := Lib.hid hlt
      have e32 := u8_num (s[k]'hlt) 32 32 rfl
      have e9 := u8_num (s[k]'hlt) 9 9 rfl
      have e10 := u8_num (s[k]'hlt) 10 10 rfl
      have e12 := u8_num (s[k]'hlt) 12 12 rfl
      have e13 := u8_num (s[k]'hlt) 13 13 rfl
      cases hbl : blankB (s[k]'hlt) with
      | true =>
        have hg := scA_gap s k 1 hlt (step_blank s k hlt hbl)
        have HS1 : Hid ((scA s (k + 1)).pre acc = scan (tl s)) := Lib.hid (by rw [← hg.1]; exact HS.out)
        clear hg
        unfold blankB at hbl
        rw [← e32, ← e9, ← e10, ← e12, ← e13] at hbl
        clear e32 e9 e10 e12 e13
        cases h1 : (((s[k]'hlt).toNat : Int) == 32) with
        | true =>
          clear hbl
          repeat (first | go_step3 | go_values | go_skip | go_guarded | go_step | go_upon)
          go_roundw
          case rel => exact ⟨k + 1, acc, by go_num, HLT.out, HO, HB, HS1, Lib.hid (Nat.le_succ_of_le HN.out)⟩
          case measure => have := HLT.out; simp [intOf]; omega
        | false =>
        cases h2 : (((s[k]'hlt).toNat : Int) == 9) with
        | true =>
          clear hbl
          repeat (first | go_step3 | go_values | go_skip | go_guarded | go_step | go_upon)
          go_roundw
          case rel => exact ⟨k + 1, acc, by go_num, HLT.out, HO, HB, HS1, Lib.hid (Nat.le_succ_of_le HN.out)⟩
          case measure => have := HLT.out; simp [intOf]; omega
        | false =>
        cases h3 : (((s[k]'hlt).toNat : Int) == 10) with
        | true =>
          clear hbl
          repeat (first | go_step3 | go_values | go_skip | go_guarded | go_step | go_upon)
          go_roundw
          case rel => exact ⟨k + 1, acc, by go_num, HLT.out, HO, HB, HS1, Lib.hid (Nat.le_succ_of_le HN.out)⟩
          case measure => have := HLT.out; simp [intOf]; omega
        | false =>
        cases h4 : (((s[k]'hlt).toNat : Int) == 12) with
        | true =>
          clear hbl
          repeat (first | go_step3 | go_values | go_skip | go_guarded | go_step | go_upon)
          go_roundw
          case rel => exact ⟨k + 1, acc, by go_num, HLT.out, HO, HB, HS1, Lib.hid (Nat.le_succ_of_le HN.out)⟩
          case measure => have := HLT.out; simp [intOf]; omega
        | false =>
          have h5 : (((s[k]'hlt).toNat : Int) == 13) = true := by rw [h1, h2, h3, h4] at hbl; simpa using hbl
          clear hbl
          repeat (first | go_step3 | go_values | go_skip | go_guarded | go_step | go_upon)
          go_roundw
          case rel => exact ⟨k + 1, acc, by go_num, HLT.out, HO, HB, HS1, Lib.hid (Nat.le_succ_of_le HN.out)⟩
          case measure => have := HLT.out; simp [intOf]; omega
      | false =>
        have HBL := Lib.hid hbl
        unfold blankB at hbl
        rw [← e32, ← e9, ← e10, ← e12, ← e13] at hbl
        clear e32 e9 e10 e12 e13
        simp only [Bool.or_eq_false_iff] at hbl
        obtain ⟨⟨⟨⟨h1, h2⟩, h3⟩, h4⟩, h5⟩ := hbl
        have BD := Lib.hid (fun w => begins_any s k ⟨#[45, 45]⟩ w)
        have BS := Lib.hid (fun w => begins_any s k ⟨#[47, 42]⟩ w)
        have ed : tl ⟨#[45, 45]⟩ = [45, 45] := rfl
        have es : tl ⟨#[47, 42]⟩ = [47, 42] := rfl
        rw [ed] at BD
        rw [es] at BS
        clear ed es
        have hrl : (s.extract k s.size).size = s.size - k := by simp only [ByteArray.size_extract]; omega
        have HRL := Lib.hid hrl
        have htr := tl_drop s k
        cases hd : [45, 45].isPrefixOf ((tl s).drop k) with
        | true =>
          have hg := scA_gap s k _ hlt (step_dash s k hlt HBL.out hd)
          have HR := Lib.hid (fun w => run_line (s.extract k s.size) (by omega) w)
          rw [htr] at HR
          rw [hd] at BD
          generalize runL (fun c => c != 10) ((tl s).drop k) = n at *
          have HS1 : Hid ((scA s (k + n)).pre acc = scan (tl s)) := Lib.hid (by rw [← hg.1]; exact HS.out)
          have HP : Hid (0 < n ∧ k + n ≤ s.size) := Lib.hid hg.2
          have hn0 : (0 : Int) ≤ (n : Int) := by omega
          have hn1 : (k : Int) + (n : Int) ≤ 2000 := by omega
          clear hg hd BS HBL HRL hrl htr
          repeat (first | go_step3 | go_values | go_skip | go_guarded | go_step | go_upon)
          (go_at_call 28; refine (BD.out _).mono ?_; rintro e w1 ⟨rfl, b1⟩; have HO1 := Lib.hid (Kd.R_below HO.out b1); have HB1 := Lib.hid (HB.out.trans (b1.mono HB.out.size)); clear b1; dsimp only)
          repeat (first | go_step3 | go_values | go_skip | go_guarded | go_step | go_upon)
          (go_at_call 29; refine (HR.out _).mono ?_; rintro e w2 ⟨rfl, b1⟩; have HO2 := Lib.hid (Kd.R_below HO1.out b1); have HB2 := Lib.hid (HB1.out.trans (b1.mono HB1.out.size)); clear b1; dsimp only)
          repeat (first | go_step3 | go_values | go_skip | go_guarded | go_step | go_upon)
          go_roundw
          case rel => exact ⟨k + n, acc, by go_num, HP.out.2, HO2, HB2, HS1, Lib.hid (Nat.le_trans HN.out (Nat.le_add_right _ _))⟩
          case measure => have := HP.out; simp [intOf]; omega
        | false =>
        rw [hd] at BD
        cases hst : [47, 42].isPrefixOf ((tl s).drop k) with
        | true =>
          have hsp := step_star s k hlt HBL.out hd hst
          have hrm := remark_f (s.extract k s.size) (by omega) (by rw [htr]; exact hst)
          rw [htr] at hrm
          rw [hst] at BS
          have HM := Lib.hid (fun w => lexer_remark.calls _ _ _ w hrm)
          cases hr : remL ((tl s).drop k) 0 with
          | none =>
            rw [hr] at hsp HM
            have he := scA_err s k 6 (.inl ⟨hsp, rfl⟩)
            have HF : Hid (F = ([], 6, (k : Int))) := Lib.hid (by
              rw [HSF.out, ← HS.out, he]
              rfl)
            clear hsp hrm hr he hd hst HBL HRL hrl htr
            repeat (first | go_step3 | go_values | go_skip | go_guarded | go_step | go_upon)
            (go_at_call 28; refine (BD.out _).mono ?_; rintro e w1 ⟨rfl, b1⟩; have HB1 := Lib.hid (HB.out.trans (b1.mono HB.out.size)); clear b1; dsimp only)
            repeat (first | go_step3 | go_values | go_skip | go_guarded | go_step | go_upon)
            (go_at_call 28; refine (BS.out _).mono ?_; rintro e w2 ⟨rfl, b1⟩; have HB2 := Lib.hid (HB1.out.trans (b1.mono HB1.out.size)); clear b1; dsimp only)
            repeat (first | go_step3 | go_values | go_skip | go_guarded | go_step | go_upon)
            (go_at_call 31; refine (HM.out _).mono ?_; rintro e w3 ⟨rfl, b1⟩; have HB3 := Lib.hid (HB2.out.trans (b1.below.mono HB2.out.size)); clear b1; simp only [negOr])
            repeat (first | go_step3 | go_values | go_skip | go_guarded | go_step | go_upon)
            go_ret3
            rw [HF.out]
            exact ⟨_, rfl, Kd.R_nil _ _ _ _ _, HB3.out⟩
          | some n =>
            rw [hr] at hsp HM
            have hg := scA_gap s k n hlt hsp
            have HS1 : Hid ((scA s (k + n)).pre acc = scan (tl s)) := Lib.hid (by rw [← hg.1]; exact HS.out)
            have HP : Hid (0 < n ∧ k + n ≤ s.size) := Lib.hid hg.2
            have en : negOr 0 (some n) = (n : Int) := by simp [negOr]
            rw [en] at HM
            have hn0 : (0 : Int) ≤ (n : Int) := by omega
            have hnm : ((n : Int) == -1) = false := by rw [beq_eq_false_iff_ne]; omega
            have hn1 : (k : Int) + (n : Int) ≤ 2000 := by omega
            clear hg hsp hrm hr en hd hst HBL HRL hrl htr
            repeat (first | go_step3 | go_values | go_skip | go_guarded | go_step | go_upon)
            (go_at_call 28; refine (BD.out _).mono ?_; rintro e w1 ⟨rfl, b1⟩; have HO1 := Lib.hid (Kd.R_below HO.out b1); have HB1 := Lib.hid (HB.out.trans (b1.mono HB.out.size)); clear b1; dsimp only)
            repeat (first | go_step3 | go_values | go_skip | go_guarded | go_step | go_upon)
            (go_at_call 28; refine (BS.out _).mono ?_; rintro e w2 ⟨rfl, b1⟩; have HO2 := Lib.hid (Kd.R_below HO1.out b1); have HB2 := Lib.hid (HB1.out.trans (b1.mono HB1.out.size)); clear b1; dsimp only)
            repeat (first | go_step3 | go_values | go_skip | go_guarded | go_step | go_upon)
            (go_at_call 31; refine (HM.out _).mono ?_; rintro e w3 ⟨rfl, b1⟩; have HO3 := Lib.hid (Kd.R_below HO2.out b1.below); have HB3 := Lib.hid (HB2.out.trans (b1.below.mono HB2.out.size)); clear b1; dsimp only)
            repeat (first | go_step3 | go_values | go_skip | go_guarded | go_step | go_upon)
            go_roundw
            case rel => exact ⟨k + n, acc, by go_num, HP.out.2, HO3, HB3, HS1, Lib.hid (Nat.le_trans HN.out (Nat.le_add_right _ _))⟩
            case measure => have := HP.out; simp [intOf]; omega
        | false =>
          rw [hst] at BS
          have hso := step_one s k hlt HBL.out hd hst
          have HOn := Lib.hid (fun w => one_any (s.extract k s.size) (by omega) (by omega) w)
          have hov : oneV (s.extract k s.size) = match oneL ((tl s).drop k) with | .tok k t n => (k, ofL t, n) | .open_ => (if ((tl s).drop k).head? = some 34 then 2 else 3, ⟨#[]⟩, -1) | .bad => (5, ⟨#[]⟩, 0) := by
            unfold oneV
            rw [htr]
            all_goals (cases oneL ((tl s).drop k) <;> rfl)
          cases hon : oneL ((tl s).drop k) with
          | tok kd t n =>
            rw [hon] at hso hov
            simp only [] at hov
            rw [hov] at HOn
            simp only [] at HOn
            have hg := scA_tok s k n kd t hlt hso
            have HS1 : Hid ((scA s (k + n)).pre (acc ++ [⟨kd, t, k⟩]) = scan (tl s)) := Lib.hid (by rw [← pre_cons, ← hg.1]; exact HS.out)
            have HP : Hid (0 < n ∧ k + n ≤ s.size) := Lib.hid hg.2
            have hn0 : (0 : Int) ≤ (n : Int) := by omega
            have hnm : ((n : Int) == -1) = false := by rw [beq_eq_false_iff_ne]; omega
            have hnz : ((n : Int) == 0) = false := by rw [beq_eq_false_iff_ne]; omega
            have hn1 : (k : Int) + (n : Int) ≤ 2000 := by omega
            have HZ : Hid (acc.length ≤ 2000) := Lib.hid (by have := HN.out; omega)
            have HT : Hid (tkS ⟨kd, t, k⟩ = ⟨kd, ofL t, (k : Int)⟩) := Lib.hid rfl
            clear hg hso hov hon hd hst HBL HRL hrl htr
            generalize ofL t = tx at *
            repeat (first | go_step3 | go_values | go_skip | go_guarded | go_step | go_upon)
            (go_at_call 28; refine (BD.out _).mono ?_; rintro e w1 ⟨rfl, b1⟩; have HO1 := Lib.hid (Kd.R_below HO.out b1); have HB1 := Lib.hid (HB.out.trans (b1.mono HB.out.size)); clear b1; dsimp only)
            repeat (first | go_step3 | go_values | go_skip | go_guarded | go_step | go_upon)
            (go_at_call 28; refine (BS.out _).mono ?_; rintro e w2 ⟨rfl, b1⟩; have HO2 := Lib.hid (Kd.R_below HO1.out b1); have HB2 := Lib.hid (HB1.out.trans (b1.mono HB1.out.size)); clear b1; dsimp only)
            repeat (first | go_step3 | go_values | go_skip | go_guarded | go_step | go_upon)
            (go_at_call 32; refine (HOn.out _).mono ?_; rintro e w3 ⟨rfl, b1⟩; have HO3 := Lib.hid (Kd.R_below HO2.out b1); have HB3 := Lib.hid (HB2.out.trans (b1.mono HB2.out.size)); clear b1; dsimp only)
            repeat (first | ((with_reducible refine gate_dst (N := 10) rfl ?_); refine box_event ?hg (N := 10) ?hd (cs := #[.int .i64 0, .string (⟨#[]⟩ : ByteArray), .int .i64 0]) (t := 35) ?hr ?_; (case hd => rfl); (case hg => rfl); (case hr => first | (go_simp; done) | (go_simp; rfl)); intro gb hgb w4 hbox hb; have HO4 := Lib.hid (Kd.R_below (Kd.R_elderB HO3.out gb (Nat.le_of_eq hgb.symm)) hb); have HB4 := Lib.hid (HB3.out.trans (hb.mono HB3.out.size)); have BK4 := Lib.hid hbox; have GE : Hid (w.heap.size ≤ gb) := Lib.hid (by rw [hgb]; exact HB3.out.size); clear hb hbox hgb; have hcz0 : w4.cell? ⟨gb, 0, none⟩ = some (.int .i64 0) := (blk_cell BK4.out 0).trans rfl; have hcz1 : w4.cell? ⟨gb, 1, none⟩ = some (.string (⟨#[]⟩ : ByteArray)) := (blk_cell BK4.out 1).trans rfl; have hcz2 : w4.cell? ⟨gb, 2, none⟩ = some (.int .i64 0) := (blk_cell BK4.out 2).trans rfl; have hf0 := blk_frozen BK4.out 0; have hf1 := blk_frozen BK4.out 1; have hf2 := blk_frozen BK4.out 2) | ((with_reducible refine gate_dst (N := 79) rfl ?_); have BK5 : Hid (((((w4.setCell ⟨gb, 0, none⟩ (.int .i64 kd)).setCell ⟨gb, 1, none⟩ (.string tx)).setCell ⟨gb, 2, none⟩ (.int .i64 0)).setCell ⟨gb, 2, none⟩ (.int .i64 (k : Int))).heap[gb]? = some (.cells #[.int .i64 kd, .string tx, .int .i64 (k : Int)] 35 (0, 0))) := Lib.hid (blk_put (cs := #[.int .i64 kd, .string tx, .int .i64 0]) (cs' := #[.int .i64 kd, .string tx, .int .i64 (k : Int)]) (blk_put (cs := #[.int .i64 kd, .string tx, .int .i64 0]) (cs' := #[.int .i64 kd, .string tx, .int .i64 0]) (blk_put (cs := #[.int .i64 kd, .string (⟨#[]⟩ : ByteArray), .int .i64 0]) (cs' := #[.int .i64 kd, .string tx, .int .i64 0]) (blk_put (cs := #[.int .i64 0, .string (⟨#[]⟩ : ByteArray), .int .i64 0]) (cs' := #[.int .i64 kd, .string (⟨#[]⟩ : ByteArray), .int .i64 0]) BK4.out 0 (.int .i64 kd) rfl) 1 (.string tx) rfl) 2 (.int .i64 0) rfl) 2 (.int .i64 (k : Int)) rfl); have HO5 : Hid (Kd.R k35 35 ((((w4.setCell ⟨gb, 0, none⟩ (.int .i64 kd)).setCell ⟨gb, 1, none⟩ (.string tx)).setCell ⟨gb, 2, none⟩ (.int .i64 0)).setCell ⟨gb, 2, none⟩ (.int .i64 (k : Int))) w.heap.size (fun k => k ≠ gb) _ (acc.map tkS)) := Lib.hid (Kd.R_mono (Kd.R_far (p := ⟨gb, 2, none⟩) (Kd.R_far (p := ⟨gb, 2, none⟩) (Kd.R_far (p := ⟨gb, 1, none⟩) (Kd.R_far (p := ⟨gb, 0, none⟩) HO4.out (fun _ hk => hk.2) (.int .i64 kd)) (fun _ hk => hk.2) (.string tx)) (fun _ hk => hk.2) (.int .i64 0)) (fun _ hk => hk.2) (.int .i64 (k : Int))) (fun _ hk => hk.2)); have HB5 : Hid (Below w.heap.size w ((((w4.setCell ⟨gb, 0, none⟩ (.int .i64 kd)).setCell ⟨gb, 1, none⟩ (.string tx)).setCell ⟨gb, 2, none⟩ (.int .i64 0)).setCell ⟨gb, 2, none⟩ (.int .i64 (k : Int)))) := Lib.hid ((((HB4.out.setCell GE.out _).setCell GE.out _).setCell GE.out _).setCell GE.out _); clear BK4 HO4 HB4 hcz0 hcz1 hcz2 hf0 hf1 hf2; generalize ((((w4.setCell ⟨gb, 0, none⟩ (.int .i64 kd)).setCell ⟨gb, 1, none⟩ (.string tx)).setCell ⟨gb, 2, none⟩ (.int .i64 0)).setCell ⟨gb, 2, none⟩ (.int .i64 (k : Int))) = w5 at BK5 HO5 HB5 ⊢; have hcz0 : w5.cell? ⟨gb, 0, none⟩ = some (.int .i64 kd) := (blk_cell BK5.out 0).trans rfl; have hcz1 : w5.cell? ⟨gb, 1, none⟩ = some (.string tx) := (blk_cell BK5.out 1).trans rfl; have hcz2 : w5.cell? ⟨gb, 2, none⟩ = some (.int .i64 (k : Int)) := (blk_cell BK5.out 2).trans rfl) | ((with_reducible refine gate_builtin (b := .append) (xs := #[.tmp 78, .tmp 80]) rfl ?_); at_builtin; refine Kd.R_append k35 (w0 := w) w.heap.size rfl (.tmp 78) (.tmp 80) 22 35 (.agg #[(.int .i64 0), (.string ⟨#[]⟩), (.int .i64 0)]) 32 rfl Try.underlying22 info35 rfl (by decide) (by omega) _ (acc.map tkS) (⟨kd, tx, (k : Int)⟩ : S35) [.int .i64 kd, .string tx, .int .i64 (k : Int)] (fun k_ => k_ ≠ gb) (fun _ => False) rfl (by first | (go_simp; done) | (go_simp; rfl)) ?aP (fun _ hk => hk.elim) ?aF ?aO ?aB ?aS ?aL ?_; (case aP => exact k35_mkM _ _ _ (⟨kd, tx, (k : Int)⟩ : S35)); (case aB => exact HB5.out); (case aF => exact fun k_ hk => Kd.freshB BK5.out k_ hk); (case aO => exact HO5.out); (case aS => exact HB5.out.size); (case aL => have := HZ.out; rw [List.length_map]; omega); intro v6 w6 ho hb6 hg6 hat6; have HO6 := Lib.hid ho; have HB6 := Lib.hid hb6; clear ho hb6 hg6 hat6 BK5 HO5 HB5 hcz0 hcz1 hcz2) | go_step3 | go_values | go_skip | go_guarded | go_step | go_upon)
            go_roundw
            case rel =>
              refine ⟨k + n, acc ++ [⟨kd, t, k⟩], by go_num, HP.out.2, Lib.hid ?_, HB6, HS1, Lib.hid ?_⟩
              · rw [List.map_append, List.map_cons, List.map_nil, HT.out]
                exact Kd.R_mono HO6.out (fun _ _ => trivial)
              · have := HN.out
                have := HP.out
                rw [List.length_append, List.length_singleton]
                omega
            case measure => have := HP.out; simp [intOf]; omega
          | open_ =>
            rw [hon] at hso hov
            simp only [] at hov
            rw [hov] at HOn
            simp only [] at HOn
            have he := scA_err s k 6 (.inr (.inl ⟨hso, rfl⟩))
            have HF : Hid (F = ([], 6, (k : Int))) := Lib.hid (by
              rw [HSF.out, ← HS.out, he]
              rfl)
            clear hso hov hon he hd hst HBL HRL hrl htr
            generalize (if ((tl s).drop k).head? = some 34 then (2 : Int) else 3) = kq at *
            repeat (first | go_step3 | go_values | go_skip | go_guarded | go_step | go_upon)
            (go_at_call 28; refine (BD.out _).mono ?_; rintro e w1 ⟨rfl, b1⟩; have HO1 := Lib.hid (Kd.R_below HO.out b1); have HB1 := Lib.hid (HB.out.trans (b1.mono HB.out.size)); clear b1; dsimp only)
            repeat (first | go_step3 | go_values | go_skip | go_guarded | go_step | go_upon)
            (go_at_call 28; refine (BS.out _).mono ?_; rintro e w2 ⟨rfl, b1⟩; have HO2 := Lib.hid (Kd.R_below HO1.out b1); have HB2 := Lib.hid (HB1.out.trans (b1.mono HB1.out.size)); clear b1; dsimp only)
            repeat (first | go_step3 | go_values | go_skip | go_guarded | go_step | go_upon)
            (go_at_call 32; refine (HOn.out _).mono ?_; rintro e w3 ⟨rfl, b1⟩; have HO3 := Lib.hid (Kd.R_below HO2.out b1); have HB3 := Lib.hid (HB2.out.trans (b1.mono HB2.out.size)); clear b1; dsimp only)
            repeat (first | ((with_reducible refine gate_dst (N := 10) rfl ?_); refine box_event ?hg (N := 10) ?hd (cs := #[.int .i64 0, .string (⟨#[]⟩ : ByteArray), .int .i64 0]) (t := 35) ?hr ?_; (case hd => rfl); (case hg => rfl); (case hr => first | (go_simp; done) | (go_simp; rfl)); intro gb hgb w4 hbox hb; have HO4 := Lib.hid (Kd.R_below (Kd.R_elderB HO3.out gb (Nat.le_of_eq hgb.symm)) hb); have HB4 := Lib.hid (HB3.out.trans (hb.mono HB3.out.size)); have BK4 := Lib.hid hbox; have GE : Hid (w.heap.size ≤ gb) := Lib.hid (by rw [hgb]; exact HB3.out.size); clear hb hbox hgb; have hcz0 : w4.cell? ⟨gb, 0, none⟩ = some (.int .i64 0) := (blk_cell BK4.out 0).trans rfl; have hcz1 : w4.cell? ⟨gb, 1, none⟩ = some (.string (⟨#[]⟩ : ByteArray)) := (blk_cell BK4.out 1).trans rfl; have hcz2 : w4.cell? ⟨gb, 2, none⟩ = some (.int .i64 0) := (blk_cell BK4.out 2).trans rfl; have hf0 := blk_frozen BK4.out 0; have hf1 := blk_frozen BK4.out 1; have hf2 := blk_frozen BK4.out 2) | go_step3 | go_values | go_skip | go_guarded | go_step | go_upon)
            go_ret3
            rw [HF.out]
            exact ⟨_, rfl, Kd.R_nil _ _ _ _ _, ((HB4.out.setCell GE.out _).setCell GE.out _).setCell GE.out _⟩
          | bad =>
            rw [hon] at hso hov
            simp only [] at hov
            rw [hov] at HOn
            simp only [] at HOn
            have he := scA_err s k 7 (.inr (.inr ⟨hso, rfl⟩))
            have HF : Hid (F = ([], 7, (k : Int))) := Lib.hid (by
              rw [HSF.out, ← HS.out, he]
              rfl)
            clear hso hov hon he hd hst HBL HRL hrl htr
            repeat (first | go_step3 | go_values | go_skip | go_guarded | go_step | go_upon)
            (go_at_call 28; refine (BD.out _).mono ?_; rintro e w1 ⟨rfl, b1⟩; have HO1 := Lib.hid (Kd.R_below HO.out b1); have HB1 := Lib.hid (HB.out.trans (b1.mono HB.out.size)); clear b1; dsimp only)
            repeat (first | go_step3 | go_values | go_skip | go_guarded | go_step | go_upon)
            (go_at_call 28; refine (BS.out _).mono ?_; rintro e w2 ⟨rfl, b1⟩; have HO2 := Lib.hid (Kd.R_below HO1.out b1); have HB2 := Lib.hid (HB1.out.trans (b1.mono HB1.out.size)); clear b1; dsimp only)
            repeat (first | go_step3 | go_values | go_skip | go_guarded | go_step | go_upon)
            (go_at_call 32; refine (HOn.out _).mono ?_; rintro e w3 ⟨rfl, b1⟩; have HO3 := Lib.hid (Kd.R_below HO2.out b1); have HB3 := Lib.hid (HB2.out.trans (b1.mono HB2.out.size)); clear b1; dsimp only)
            repeat (first | ((with_reducible refine gate_dst (N := 10) rfl ?_); refine box_event ?hg (N := 10) ?hd (cs := #[.int .i64 0, .string (⟨#[]⟩ : ByteArray), .int .i64 0]) (t := 35) ?hr ?_; (case hd => rfl); (case hg => rfl); (case hr => first | (go_simp; done) | (go_simp; rfl)); intro gb hgb w4 hbox hb; have HO4 := Lib.hid (Kd.R_below (Kd.R_elderB HO3.out gb (Nat.le_of_eq hgb.symm)) hb); have HB4 := Lib.hid (HB3.out.trans (hb.mono HB3.out.size)); have BK4 := Lib.hid hbox; have GE : Hid (w.heap.size ≤ gb) := Lib.hid (by rw [hgb]; exact HB3.out.size); clear hb hbox hgb; have hcz0 : w4.cell? ⟨gb, 0, none⟩ = some (.int .i64 0) := (blk_cell BK4.out 0).trans rfl; have hcz1 : w4.cell? ⟨gb, 1, none⟩ = some (.string (⟨#[]⟩ : ByteArray)) := (blk_cell BK4.out 1).trans rfl; have hcz2 : w4.cell? ⟨gb, 2, none⟩ = some (.int .i64 0) := (blk_cell BK4.out 2).trans rfl; have hf0 := blk_frozen BK4.out 0; have hf1 := blk_frozen BK4.out 1; have hf2 := blk_frozen BK4.out 2) | go_step3 | go_values | go_skip | go_guarded | go_step | go_upon)
            go_ret3
            rw [HF.out]
            exact ⟨_, rfl, Kd.R_nil _ _ _ _ _, ((HB4.out.setCell GE.out _).setCell GE.out _).setCell GE.out _⟩
    · have HF : Hid (F = (acc.map tkS, 0, 0)) := Lib.hid (by
        rw [HSF.out, ← HS.out, scA_end s k (by omega)]
        simp [Res.pre])
      have hge : ¬ (k : Int) < s.size := by omega
      repeat (first | go_step3 | go_values | go_skip | go_guarded | go_step | go_upon)
      go_ret3
      rw [HF.out]
      exact ⟨_, rfl, HO.out, HB.out⟩
/-! ### lexer_Scan: function 19, by hand -/
def lexer_Scan.f (a0 : ByteArray) : Option (List (S35) × Int × Int) := if a0.size ≤ 140737488351232 then some (scanF a0) else none
theorem lexer_Scan.calls (a0 : ByteArray) (r1 : List (S35)) (r2 : Int) (r3 : Int) (w : World) (h : lexer_Scan.f a0 = some (r1, r2, r3)) :
    Calls Try.prog 19 #[.string a0] w fun e w' => ∃ v0_ : Value, e = .returned (.tuple #[v0_, .int .i64 r2, .int .i64 r3]) ∧ Kd.R k35 35 w' w.heap.size (fun _ => True) v0_ r1 ∧ Below w.heap.size w w' := by
  unfold lexer_Scan.f at h
  split at h
  · rename_i hc
    have hs := Scan_any a0 hc w
    rw [Option.some.inj h] at hs
    exact hs
  · cases h

end Go.Proofs.Ytgfppniifjabdaa.Pb
