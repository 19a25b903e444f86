/- lexer: the document's Scan, whole: the plain words' Scan. -/
import Derived.Test.YtgfppniifjabdaaNoQ3
namespace Go.Proofs.Ytgfppniifjabdaa
open Go Go.RowKit Go.Proofs.Ytgfppniifjabdaa.Pb Go.Proofs.YtgfppniifjabdaaW.PrintWords Go.Proofs.YtgfppniifjabdaaW.PrintLast
set_option linter.unusedSimpArgs false

def oneR (i : Nat) : One → Int × ByteArray × Int × Int × Int
  | .tok k t n => (k, ofL t, (i : Int), ((i + n : Nat) : Int), 0)
  | .open_ => (0, ⟨#[]⟩, 0, 0, 6)
  | .bad => (0, ⟨#[]⟩, 0, 0, 7)
theorem row_word (c : UInt8) : rowB 1 c = wordB c := by unfold rowB wordB; cases digB c <;> cases letB c <;> simp
theorem row_num (c : UInt8) : rowB 4 c = numB c := by unfold rowB numB; cases digB c <;> simp
theorem row_dig (c : UInt8) : rowB 0 c = digB c := by unfold rowB; simp
theorem tl_piece (s : ByteArray) (i n : Nat) : tl (s.extract i (i + n)) = ((tl s).drop i).take n := by rw [tl_ext, List.drop_take, Nat.add_sub_cancel_left]
theorem rone_f (s : ByteArray) (hs : s.size ≤ 2000) (i k : Nat) (hi : i < s.size) (hk : 2010 < k) : pontoonref04_one.f k s (i : Int) = some (oneR i (oneL ((tl s).drop i))) := by
  have hd := dropc s i hi
  have hln : ((tl s).drop (i + 1)).length = s.size - (i + 1) := by rw [List.length_drop, tl_len]
  have e34 : (((s[i].toNat : Nat) : Int) = 34) ↔ s[i] = 34 := u8_eq _ 34
  have e36 : (((s[i].toNat : Nat) : Int) = 36) ↔ s[i] = 36 := u8_eq _ 36
  have e39 : (((s[i].toNat : Nat) : Int) == 39) = (s[i] == 39) := u8_num _ 39 39 rfl
  have hone : oneL ((tl s).drop i) = oneC s[i] ((tl s).drop (i + 1)) := by rw [hd]; rfl
  unfold pontoonref04_one.f
  rw [if_pos (by omega), if_pos (by omega), bt_i s i hi, rlet_f, rdig_f, Option.bind_some, Option.bind_some, hone]
  unfold oneC
  rw [← hd]
  cases hl : letB s[i]
  · simp only [Bool.false_eq_true, if_false]
    cases hdg : digB s[i]
    · simp only [Bool.false_eq_true, if_false]
      -- quotes
      obtain ⟨k, rfl⟩ : ∃ j, k = j + 3 := ⟨k - 3, by omega⟩
      have hQ : ∀ kd : Int, (kd = if s[i] = 34 then 2 else 3) → pontoonref04_one.j0 (k + 3) s (i : Int) ((s[i].toNat : Nat) : Int) true = some (oneR i (match quoL s[i] ((tl s).drop (i + 1)) with | none => .open_ | some (t, n) => .tok kd t (n + 1))) := by
        intro kd hkd
        have hq : pontoonref04_quoted.f (k + 2) s (i : Int) = some (quoO [] (i + 1) (quoL s[i] ((tl s).drop (i + 1)))) := by
          unfold pontoonref04_quoted.f
          rw [if_pos (by omega), if_pos (by omega), bt_i s i hi, wrp (by omega) (by omega), show ((i : Int) + 1) = ((i + 1 : Nat) : Int) by omega]
          exact rquoted_l s hs s[i] (s.size - (i + 1)) (k + 2) (i + 1) [] (by omega) (by omega) (by simp)
        rw [show k + 3 = (k + 2) + 1 from rfl, pontoonref04_one.j0, if_pos rfl, hq, Option.bind_some]
        cases quoL s[i] ((tl s).drop (i + 1)) with
        | none => rfl
        | some o =>
          simp only [quoO, List.nil_append]
          refine (if_neg (show ¬ ((i + 1 + o.2 : Nat) : Int) < 0 by omega)).trans ?_
          by_cases h34 : s[i] = 34
          · refine (if_pos (e34.2 h34)).trans ?_
            rw [hkd, if_pos h34]
            simp only [oneR]
            rw [show i + 1 + o.2 = i + (o.2 + 1) by omega]
          · refine (if_neg (fun e => h34 (e34.1 e))).trans ?_
            rw [hkd, if_neg h34]
            simp only [oneR]
            rw [show i + 1 + o.2 = i + (o.2 + 1) by omega]
      by_cases h34 : s[i] = 34
      · rw [if_pos (e34.2 h34), if_pos h34, hQ 2 (by rw [if_pos h34]), h34]
        cases quoL 34 ((tl s).drop (i + 1)) <;> rfl
      · rw [if_neg (fun e => h34 (e34.1 e)), if_neg h34, e39]
        by_cases h39 : s[i] = 39
        · rw [if_pos h39, beq_iff_eq.2 h39, hQ 3 (by rw [if_neg h34]), h39]
          cases quoL 39 ((tl s).drop (i + 1)) <;> rfl
        · rw [if_neg h39, beq_eq_false_iff_ne.2 h39, show k + 3 = (k + 2) + 1 from rfl, pontoonref04_one.j0, if_neg (by decide)]
          -- the sign
          have hS : s[i] ≠ 36 ∨ runL digB ((tl s).drop (i + 1)) = 0 → pontoonref04_one.j2 (k + 1) s (i : Int) ((s[i].toNat : Nat) : Int) false = some (oneR i (if signB s[i] then .tok 5 [s[i]] 1 else .bad)) := by
            intro _
            rw [pontoonref04_one.j2, if_neg (by decide), rsgn_f, Option.bind_some]
            cases signB s[i]
            · rfl
            · have hx : s.extract i (i + 1) = ofL [s[i]] := tl_inj (by rw [tl_piece, tl_ofL, hd]; rfl)
              rw [if_pos rfl, if_pos (by omega), wrp (by omega) (by omega), if_pos (show (i : Int) ≤ (i : Int) + 1 by omega), if_pos (show (i : Int) + 1 ≤ (s.size : Int) by omega), Int.toNat_natCast, show ((i : Int) + 1).toNat = i + 1 by omega, hx]
              simp only [if_true, oneR]
              congr 1
          by_cases h36 : s[i] = 36
          · rw [if_pos (e36.2 h36), if_pos h36, rtag_f s hs i (k + 2) hi (by omega), Option.bind_some]
            cases ht : tagL ((tl s).drop (i + 1)) with
            | some n =>
              have hb := tagL_le _ _ ht
              simp only []
              have hpos : decide (((i + n : Nat) : Int) > 0) = true := decide_eq_true (by omega)
              rw [hpos, show k + 2 = (k + 1) + 1 from rfl, pontoonref04_one.j1, if_pos rfl, rtag_f s hs i (k + 1) hi (by omega), Option.bind_some, ht]
              simp only []
              have hdl : pontoonref04_dollar.f (k + 1) s (i : Int) ((i + n : Nat) : Int) = some (match dolL (((tl s).take (i + n)).drop i) ((tl s).drop (i + n)) with | some o => (s.extract (i + n) (i + n + o.1.length), ((i + n + o.2 : Nat) : Int)) | none => (⟨#[]⟩, -1)) := rdollar_l s hs i (i + n) (by omega) (by omega) (s.size - (i + n)) (k + 1) (i + n) (by omega) (by omega) (Nat.le_refl _)
              rw [hdl, Option.bind_some, List.drop_take, Nat.add_sub_cancel_left, List.drop_drop]
              cases hdd : dolL (((tl s).drop i).take n) ((tl s).drop (i + n)) with
              | none => rfl
              | some o =>
                obtain ⟨q1, q2, q3⟩ := dolL_take _ _ o.1 o.2 hdd
                have hx : s.extract (i + n) (i + n + o.1.length) = ofL o.1 := tl_inj (by rw [tl_piece, tl_ofL]; exact q1.symm)
                simp only []
                rw [if_neg (by omega), hx]
                simp only [oneR]
                rw [show i + n + o.2 = i + (n + o.2) by omega]
            | none =>
              simp only []
              have hneg : decide ((-1 : Int) > 0) = false := by decide
              have hle := runL_le digB ((tl s).drop (i + 1))
              have hrw := rrow_f s hs 0 digB row_dig (k + 1) (i + 1) (by omega) (by omega)
              rw [hneg, show k + 2 = (k + 1) + 1 from rfl, pontoonref04_one.j1, if_neg (by decide), if_pos (e36.2 h36), wrp (by omega) (by omega), show ((i : Int) + 1) = ((i + 1 : Nat) : Int) by omega, hrw, Option.bind_some]
              by_cases hz : runL digB ((tl s).drop (i + 1)) = 0
              · have hns : signB s[i] = false := by rw [h36]; decide
                rw [decide_eq_false (by omega), hS (.inr hz), if_pos hz, hns]
                rfl
              · have hx : s.extract i (i + 1 + runL digB ((tl s).drop (i + 1))) = ofL (((tl s).drop i).take (runL digB ((tl s).drop (i + 1)) + 1)) := tl_inj (by rw [show i + 1 + runL digB ((tl s).drop (i + 1)) = i + (runL digB ((tl s).drop (i + 1)) + 1) by omega, tl_piece, tl_ofL])
                have hrw' := rrow_f s hs 0 digB row_dig k (i + 1) (by omega) (by omega)
                rw [decide_eq_true (by omega), if_neg hz, pontoonref04_one.j2, if_pos rfl, wrp (by omega) (by omega), show ((i : Int) + 1) = ((i + 1 : Nat) : Int) by omega, hrw', Option.bind_some, if_pos (by omega), if_pos (by omega), if_pos (by omega), Int.toNat_natCast, Int.toNat_natCast, hx]
                simp only [oneR]
                rw [show i + 1 + runL digB ((tl s).drop (i + 1)) = i + (runL digB ((tl s).drop (i + 1)) + 1) by omega]
          · rw [if_neg (fun e => h36 (e36.1 e)), if_neg h36, show k + 2 = (k + 1) + 1 from rfl, pontoonref04_one.j1, if_neg (by decide), if_neg (fun e => h36 (e36.1 e))]
            exact hS (.inl h36)
    · simp only [if_true]
      have hle := runL_le numB ((tl s).drop i)
      rw [List.length_drop, tl_len] at hle
      have hx : s.extract i (i + runL numB ((tl s).drop i)) = ofL (((tl s).drop i).take (runL numB ((tl s).drop i))) := tl_inj (by rw [tl_piece, tl_ofL])
      rw [rrow_f s hs 4 numB row_num k i (by omega) (by omega), Option.bind_some, if_pos (by omega), if_pos (by omega), Int.toNat_natCast, Int.toNat_natCast, hx]
      rfl
  · simp only [if_true]
    have hle := runL_le wordB ((tl s).drop i)
    rw [List.length_drop, tl_len] at hle
    have hx : smallF (s.extract i (i + runL wordB ((tl s).drop i))) = ofL ((((tl s).drop i).take (runL wordB ((tl s).drop i))).map lowB) := tl_inj (by rw [tl_small, tl_piece, tl_ofL])
    have hsz := ext_le s i (i + runL wordB ((tl s).drop i))
    rw [rrow_f s hs 1 wordB row_word k i (by omega) (by omega), Option.bind_some, if_pos (by omega), if_pos (by omega), Int.toNat_natCast, Int.toNat_natCast]
    unfold pontoonref04_small.f
    rw [if_pos (by omega), Option.bind_some, hx]
    rfl
/-! gaps -/
theorem rgap_line (s : ByteArray) (hs : s.size ≤ 2000) : ∀ (m k i : Nat), i + m = s.size → m + 1 < k → ∃ k', k ≤ k' + m + 1 ∧ k' < k ∧ pontoonref04_gap.l1 k s (i : Int) = pontoonref04_gap.l0 k' s ((i + runL (fun c => c != 10) ((tl s).drop i) : Nat) : Int) := by
  intro m
  induction m with
  | zero =>
    intro k i hi hk
    obtain ⟨k, rfl⟩ : ∃ j, k = j + 1 := ⟨k - 1, by omega⟩
    refine ⟨k, by omega, by omega, ?_⟩
    rw [pontoonref04_gap.l1, if_neg (by omega), List.drop_of_length_le (by rw [tl_len]; omega)]
    rfl
  | succ m ih =>
    intro k i hi hk
    obtain ⟨k, rfl⟩ : ∃ j, k = j + 1 := ⟨k - 1, by omega⟩
    have hlt : i < s.size := by omega
    rw [pontoonref04_gap.l1, if_pos (by omega), if_pos (by omega), bt_i s i hlt, dropc s i hlt]
    show ∃ k', _ ∧ _ ∧ _ = pontoonref04_gap.l0 k' s ((i + (if (s[i] != 10) = true then runL (fun c => c != 10) ((tl s).drop (i + 1)) + 1 else 0) : Nat) : Int)
    have e10 : ((s[i].toNat : Nat) : Int) = 10 ↔ s[i] = 10 := u8_eq _ 10
    by_cases h10 : s[i] = 10
    · refine ⟨k, by omega, by omega, ?_⟩
      rw [if_pos (e10.2 h10), if_neg (by rw [h10]; decide)]
      rfl
    · obtain ⟨k', a1, a2, a3⟩ := ih k (i + 1) (by omega) (by omega)
      refine ⟨k', by omega, by omega, ?_⟩
      rw [if_neg (fun e => h10 (e10.1 e)), if_pos (bne_iff_ne.2 h10), wrp (by omega) (by omega), show ((i : Int) + 1) = ((i + 1 : Nat) : Int) by omega, a3]
      congr 1
      omega
/-- Behind a gap: what is still to be told is the same; a remark that does not end; or what one tells. -/
def GapR (s : ByteArray) (i j : Nat) (b : Bool) : Prop := i ≤ j ∧ j ≤ s.size ∧ scA s i = scA s j ∧ (b = true → j < s.size ∧ stepL ((tl s).drop j) = .open_) ∧ (b = false → j < s.size → stepL ((tl s).drop j) = .one (oneL ((tl s).drop j)))
set_option maxRecDepth 100000 in
theorem rgap_l (s : ByteArray) (hs : s.size ≤ 2000) : ∀ (m k i : Nat), i + m = s.size → m * 2003 + 2010 < k → ∃ (j : Nat) (b : Bool), pontoonref04_gap.l0 k s (i : Int) = some ((j : Int), b) ∧ GapR s i j b := by
  intro m
  induction m using Nat.strongRecOn with
  | ind m ih =>
    intro k i hi hk
    obtain ⟨k, rfl⟩ : ∃ j, k = j + 2 := ⟨k - 2, by omega⟩
    have hk2 : m * 2003 + 7 < k := by omega
    have hk3 : m + 1 < k := by omega
    by_cases c : i < s.size
    · have next : ∀ (n k' : Nat), stepL ((tl s).drop i) = .gap n → m * 2003 + 7 < k' → ∃ (j : Nat) (b : Bool), pontoonref04_gap.l0 k' s ((i + n : Nat) : Int) = some ((j : Int), b) ∧ GapR s i j b := by
        intro n k' hst hk'
        obtain ⟨g1, g2, g3⟩ := scA_gap s i n c hst
        have hmul : (m - n) * 2003 + 2003 ≤ m * 2003 := by
          have : (m - n) + 1 ≤ m := by omega
          have := Nat.mul_le_mul_right 2003 this
          omega
        obtain ⟨j, b, e, r1, r2, r3, r4⟩ := ih (m - n) (by omega) k' (i + n) (by omega) (by omega)
        exact ⟨j, b, e, by omega, r2, g1.trans r3, r4⟩
      have hT : blankB s[i] = true → ∃ (j : Nat) (b : Bool), pontoonref04_gap.j1 (k + 1) s (i : Int) true = some ((j : Int), b) ∧ GapR s i j b := by
        intro hb
        rw [pontoonref04_gap.j1, if_pos rfl, wrp (by omega) (by omega), show ((i : Int) + 1) = ((i + 1 : Nat) : Int) by omega]
        exact next 1 k (step_blank s i c hb) hk2
      have hF : blankB s[i] = false → ∃ (j : Nat) (b : Bool), pontoonref04_gap.j1 (k + 1) s (i : Int) false = some ((j : Int), b) ∧ GapR s i j b := by
        intro hb
        have ed : tl ⟨#[45, 45]⟩ = [45, 45] := rfl
        have es : tl ⟨#[47, 42]⟩ = [47, 42] := rfl
        rw [pontoonref04_gap.j1, if_neg (by decide), rstarts_f s hs i _ (by omega) (by decide), rstarts_f s hs i _ (by omega) (by decide), Option.bind_some, Option.bind_some, ed, es]
        cases hd : [45, 45].isPrefixOf ((tl s).drop i)
        · simp only [Bool.false_eq_true, if_false]
          cases hst : [47, 42].isPrefixOf ((tl s).drop i)
          · simp only [Bool.false_eq_true, if_false]
            exact ⟨i, false, rfl, Nat.le_refl _, by omega, rfl, (fun h => by cases h), fun _ _ => step_one s i c hb hd hst⟩
          · simp only [if_true]
            have hrm : pontoonref04_remark.f k s (i : Int) = some (negOr i (remL ((tl s).drop i) 0)) := rremark_l s hs m k i 0 hi (by clear hk hk2; omega) (Nat.zero_le _) (.inr hst) 0 rfl
            have hss := step_star s i c hb hd hst
            rw [hrm, Option.bind_some]
            cases hr : remL ((tl s).drop i) 0 with
            | none =>
              rw [hr] at hss
              exact ⟨i, true, rfl, Nat.le_refl _, by omega, rfl, (fun _ => ⟨c, hss⟩), fun h => by cases h⟩
            | some n =>
              rw [hr] at hss
              have hnn : ¬ ((i + n : Nat) : Int) < 0 := by omega
              simp only [negOr, hnn, if_false]
              exact next n k hss hk2
        · simp only [if_true]
          obtain ⟨k', a1, a2, a3⟩ := rgap_line s hs m k i hi hk3
          have hk4 : m * 2003 + 7 < k' := by omega
          rw [a3]
          exact next _ k' (step_dash s i c hb hd) hk4
      have e32 : ((s[i].toNat : Nat) : Int) = 32 ↔ s[i] = 32 := u8_eq _ 32
      have e9 : ((s[i].toNat : Nat) : Int) = 9 ↔ s[i] = 9 := u8_eq _ 9
      have e10 : ((s[i].toNat : Nat) : Int) = 10 ↔ s[i] = 10 := u8_eq _ 10
      have e12 : ((s[i].toNat : Nat) : Int) = 12 ↔ s[i] = 12 := u8_eq _ 12
      have e13 := u8_num s[i] 13 13 rfl
      rw [show k + 2 = (k + 1) + 1 from rfl, pontoonref04_gap.l0, if_pos (by omega), if_pos (by omega), bt_i s i c, e13]
      by_cases h1 : s[i] = 32
      · rw [if_pos (e32.2 h1)]
        exact hT (by rw [h1]; decide)
      rw [if_neg (fun e => h1 (e32.1 e))]
      by_cases h2 : s[i] = 9
      · rw [if_pos (e9.2 h2)]
        exact hT (by rw [h2]; decide)
      rw [if_neg (fun e => h2 (e9.1 e))]
      by_cases h3 : s[i] = 10
      · rw [if_pos (e10.2 h3)]
        exact hT (by rw [h3]; decide)
      rw [if_neg (fun e => h3 (e10.1 e))]
      by_cases h4 : s[i] = 12
      · rw [if_pos (e12.2 h4)]
        exact hT (by rw [h4]; decide)
      rw [if_neg (fun e => h4 (e12.1 e))]
      by_cases h5 : s[i] = 13
      · rw [beq_iff_eq.2 h5]
        exact hT (by rw [h5]; decide)
      · rw [beq_eq_false_iff_ne.2 h5]
        refine hF ?_
        unfold blankB
        rw [beq_eq_false_iff_ne.2 h1, beq_eq_false_iff_ne.2 h2, beq_eq_false_iff_ne.2 h3, beq_eq_false_iff_ne.2 h4, beq_eq_false_iff_ne.2 h5]
        rfl
    · rw [show k + 2 = (k + 1) + 1 from rfl, pontoonref04_gap.l0, if_neg (by omega)]
      exact ⟨i, false, rfl, Nat.le_refl _, by omega, rfl, (fun h => by cases h), fun _ h => absurd h c⟩
/-- What Scan tells, from what is still to be told. -/
def resF : Res → List S35 × Int × Int
  | .ok l => (l.map tkS, 0, 0)
  | .err e a => ([], e, a)
def KB : Nat := 5000000
theorem rscan_l (s : ByteArray) (hs : s.size ≤ 2000) : ∀ (m k i : Nat) (acc : List Tk) (b : Bool), i + m = s.size → 2 * m + KB < k → acc.length ≤ i → GapR s i i b → pontoonref04_Scan.l0 k s (acc.map tkS) (i : Int) b = some (resF ((scA s i).pre acc)) := by
  intro m
  induction m using Nat.strongRecOn with
  | ind m ih =>
    intro k i acc b hi hk ha hg
    have hKB : KB = 5000000 := rfl
    obtain ⟨k, rfl⟩ : ∃ j, k = j + 2 := ⟨k - 2, by omega⟩
    obtain ⟨_, _, _, g1, g2⟩ := hg
    rw [show k + 2 = (k + 1) + 1 from rfl, pontoonref04_Scan.l0]
    by_cases c : i < s.size
    · rw [if_pos (by omega)]
      cases b
      · have hst := g2 rfl c
        rw [pontoonref04_Scan.j1]
        rw [if_pos (show (!false) = true from rfl), rone_f s hs i k c (by omega), Option.bind_some]
        cases hon : oneL ((tl s).drop i) with
        | tok kd t n =>
          rw [hon] at hst
          obtain ⟨q1, q2, q3⟩ := scA_tok s i n kd t c hst
          refine (if_pos (show (0 : Int) = 0 from rfl)).trans ?_
          rw [if_pos (by rw [List.length_map]; omega)]
          show ((pontoonref04_gap.f k s ((i + n : Nat) : Int)).bind fun bt197 => pontoonref04_Scan.l0 k s (acc.map tkS ++ [(⟨kd, ofL t, (i : Int)⟩ : S35)]) bt197.1 bt197.2) = _
          obtain ⟨j, b', e, hgr⟩ := rgap_l s hs (s.size - (i + n)) k (i + n) (by omega) (by omega)
          have e' : pontoonref04_gap.f k s ((i + n : Nat) : Int) = some ((j : Int), b') := e
          obtain ⟨r1, r2, r3, r4, r5⟩ := hgr
          rw [e', Option.bind_some]
          have hap : acc.map tkS ++ [(⟨kd, ofL t, (i : Int)⟩ : S35)] = (acc ++ [(⟨kd, t, i⟩ : Tk)]).map tkS := by rw [List.map_append]; rfl
          rw [hap, ih (s.size - j) (by omega) k j _ b' (by omega) (by omega) (by rw [List.length_append, List.length_singleton]; omega) ⟨Nat.le_refl _, r2, rfl, r4, r5⟩, q1, pre_cons, r3]
        | open_ =>
          rw [hon] at hst
          rw [scA_err s i 6 (.inr (.inl ⟨hst, rfl⟩))]
          exact (if_neg (show ¬ (6 : Int) = 0 by decide)).trans rfl
        | bad =>
          rw [hon] at hst
          rw [scA_err s i 7 (.inr (.inr ⟨hst, rfl⟩))]
          exact (if_neg (show ¬ (7 : Int) = 0 by decide)).trans rfl
      · obtain ⟨_, hst⟩ := g1 rfl
        rw [pontoonref04_Scan.j1]
        rw [if_neg (show ¬ (!true) = true by decide), if_pos rfl, scA_err s i 6 (.inl ⟨hst, rfl⟩)]
        rfl
    · rw [if_neg (by omega), pontoonref04_Scan.j1, if_neg (by decide)]
      cases b
      · rw [if_neg (by decide), scA_end s i (by omega)]
        simp [resF, Res.pre]
      · exact absurd (g1 rfl).1 c
theorem rscan_f (s : ByteArray) : pontoonref04_Scan.f 6000000 s = some (scanF s) := by
  unfold pontoonref04_Scan.f
  by_cases hb : s.size > 2000
  · rw [if_pos (by omega), scanF_big s hb]
  · have hs : s.size ≤ 2000 := by omega
    have hKB : KB = 5000000 := rfl
    obtain ⟨j, b, e, r1, r2, r3, r4, r5⟩ := rgap_l s hs s.size 6000000 0 (by omega) (by omega)
    have e' : pontoonref04_gap.f 6000000 s 0 = some ((j : Int), b) := e
    rw [if_neg (by omega), e', Option.bind_some]
    have h := rscan_l s hs (s.size - j) 6000000 j [] b (by omega) (by omega) (Nat.zero_le _) ⟨Nat.le_refl _, r2, rfl, r4, r5⟩
    have hsc : (scA s j).pre [] = scan (tl s) := by
      rw [← r3]
      have : scA s 0 = scan (tl s) := by unfold scA scan; rw [List.drop_zero, Nat.sub_zero, tl_len]
      rw [this]
      cases scan (tl s) <;> rfl
    rw [hsc] at h
    refine h.trans ?_
    congr 1
    unfold scanF
    rw [if_neg hb]
    cases scan (tl s) <;> rfl
theorem rscan_up (s : ByteArray) (k : Nat) (hk : 6000000 ≤ k) : pontoonref04_Scan.f k s = some (scanF s) := by
  obtain ⟨d, rfl⟩ : ∃ d, k = 6000000 + d := ⟨k - 6000000, by omega⟩
  clear hk
  induction d with
  | zero => exact rscan_f s
  | succ d ih => exact pontoonref04_Scan.mono _ _ _ ih
end Go.Proofs.Ytgfppniifjabdaa
