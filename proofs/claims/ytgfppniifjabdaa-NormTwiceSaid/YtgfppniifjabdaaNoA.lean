/- The lexer in plain words: what stands behind a line's end makes no difference for what stands ahead of it. No program in sight. -/
import Derived.Test.YtgfppniifjabdaaNoS
namespace Go.Proofs.Ytgfppniifjabdaa

theorem remL_eq (c : UInt8) (r : List UInt8) (d : Nat) : remL (c :: r) d = if [47, 42].isPrefixOf (c :: r) then (remL (r.drop 1) (d + 1)).map (· + 2) else if [42, 47].isPrefixOf (c :: r) then (if d = 1 then some 2 else (remL (r.drop 1) (d - 1)).map (· + 2)) else (remL r d).map (· + 1) := by
  conv => lhs; unfold remL
  split
  · rename_i h
    cases h
  · rename_i h
    cases h
    rfl
  · rename_i h
    cases h
    rfl
  · rename_i h1 h2 h
    cases h
    rw [if_neg, if_neg]
    · intro hp
      cases r with
      | nil => simp at hp
      | cons e m =>
        simp at hp
        exact h2 m hp.1.symm (by rw [hp.2])
    · intro hp
      cases r with
      | nil => simp at hp
      | cons e m =>
        simp at hp
        exact h1 m hp.1.symm (by rw [hp.2])
section
variable (t : List UInt8)
theorem runL_app (p : UInt8 → Bool) (hp : p 10 = false) : ∀ l, runL p (l ++ 10 :: t) = runL p l
  | [] => by
    show (if p 10 then _ else 0) = 0
    rw [hp]
    rfl
  | c :: r => by
    show (if p c then runL p (r ++ 10 :: t) + 1 else 0) = if p c then runL p r + 1 else 0
    rw [runL_app p hp r]
theorem pre_app {T l x : List UInt8} (h : T.isPrefixOf l = true) : T.isPrefixOf (l ++ x) = true := by
  rw [List.isPrefixOf_iff_prefix] at *
  exact h.trans (List.prefix_append _ _)
theorem pre_back {T l x : List UInt8} (hl : T.length ≤ l.length) (h : T.isPrefixOf (l ++ x) = true) : T.isPrefixOf l = true := by
  rw [List.isPrefixOf_iff_prefix] at *
  exact List.prefix_of_prefix_length_le h (List.prefix_append _ _) hl
theorem pre2_app (a b c : UInt8) (hb : b ≠ 10) (r : List UInt8) : [a, b].isPrefixOf (c :: (r ++ 10 :: t)) = [a, b].isPrefixOf (c :: r) := by
  cases r with
  | nil =>
    show (a == c && (b == 10 && _)) = (a == c && false)
    have : (b == 10) = false := by rw [beq_eq_false_iff_ne]; exact hb
    rw [this]
    rfl
  | cons d m => rfl
theorem remL_app : ∀ (m : Nat) (l : List UInt8) (d n : Nat), l.length ≤ m → remL l d = some n → remL (l ++ 10 :: t) d = some n := by
  intro m
  induction m with
  | zero =>
    intro l d n hl h
    obtain rfl := List.length_eq_zero_iff.1 (Nat.le_zero.1 hl)
    simp [remL] at h
  | succ m ih =>
    intro l d n hl h
    cases l with
    | nil => simp [remL] at h
    | cons c r =>
      have hl' : r.length ≤ m := by simp at hl; omega
      have hdr : ∀ a b : UInt8, [a, b].isPrefixOf (c :: r) = true → (r ++ 10 :: t).drop 1 = r.drop 1 ++ 10 :: t := by
        intro a b hp
        cases r with
        | nil =>
          have : (a == c && false) = true := hp
          simp at this
        | cons d m => rfl
      rw [remL_eq] at h
      show remL (c :: (r ++ 10 :: t)) d = some n
      rw [remL_eq, pre2_app t 47 42 c (by decide), pre2_app t 42 47 c (by decide)]
      cases h1 : [47, 42].isPrefixOf (c :: r)
      · rw [h1] at h
        simp only [Bool.false_eq_true, if_false] at h ⊢
        cases h2 : [42, 47].isPrefixOf (c :: r)
        · rw [h2] at h
          simp only [Bool.false_eq_true, if_false] at h ⊢
          obtain ⟨k, hk, rfl⟩ := Option.map_eq_some_iff.1 h
          rw [ih r d k hl' hk]
          rfl
        · rw [h2] at h
          simp only [if_true] at h ⊢
          by_cases hd : d = 1
          · rw [if_pos hd] at h ⊢
            exact h
          · rw [if_neg hd] at h ⊢
            obtain ⟨k, hk, rfl⟩ := Option.map_eq_some_iff.1 h
            rw [hdr 42 47 h2, ih (r.drop 1) (d - 1) k (by rw [List.length_drop]; omega) hk]
            rfl
      · rw [h1] at h
        simp only [if_true] at h ⊢
        obtain ⟨k, hk, rfl⟩ := Option.map_eq_some_iff.1 h
        rw [hdr 47 42 h1, ih (r.drop 1) (d + 1) k (by rw [List.length_drop]; omega) hk]
        rfl
theorem quoL_app (q : UInt8) (hq : (10 : UInt8) ≠ q) : ∀ (m : Nat) (l : List UInt8) (o : List UInt8 × Nat), l.length ≤ m → quoL q l = some o → quoL q (l ++ 10 :: t) = some o := by
  intro m
  induction m with
  | zero =>
    intro l o hl h
    obtain rfl := List.length_eq_zero_iff.1 (Nat.le_zero.1 hl)
    simp [quoL] at h
  | succ m ih =>
    intro l o hl h
    match l, hl, h with
    | [], _, h => simp [quoL] at h
    | [c], _, h =>
      unfold quoL at h
      split at h
      · rename_i hc
        show quoL q (c :: 10 :: t) = _
        unfold quoL
        rw [if_pos hc, if_neg hq]
        exact h
      · cases h
    | c :: d :: r, hl, h =>
      show quoL q (c :: d :: (r ++ 10 :: t)) = _
      unfold quoL at h ⊢
      by_cases hc : c = q
      · rw [if_pos hc] at h ⊢
        by_cases hd : d = q
        · rw [if_pos hd] at h ⊢
          obtain ⟨o', ho, rfl⟩ := Option.map_eq_some_iff.1 h
          rw [ih r o' (by simp at hl; omega) ho]
          rfl
        · rw [if_neg hd] at h ⊢
          exact h
      · rw [if_neg hc] at h ⊢
        obtain ⟨o', ho, rfl⟩ := Option.map_eq_some_iff.1 h
        have := ih (d :: r) o' (by simp at hl ⊢; omega) ho
        have e : quoL q (d :: (r ++ 10 :: t)) = some o' := this
        rw [e]
        rfl
theorem tagN_app (l : List UInt8) : tagN (l ++ 10 :: t) = tagN l := by
  cases l with
  | nil =>
    show (if letB 10 then runL tagB (10 :: t) else 0) = 0
    rw [if_neg (by decide)]
  | cons c r =>
    show (if letB c then runL tagB ((c :: r) ++ 10 :: t) else 0) = if letB c then runL tagB (c :: r) else 0
    rw [runL_app t tagB (by decide)]
theorem tagL_app (l : List UInt8) : tagL (l ++ 10 :: t) = tagL l := by
  have hn : tagN l ≤ l.length := by
    cases l with
    | nil => exact Nat.le_refl _
    | cons c r =>
      show (if letB c then runL tagB (c :: r) else 0) ≤ _
      split
      · exact runL_le _ _
      · exact Nat.zero_le _
  unfold tagL
  rw [tagN_app]
  by_cases h : tagN l < l.length
  · rw [List.getElem?_append_left h]
  · have e : tagN l = l.length := by omega
    rw [e, List.getElem?_append_right (Nat.le_refl _), Nat.sub_self, List.getElem?_eq_none (Nat.le_refl _)]
    rw [if_neg (by simp), if_neg (by simp)]
theorem dolL_app (T : List UInt8) (x : List UInt8) : ∀ (l : List UInt8) (o : List UInt8 × Nat), dolL T l = some o → dolL T (l ++ x) = some o
  | [], o, h => by
    unfold dolL at h
    split at h
    · rename_i hp
      have hT : T = [] := by
        have := prefix_len hp
        exact List.length_eq_zero_iff.1 (Nat.le_zero.1 this)
      subst hT
      cases x with
      | nil => exact h
      | cons c r => exact h
    · cases h
  | c :: r, o, h => by
    show dolL T (c :: (r ++ x)) = some o
    unfold dolL at h ⊢
    split at h
    · rename_i hp
      rw [if_pos (show T.isPrefixOf (c :: (r ++ x)) = true from pre_app (x := x) hp)]
      exact h
    · rename_i hp
      obtain ⟨o', ho, rfl⟩ := Option.map_eq_some_iff.1 h
      have hle : T.length ≤ r.length := by
        have h1 := dolL_app T [] r o' ho
        have key : ∀ (l : List UInt8) (o : List UInt8 × Nat), dolL T l = some o → T.length ≤ l.length := by
          intro l
          induction l with
          | nil =>
            intro o h
            unfold dolL at h
            split at h
            · rename_i hp; exact prefix_len hp
            · cases h
          | cons c r ih =>
            intro o h
            unfold dolL at h
            split at h
            · rename_i hp; exact prefix_len hp
            · obtain ⟨o', ho, rfl⟩ := Option.map_eq_some_iff.1 h
              have := ih o' ho
              simp
              omega
        exact key r o' ho
      rw [if_neg, dolL_app T x r o' ho]
      · rfl
      · intro hp2
        exact hp (pre_back (x := x) (by simp; omega) hp2)
theorem oneC_app (c : UInt8) (r : List UInt8) (k : Int) (tx : List UInt8) (n : Nat) (h : oneC c r = .tok k tx n) : oneC c (r ++ 10 :: t) = .tok k tx n := by
  have e1 := runL_app t wordB (by decide) (c :: r)
  have e2 := runL_app t numB (by decide) (c :: r)
  have e3 := runL_app t digB (by decide) r
  have l1 := runL_le wordB (c :: r)
  have l2 := runL_le numB (c :: r)
  have l3 := runL_le digB r
  have hc : c :: (r ++ 10 :: t) = (c :: r) ++ 10 :: t := rfl
  unfold oneC at h ⊢
  rw [hc, e1, e2, e3]
  by_cases hl : letB c = true
  · rw [if_pos hl] at h ⊢
    rw [List.take_append_of_le_length l1]
    exact h
  rw [if_neg hl] at h ⊢
  by_cases hd : digB c = true
  · rw [if_pos hd] at h ⊢
    rw [List.take_append_of_le_length l2]
    exact h
  rw [if_neg hd] at h ⊢
  by_cases h34 : c = 34
  · rw [if_pos h34] at h ⊢
    cases hq : quoL 34 r with
    | none => rw [hq] at h; cases h
    | some o =>
      rw [hq] at h
      rw [quoL_app t 34 (by decide) r.length r o (Nat.le_refl _) hq]
      exact h
  rw [if_neg h34] at h ⊢
  by_cases h39 : c = 39
  · rw [if_pos h39] at h ⊢
    cases hq : quoL 39 r with
    | none => rw [hq] at h; cases h
    | some o =>
      rw [hq] at h
      rw [quoL_app t 39 (by decide) r.length r o (Nat.le_refl _) hq]
      exact h
  rw [if_neg h39] at h ⊢
  by_cases h36 : c = 36
  · rw [if_pos h36] at h ⊢
    rw [tagL_app]
    cases ht : tagL r with
    | some m =>
      have hb := tagL_le r m ht
      rw [ht] at h
      simp only [] at h ⊢
      rw [List.take_append_of_le_length (by simp; omega), List.drop_append_of_le_length (by simp; omega)]
      cases hd2 : dolL ((c :: r).take m) ((c :: r).drop m) with
      | none => rw [hd2] at h; cases h
      | some o =>
        rw [hd2] at h
        rw [dolL_app _ _ _ o hd2]
        exact h
    | none =>
      rw [ht] at h
      simp only [] at h ⊢
      rw [List.take_append_of_le_length (by simp; omega)]
      exact h
  rw [if_neg h36] at h ⊢
  exact h
theorem stepC_app (c : UInt8) (r : List UInt8) (hg : (∃ n, stepC c r = .gap n) ∨ ∃ k tx n, stepC c r = .one (.tok k tx n)) : stepC c (r ++ 10 :: t) = stepC c r := by
  have hh : ∀ q : UInt8, (10 : UInt8) ≠ q → (((r ++ 10 :: t).head? == some q) = (r.head? == some q)) := by
    intro q hq
    cases r with
    | nil =>
      show (some 10 == some q) = (none == some q)
      have : ((some 10 : Option UInt8) == some q) = false := by rw [beq_eq_false_iff_ne]; intro e; exact hq (Option.some.inj e)
      rw [this]
      rfl
    | cons d m => rfl
  have hc : c :: (r ++ 10 :: t) = (c :: r) ++ 10 :: t := rfl
  unfold stepC at hg ⊢
  rw [hh 45 (by decide), hh 42 (by decide), hc, runL_app t (fun c => c != 10) (by decide)]
  by_cases hb : blankB c = true
  · rw [if_pos hb, if_pos hb]
  rw [if_neg hb] at hg ⊢
  rw [if_neg hb]
  by_cases hd : (c == 45 && r.head? == some 45) = true
  · rw [if_pos hd, if_pos hd]
  rw [if_neg hd] at hg ⊢
  rw [if_neg hd]
  by_cases hs : (c == 47 && r.head? == some 42) = true
  · rw [if_pos hs] at hg ⊢
    rw [if_pos hs]
    cases hr : remL (c :: r) 0 with
    | none =>
      rw [hr] at hg
      rcases hg with ⟨n, e⟩ | ⟨k, tx, n, e⟩ <;> cases e
    | some n => rw [remL_app t (c :: r).length (c :: r) 0 n (Nat.le_refl _) hr]
  · rw [if_neg hs] at hg ⊢
    rw [if_neg hs]
    rcases hg with ⟨n, e⟩ | ⟨k, tx, n, e⟩
    · cases e
    · have ho : oneC c r = .tok k tx n := by injection e
      show Step.one (oneC c (r ++ 10 :: t)) = Step.one (oneC c r)
      rw [oneC_app t c r k tx n ho, ho]
theorem scL_app : ∀ (f at_ : Nat) (s : List UInt8) (l : List Tk), s.length < f → scL f at_ s = .ok l → ∀ g : Nat, (s ++ 10 :: t).length < g → scL g at_ (s ++ 10 :: t) = (scL ((10 :: t).length + 1) (at_ + s.length) (10 :: t)).pre l := by
  intro f
  induction f with
  | zero => intro at_ s l h; omega
  | succ f ih =>
    intro at_ s l hf h g hg
    obtain ⟨g, rfl⟩ : ∃ j, g = j + 1 := ⟨g - 1, by omega⟩
    cases s with
    | nil =>
      have hl : l = [] := by
        unfold scL at h
        cases h
        rfl
      subst hl
      show scL (g + 1) at_ (10 :: t) = _
      rw [scL_more (g + 1) ((10 :: t).length + 1) at_ (10 :: t) (by simpa using hg) (Nat.lt_succ_self _)]
      show _ = (scL ((10 :: t).length + 1) (at_ + 0) (10 :: t)).pre []
      rw [Nat.add_zero]
      cases scL ((10 :: t).length + 1) at_ (10 :: t) <;> rfl
    | cons c r =>
      have hst : stepL ((c :: r) ++ 10 :: t) = stepC c (r ++ 10 :: t) := rfl
      have hs0 : stepL (c :: r) = stepC c r := rfl
      unfold scL at h
      cases hs : stepL (c :: r) with
      | stop =>
        exfalso
        rw [hs0] at hs
        unfold stepC at hs
        split at hs
        · cases hs
        · split at hs
          · cases hs
          · split at hs
            · split at hs <;> cases hs
            · cases hs
      | gap n =>
        have hp := stepL_gap _ _ hs
        rw [hs] at h
        simp only [] at h
        have happ := stepC_app t c r (.inl ⟨n, by rw [← hs0]; exact hs⟩)
        have hs2 : stepL ((c :: r) ++ 10 :: t) = .gap n := by rw [hst, happ, ← hs0, hs]
        rw [scL, hs2]
        simp only []
        rw [List.drop_append_of_le_length hp.2]
        rw [ih (at_ + n) ((c :: r).drop n) l (by rw [List.length_drop]; omega) h g (by
          rw [List.length_append, List.length_drop] at *
          omega), List.length_drop]
        congr 2
        omega
      | open_ => rw [hs] at h; cases h
      | one o =>
        cases o with
        | tok k tx n =>
          have hp := stepL_tok _ _ _ _ hs
          rw [hs] at h
          simp only [] at h
          have happ := stepC_app t c r (.inr ⟨k, tx, n, by rw [← hs0]; exact hs⟩)
          have hs2 : stepL ((c :: r) ++ 10 :: t) = .one (.tok k tx n) := by rw [hst, happ, ← hs0, hs]
          cases hr : scL f (at_ + n) ((c :: r).drop n) with
          | err e a => rw [hr] at h; cases h
          | ok m =>
            rw [hr] at h
            cases h
            rw [scL, hs2]
            simp only []
            rw [List.drop_append_of_le_length hp.2.1]
            rw [ih (at_ + n) ((c :: r).drop n) m (by rw [List.length_drop]; omega) hr g (by
              rw [List.length_append, List.length_drop] at *
              omega), List.length_drop]
            have e : at_ + n + ((c :: r).length - n) = at_ + (c :: r).length := by omega
            rw [e]
            cases scL ((10 :: t).length + 1) (at_ + (c :: r).length) (10 :: t) <;> rfl
        | open_ => rw [hs] at h; cases h
        | bad => rw [hs] at h; cases h
end
/-! a remark ahead, a ; at the end -/
def headR : List UInt8 := [32, 47, 42, 32, 114, 32, 42, 47, 32]
def endR : List UInt8 := [59, 59, 32, 45, 45, 32, 101, 110, 100]
theorem scan_dressed (s : List UInt8) (l : List Tk) (h : scan s = .ok l) : ∃ m, scan (headR ++ (s ++ 10 :: endR)) = .ok m ∧ m.map kt = l.map kt ++ [(5, [59]), (5, [59])] := by
  have h0 : scL (s.length + 1) 0 s = .ok l := h
  have h9 : scL (s.length + 1) 9 s = .ok (l.map fun t => ⟨t.kind, t.text, t.at_ + 9⟩) := by
    have := scL_shift (s.length + 1) 9 0 s (Nat.lt_succ_self _)
    rw [h0] at this
    simpa [Res.shift] using this
  have happ := scL_app endR (s.length + 1) 9 s _ (Nat.lt_succ_self _) h9 ((s ++ 10 :: endR).length + 7) (by omega)
  have hend : ∀ a : Nat, scL ((10 :: endR).length + 1) a (10 :: endR) = .ok [⟨5, [59], a + 1⟩, ⟨5, [59], a + 2⟩] := by
    intro a
    rfl
  rw [hend] at happ
  refine ⟨(l.map fun t => (⟨t.kind, t.text, t.at_ + 9⟩ : Tk)) ++ [⟨5, [59], 9 + s.length + 1⟩, ⟨5, [59], 9 + s.length + 2⟩], ?_, ?_⟩
  · have s1 : stepL (headR ++ (s ++ 10 :: endR)) = .gap 1 := rfl
    have s2 : stepL (47 :: 42 :: 32 :: 114 :: 32 :: 42 :: 47 :: 32 :: (s ++ 10 :: endR)) = .gap 7 := by
      show stepC 47 _ = _
      unfold stepC
      rw [if_neg (by decide), if_neg (by simp), if_pos (by rfl)]
      have : remL (47 :: 42 :: 32 :: 114 :: 32 :: 42 :: 47 :: 32 :: (s ++ 10 :: endR)) 0 = some 7 := by simp [remL]
      rw [this]
    have s3 : stepL (32 :: (s ++ 10 :: endR)) = .gap 1 := rfl
    unfold scan
    rw [show (headR ++ (s ++ 10 :: endR)).length + 1 = ((s ++ 10 :: endR).length + 7) + 1 + 1 + 1 by simp [headR]]
    rw [scL, s1]
    simp only []
    show scL ((s ++ 10 :: endR).length + 7 + 1 + 1) (0 + 1) (47 :: 42 :: 32 :: 114 :: 32 :: 42 :: 47 :: 32 :: (s ++ 10 :: endR)) = _
    rw [scL, s2]
    simp only []
    show scL ((s ++ 10 :: endR).length + 7 + 1) (0 + 1 + 7) (32 :: (s ++ 10 :: endR)) = _
    rw [scL, s3]
    simp only []
    show scL ((s ++ 10 :: endR).length + 7) 9 (s ++ 10 :: endR) = _
    exact happ
  · rw [List.map_append, List.map_map]
    rfl
end Go.Proofs.Ytgfppniifjabdaa
