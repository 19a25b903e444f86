/- The lexer in plain words: quotes, dollars, what stands ahead, what is shown. No program in sight. -/
import Derived.Test.YtgfppniifjabdaaLxS
namespace Go.Proofs.Ytgfppniifjabdaa

/-! quotes -/
def esc (q : UInt8) : List UInt8 → List UInt8
  | [] => []
  | c :: r => if c = q then q :: q :: esc q r else c :: esc q r
def dbl (q : UInt8) (t : List UInt8) : List UInt8 := q :: (esc q t ++ [q])
theorem quoL_esc (q : UInt8) (rest : List UInt8) (hr : rest.head? ≠ some q) : ∀ t : List UInt8, quoL q (esc q t ++ q :: rest) = some (t, (esc q t).length + 1)
  | [] => by
    show quoL q (q :: rest) = some ([], 1)
    cases rest with
    | nil => simp [quoL]
    | cons d r =>
      have hd : d ≠ q := fun e => hr (by rw [e]; rfl)
      simp [quoL, hd]
  | c :: t => by
    have ih := quoL_esc q rest hr t
    by_cases hc : c = q
    · subst hc
      have e : esc c (c :: t) = c :: c :: esc c t := if_pos rfl
      rw [e]
      show quoL c (c :: c :: (esc c t ++ c :: rest)) = _
      unfold quoL
      rw [if_pos rfl, if_pos rfl, ih]
      rfl
    · have e : esc q (c :: t) = c :: esc q t := if_neg hc
      rw [e]
      show quoL q (c :: (esc q t ++ q :: rest)) = _
      cases hl : esc q t ++ q :: rest with
      | nil => simp at hl
      | cons d r =>
        rw [hl] at ih
        unfold quoL
        rw [if_neg hc, ih]
        rfl
theorem one_quo (rest : List UInt8) (hr : rest.head? ≠ some 34) (t : List UInt8) : stepL (dbl 34 t ++ rest) = .one (.tok 2 t (dbl 34 t).length) := by
  have e : dbl 34 t ++ rest = 34 :: (esc 34 t ++ 34 :: rest) := by simp [dbl]
  have hl : (dbl 34 t).length = (esc 34 t).length + 1 + 1 := by simp [dbl]
  rw [e, hl]
  show stepC 34 _ = _
  unfold stepC
  rw [if_neg (by decide), if_neg (by simp), if_neg (by simp)]
  show Step.one (oneC 34 _) = _
  unfold oneC
  rw [if_neg (by decide), if_neg (by decide), if_pos rfl, quoL_esc 34 rest hr t]
theorem one_str (rest : List UInt8) (hr : rest.head? ≠ some 39) (t : List UInt8) : stepL (dbl 39 t ++ rest) = .one (.tok 3 t (dbl 39 t).length) := by
  have e : dbl 39 t ++ rest = 39 :: (esc 39 t ++ 39 :: rest) := by simp [dbl]
  have hl : (dbl 39 t).length = (esc 39 t).length + 1 + 1 := by simp [dbl]
  rw [e, hl]
  show stepC 39 _ = _
  unfold stepC
  rw [if_neg (by decide), if_neg (by simp), if_neg (by simp)]
  show Step.one (oneC 39 _) = _
  unfold oneC
  rw [if_neg (by decide), if_neg (by decide), if_neg (by decide), if_pos rfl, quoL_esc 39 rest hr t]
/-! dollars -/
def dolT : List UInt8 := [36, 113, 36]
theorem dolL_plain : ∀ s : List UInt8, (∀ c ∈ s, c ≠ 36) → dolL dolT (s ++ dolT) = some (s, s.length + 3)
  | [], _ => by
    show dolL dolT dolT = _
    rfl
  | c :: r, h => by
    have ih := dolL_plain r (fun x hx => h x (List.mem_cons_of_mem _ hx))
    have hc : c ≠ 36 := h c List.mem_cons_self
    show dolL dolT (c :: (r ++ dolT)) = _
    unfold dolL
    have hp : dolT.isPrefixOf (c :: (r ++ dolT)) = false := by
      show ((36 : UInt8) == c && _) = false
      have : ((36 : UInt8) == c) = false := by rw [beq_eq_false_iff_ne]; exact fun e => hc e.symm
      rw [this]
      rfl
    rw [hp, if_neg (by decide), ih]
    rfl
theorem one_dol (s : List UInt8) (h : ∀ c ∈ s, c ≠ 36) : stepL (dolT ++ s ++ dolT) = .one (.tok 3 s (dolT ++ s ++ dolT).length) := by
  have hl : (dolT ++ s ++ dolT).length = 3 + (s.length + 3) := by simp [dolT]; omega
  rw [hl]
  show stepC 36 (113 :: 36 :: (s ++ dolT)) = _
  unfold stepC
  rw [if_neg (by decide), if_neg (by simp), if_neg (by simp)]
  show Step.one (oneC 36 (113 :: 36 :: (s ++ dolT))) = _
  unfold oneC
  rw [if_neg (by decide), if_neg (by decide), if_neg (by decide), if_neg (by decide), if_pos rfl]
  have ht : tagL (113 :: 36 :: (s ++ dolT)) = some 3 := by
    have hn : tagN (113 :: 36 :: (s ++ dolT)) = 1 := by
      show (if letB 113 then runL tagB (113 :: 36 :: (s ++ dolT)) else 0) = 1
      rw [if_pos (by decide)]
      show (if tagB 113 then (if tagB 36 then _ else 0) + 1 else 0) = 1
      rw [if_pos (by decide), if_neg (by decide)]
    unfold tagL
    rw [hn]
    rfl
  rw [ht]
  show Step.one (match dolL dolT (s ++ dolT) with | none => One.open_ | some (t, m) => One.tok 3 t (3 + m)) = _
  rw [dolL_plain s h]
theorem scan_one (s : List UInt8) (k : Int) (t : List UInt8) (hs : stepL s = .one (.tok k t s.length)) : scan s = .ok [⟨k, t, 0⟩] := by
  have hp := stepL_tok _ _ _ _ hs
  unfold scan
  obtain ⟨m, hm⟩ : ∃ m, s.length = m + 1 := ⟨s.length - 1, by omega⟩
  rw [hm]
  unfold scL
  rw [hs]
  simp only []
  rw [List.drop_length]
  unfold scL
  rfl
/-! what stands ahead -/
def aheadL : List UInt8 := [32, 47, 42, 47, 42, 42, 47, 42, 47, 10]
theorem scan_ahead (s : List UInt8) : scan (aheadL ++ s) = (scan s).shift 10 := by
  have h1 : stepL (aheadL ++ s) = .gap 1 := rfl
  have h2 : stepL (47 :: 42 :: 47 :: 42 :: 42 :: 47 :: 42 :: 47 :: 10 :: s) = .gap 8 := by
    show stepC 47 _ = _
    unfold stepC
    rw [if_neg (by decide), if_neg (by simp), if_pos (by rfl)]
    have : remL (47 :: 42 :: 47 :: 42 :: 42 :: 47 :: 42 :: 47 :: 10 :: s) 0 = some 8 := by simp [remL]
    rw [this]
  have h3 : stepL (10 :: s) = .gap 1 := rfl
  unfold scan
  rw [show (aheadL ++ s).length + 1 = (s.length + 8 + 1) + 1 + 1 by simp [aheadL]]
  rw [scL, h1]
  simp only []
  show scL (s.length + 8 + 1 + 1) (0 + 1) (47 :: 42 :: 47 :: 42 :: 42 :: 47 :: 42 :: 47 :: 10 :: s) = _
  rw [scL, h2]
  simp only []
  show scL (s.length + 8 + 1) (0 + 1 + 8) (10 :: s) = _
  rw [scL, h3]
  simp only []
  show scL (s.length + 8) (0 + 10) s = _
  rw [scL_shift _ 10 0 s (by omega), scL_more (s.length + 8) (s.length + 1) 0 s (by omega) (by omega)]
/-! what is shown is read -/
theorem all_u8 (P : UInt8 → Prop) (h : ∀ n : Fin 256, P (UInt8.ofNat n.val)) (c : UInt8) : P c := by
  have := h ⟨c.toNat, c.toNat_lt⟩
  simpa using this
theorem low_low (c : UInt8) : lowB (lowB c) = lowB c := all_u8 (fun c => lowB (lowB c) = lowB c) (by decide +kernel) c
theorem low_word (c : UInt8) : wordB c = true → wordB (lowB c) = true := all_u8 (fun c => wordB c = true → wordB (lowB c) = true) (by decide +kernel) c
theorem low_let (c : UInt8) : letB c = true → letB (lowB c) = true := all_u8 (fun c => letB c = true → letB (lowB c) = true) (by decide +kernel) c
theorem let_not (c : UInt8) : letB c = true → blankB c = false ∧ (c == 45) = false ∧ (c == 47) = false := all_u8 (fun c => letB c = true → blankB c = false ∧ (c == 45) = false ∧ (c == 47) = false) (by decide +kernel) c
theorem dig_not (c : UInt8) : digB c = true → letB c = false ∧ blankB c = false ∧ (c == 45) = false ∧ (c == 47) = false := all_u8 (fun c => digB c = true → letB c = false ∧ blankB c = false ∧ (c == 45) = false ∧ (c == 47) = false) (by decide +kernel) c
theorem sign_not (c : UInt8) : signB c = true → letB c = false ∧ digB c = false ∧ blankB c = false ∧ c ≠ 34 ∧ c ≠ 39 ∧ c ≠ 36 := all_u8 (fun c => signB c = true → letB c = false ∧ digB c = false ∧ blankB c = false ∧ c ≠ 34 ∧ c ≠ 39 ∧ c ≠ 36) (by decide +kernel) c
def Valid (k : Int) (t : List UInt8) : Prop :=
  (k = 1 ∧ ∃ c r, t = c :: r ∧ letB c = true ∧ (∀ x ∈ t, wordB x = true) ∧ t.map lowB = t) ∨ (k = 4 ∧ ∃ c r, t = c :: r ∧ digB c = true ∧ ∀ x ∈ t, numB x = true) ∨ k = 2 ∨ k = 3 ∨
    (k = 5 ∧ ((∃ c, t = [c] ∧ signB c = true) ∨ ∃ c r, t = 36 :: c :: r ∧ ∀ x ∈ c :: r, digB x = true))
theorem run_all (p : UInt8 → Bool) : ∀ l : List UInt8, ∀ x ∈ l.take (runL p l), p x = true
  | [], x, h => by simp [runL] at h
  | c :: r, x, h => by
    unfold runL at h
    split at h
    · rename_i hc
      rw [List.take_succ_cons] at h
      rcases List.mem_cons.1 h with rfl | h
      · exact hc
      · exact run_all p r x h
    · simp at h
theorem run_stop (p : UInt8 → Bool) (t rest : List UInt8) (ht : ∀ x ∈ t, p x = true) (hr : ∀ x, rest.head? = some x → p x = false) : runL p (t ++ rest) = t.length := by
  induction t with
  | nil =>
    cases rest with
    | nil => rfl
    | cons c r =>
      show (if p c then runL p r + 1 else 0) = 0
      rw [if_neg (by rw [hr c rfl]; decide)]
  | cons c r ih =>
    show (if p c then runL p (r ++ rest) + 1 else 0) = r.length + 1
    rw [if_pos (ht c List.mem_cons_self), ih (fun x hx => ht x (List.mem_cons_of_mem _ hx))]
theorem valid_of_one (s : List UInt8) (k : Int) (t : List UInt8) (n : Nat) (h : oneL s = .tok k t n) : Valid k t := by
  cases s with
  | nil => simp [oneL] at h
  | cons c r =>
    have h : oneC c r = .tok k t n := h
    unfold oneC at h
    split at h
    · rename_i hc
      have hw : wordB c = true := by unfold wordB; rw [hc]; rfl
      have he : (c :: r).take (runL wordB (c :: r)) = c :: r.take (runL wordB r) := by
        show (c :: r).take (if wordB c then runL wordB r + 1 else 0) = _
        rw [if_pos hw]
        rfl
      have ha := run_all wordB (c :: r)
      rw [he] at h ha
      cases h
      refine .inl ⟨rfl, lowB c, (r.take (runL wordB r)).map lowB, rfl, low_let c hc, ?_, ?_⟩
      · intro x hx
        obtain ⟨y, hy, rfl⟩ := List.mem_map.1 hx
        exact low_word y (ha y hy)
      · rw [List.map_map]
        congr 1
        funext x
        exact low_low x
    · split at h
      · rename_i hc
        have hw : numB c = true := by unfold numB; rw [hc]; rfl
        have he : (c :: r).take (runL numB (c :: r)) = c :: r.take (runL numB r) := by
          show (c :: r).take (if numB c then runL numB r + 1 else 0) = _
          rw [if_pos hw]
          rfl
        have ha := run_all numB (c :: r)
        rw [he] at h ha
        cases h
        exact .inr (.inl ⟨rfl, c, _, rfl, hc, ha⟩)
      · split at h
        · split at h
          · cases h
          · cases h
            exact .inr (.inr (.inl rfl))
        · split at h
          · split at h
            · cases h
            · cases h
              exact .inr (.inr (.inr (.inl rfl)))
          · split at h
            · rename_i h36
              split at h
              · split at h
                · cases h
                · cases h
                  exact .inr (.inr (.inr (.inl rfl)))
              · split at h
                · cases h
                · rename_i hz
                  cases h
                  refine .inr (.inr (.inr (.inr ⟨rfl, .inr ?_⟩)))
                  have ha := run_all digB r
                  cases hr : r.take (runL digB r) with
                  | nil =>
                    have := congrArg List.length hr
                    have hle := runL_le digB r
                    rw [List.length_take, List.length_nil] at this
                    omega
                  | cons d m =>
                    rw [hr] at ha
                    refine ⟨d, m, ?_, ha⟩
                    rw [List.take_succ_cons, hr, h36]
            · split at h
              · rename_i hs
                cases h
                exact .inr (.inr (.inr (.inr ⟨rfl, .inl ⟨c, rfl, hs⟩⟩)))
              · cases h
def showT (k : Int) (t : List UInt8) : List UInt8 := if k = 2 then dbl 34 t else if k = 3 then dbl 39 t else t
def Gap (rest : List UInt8) : Prop := rest = [] ∨ rest.head? = some 32
theorem Gap.no {rest : List UInt8} (h : Gap rest) {p : UInt8 → Bool} (hp : p 32 = false) : ∀ x, rest.head? = some x → p x = false := fun x hx => by
  rcases h with rfl | h
  · cases hx
  · rw [h] at hx
    cases hx
    exact hp
theorem Gap.ne {rest : List UInt8} (h : Gap rest) {q : UInt8} (hq : (32 : UInt8) ≠ q) : rest.head? ≠ some q := fun hx => by
  rcases h with rfl | h
  · cases hx
  · rw [h] at hx
    cases hx
    exact hq rfl
theorem step_show (k : Int) (t rest : List UInt8) (hv : Valid k t) (hg : Gap rest) : stepL (showT k t ++ rest) = .one (.tok k t (showT k t).length) := by
  rcases hv with ⟨rfl, c, r, rfl, hc, ha, hm⟩ | ⟨rfl, c, r, rfl, hc, ha⟩ | rfl | rfl | ⟨rfl, ⟨c, rfl, hs⟩ | ⟨c, r, rfl, ha⟩⟩
  · have e : showT 1 (c :: r) = c :: r := rfl
    have hn := let_not c hc
    have hrun := run_stop wordB (c :: r) rest ha (hg.no (by decide))
    rw [e]
    show stepC c (r ++ rest) = _
    unfold stepC
    rw [if_neg (by rw [hn.1]; decide), if_neg (by rw [hn.2.1]; simp), if_neg (by rw [hn.2.2]; simp)]
    show Step.one (oneC c (r ++ rest)) = _
    unfold oneC
    rw [if_pos hc, show c :: (r ++ rest) = (c :: r) ++ rest from rfl, hrun, List.take_left, hm]
  · have e : showT 4 (c :: r) = c :: r := rfl
    have hn := dig_not c hc
    have hrun := run_stop numB (c :: r) rest ha (hg.no (by decide))
    rw [e]
    show stepC c (r ++ rest) = _
    unfold stepC
    rw [if_neg (by rw [hn.2.1]; decide), if_neg (by rw [hn.2.2.1]; simp), if_neg (by rw [hn.2.2.2]; simp)]
    show Step.one (oneC c (r ++ rest)) = _
    unfold oneC
    rw [if_neg (by rw [hn.1]; decide), if_pos hc, show c :: (r ++ rest) = (c :: r) ++ rest from rfl, hrun, List.take_left]
  · exact one_quo rest (hg.ne (by decide)) t
  · exact one_str rest (hg.ne (by decide)) t
  · have e : showT 5 [c] = [c] := rfl
    have hn := sign_not c hs
    have h45 : ((rest.head? == some 45) = false) := by rw [beq_eq_false_iff_ne]; exact hg.ne (by decide)
    have h42 : ((rest.head? == some 42) = false) := by rw [beq_eq_false_iff_ne]; exact hg.ne (by decide)
    rw [e]
    show stepC c rest = _
    unfold stepC
    rw [if_neg (by rw [hn.2.2.1]; decide), h45, h42, if_neg (by simp), if_neg (by simp)]
    show Step.one (oneC c rest) = _
    unfold oneC
    rw [if_neg (by rw [hn.1]; decide), if_neg (by rw [hn.2.1]; decide), if_neg hn.2.2.2.1, if_neg hn.2.2.2.2.1, if_neg hn.2.2.2.2.2, if_pos hs]
    rfl
  · have e : showT 5 (36 :: c :: r) = 36 :: c :: r := rfl
    have hd := ha c List.mem_cons_self
    have hn := dig_not c hd
    have hrun := run_stop digB (c :: r) rest ha (hg.no (by decide))
    rw [e]
    show stepC 36 (c :: (r ++ rest)) = _
    unfold stepC
    rw [if_neg (by decide), if_neg (by simp), if_neg (by simp)]
    show Step.one (oneC 36 (c :: (r ++ rest))) = _
    unfold oneC
    rw [if_neg (by decide), if_neg (by decide), if_neg (by decide), if_neg (by decide), if_pos rfl]
    have ht : tagL (c :: (r ++ rest)) = none := by
      have htn : tagN (c :: (r ++ rest)) = 0 := by
        show (if letB c then _ else 0) = 0
        rw [if_neg (by rw [hn.1]; decide)]
      unfold tagL
      rw [htn]
      show (if some c = some 36 then _ else none) = none
      rw [if_neg]
      intro h
      cases h
      exact absurd hd (by decide)
    rw [ht]
    show Step.one (if runL digB ((c :: r) ++ rest) = 0 then One.bad else One.tok 5 ((36 :: ((c :: r) ++ rest)).take (runL digB ((c :: r) ++ rest) + 1)) (runL digB ((c :: r) ++ rest) + 1)) = _
    rw [hrun, if_neg (by simp), List.take_succ_cons, List.take_left]
    rfl
def showL : List Tk → List UInt8
  | [] => []
  | [t] => showT t.kind t.text
  | t :: u :: r => showT t.kind t.text ++ 32 :: showL (u :: r)
def kt (t : Tk) : Int × List UInt8 := (t.kind, t.text)
theorem scL_show : ∀ (l : List Tk) (f at_ : Nat), (∀ t ∈ l, Valid t.kind t.text) → (showL l).length < f → ∃ m, scL f at_ (showL l) = .ok m ∧ m.map kt = l.map kt
  | [], f, at_, _, hf => by
    obtain ⟨f, rfl⟩ : ∃ m, f = m + 1 := ⟨f - 1, by simp [showL] at hf; omega⟩
    exact ⟨[], by unfold scL; rfl, rfl⟩
  | [t], f, at_, hv, hf => by
    have hs := step_show t.kind t.text [] (hv t List.mem_cons_self) (.inl rfl)
    rw [List.append_nil] at hs
    have hp := stepL_tok _ _ _ _ hs
    obtain ⟨f, rfl⟩ : ∃ m, f = m + 2 := ⟨f - 2, by simp only [showL] at hf; omega⟩
    refine ⟨[⟨t.kind, t.text, at_⟩], ?_, rfl⟩
    show scL (f + 1 + 1) at_ (showT t.kind t.text) = _
    rw [scL, hs]
    simp only []
    rw [List.drop_length, scL]
    rfl
  | t :: u :: r, f, at_, hv, hf => by
    have hs := step_show t.kind t.text (32 :: showL (u :: r)) (hv t List.mem_cons_self) (.inr rfl)
    have hp := stepL_tok _ _ _ _ hs
    have hlen : (showL (t :: u :: r)).length = (showT t.kind t.text).length + 1 + (showL (u :: r)).length := by simp [showL]; omega
    obtain ⟨f, rfl⟩ : ∃ m, f = m + 2 := ⟨f - 2, by omega⟩
    obtain ⟨m, e, hm⟩ := scL_show (u :: r) f (at_ + (showT t.kind t.text).length + 1) (fun x hx => hv x (List.mem_cons_of_mem _ hx)) (by omega)
    refine ⟨⟨t.kind, t.text, at_⟩ :: m, ?_, by rw [List.map_cons, hm]; rfl⟩
    show scL (f + 1 + 1) at_ (showT t.kind t.text ++ 32 :: showL (u :: r)) = _
    rw [scL, hs]
    simp only []
    rw [List.drop_left, scL, show stepL (32 :: showL (u :: r)) = .gap 1 from rfl]
    simp only []
    show (scL f (at_ + (showT t.kind t.text).length + 1) (showL (u :: r))).cons _ = _
    rw [e]
    rfl
theorem scL_valid : ∀ (f at_ : Nat) (s : List UInt8) (l : List Tk), scL f at_ s = .ok l → (∀ t ∈ l, Valid t.kind t.text) ∧ (∀ t ∈ l, at_ ≤ t.at_ ∧ t.at_ < at_ + s.length) ∧ l.Pairwise (fun a b => a.at_ < b.at_) ∧ l.length ≤ s.length := by
  intro f
  induction f with
  | zero => intro at_ s l h; simp [scL] at h
  | succ f ih =>
    intro at_ s l h
    unfold scL at h
    cases hs : stepL s with
    | stop =>
      rw [hs] at h
      cases h
      simp
    | gap n =>
      have hp := stepL_gap _ _ hs
      rw [hs] at h
      simp only [] at h
      obtain ⟨h1, h2, h3, h4⟩ := ih _ _ _ h
      rw [List.length_drop] at h2 h4
      exact ⟨h1, fun t ht => by have := h2 t ht; omega, h3, by omega⟩
    | open_ => rw [hs] at h; cases h
    | one o =>
      cases o with
      | tok k t n =>
        have hp := stepL_tok _ _ _ _ hs
        rw [hs] at h
        simp only [] at h
        cases hr : scL f (at_ + n) (s.drop n) with
        | err e a => rw [hr] at h; cases h
        | ok m =>
          rw [hr] at h
          cases h
          obtain ⟨h1, h2, h3, h4⟩ := ih _ _ _ hr
          rw [List.length_drop] at h2 h4
          refine ⟨?_, ?_, ?_, by simp; omega⟩
          · intro x hx
            rcases List.mem_cons.1 hx with rfl | hx
            · exact valid_of_one _ _ _ _ hp.2.2
            · exact h1 x hx
          · intro x hx
            rcases List.mem_cons.1 hx with rfl | hx
            · exact ⟨Nat.le_refl _, by show at_ < _; omega⟩
            · have := h2 x hx
              omega
          · rw [List.pairwise_cons]
            exact ⟨fun x hx => by have := h2 x hx; show at_ < x.at_; omega, h3⟩
      | open_ => rw [hs] at h; cases h
      | bad => rw [hs] at h; cases h
theorem scL_err : ∀ (f at_ : Nat) (s : List UInt8) (e : Int) (a : Nat), s.length < f → scL f at_ s = .err e a → at_ ≤ a ∧ a ≤ at_ + s.length ∧ (e = 6 ∨ e = 7) := by
  intro f
  induction f with
  | zero => intro at_ s e a h; omega
  | succ f ih =>
    intro at_ s e a hf h
    unfold scL at h
    cases hs : stepL s with
    | stop => rw [hs] at h; cases h
    | gap n =>
      have hp := stepL_gap _ _ hs
      rw [hs] at h
      simp only [] at h
      have := ih _ _ _ _ (by rw [List.length_drop]; omega) h
      rw [List.length_drop] at this
      omega
    | open_ => rw [hs] at h; cases h; exact ⟨by omega, by omega, .inl rfl⟩
    | one o =>
      cases o with
      | tok k t n =>
        have hp := stepL_tok _ _ _ _ hs
        rw [hs] at h
        simp only [] at h
        cases hr : scL f (at_ + n) (s.drop n) with
        | err e' a' =>
          rw [hr] at h
          cases h
          have := ih _ _ _ _ (by rw [List.length_drop]; omega) hr
          rw [List.length_drop] at this
          omega
        | ok m => rw [hr] at h; cases h
      | open_ => rw [hs] at h; cases h; exact ⟨by omega, by omega, .inl rfl⟩
      | bad => rw [hs] at h; cases h; exact ⟨by omega, by omega, .inr rfl⟩
end Go.Proofs.Ytgfppniifjabdaa
