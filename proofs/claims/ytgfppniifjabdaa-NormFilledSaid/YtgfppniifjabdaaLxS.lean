/- The lexer in plain words, over lists of bytes: what a text's tokens are. No program in sight. -/
import Derived.KernelRfl
namespace Go.Proofs.Ytgfppniifjabdaa

def letB (c : UInt8) : Bool := (decide (97 ≤ c.toNat) && decide (c.toNat ≤ 122)) || (decide (65 ≤ c.toNat) && decide (c.toNat ≤ 90)) || c == 95 || decide (127 < c.toNat)
def digB (c : UInt8) : Bool := decide (48 ≤ c.toNat) && decide (c.toNat ≤ 57)
def wordB (c : UInt8) : Bool := letB c || digB c || c == 36
def numB (c : UInt8) : Bool := digB c || c == 46
def tagB (c : UInt8) : Bool := letB c || digB c
def blankB (c : UInt8) : Bool := c == 32 || c == 9 || c == 10 || c == 12 || c == 13
def signs : List UInt8 := [40, 41, 44, 59, 46, 61, 60, 62, 43, 45, 42, 47, 37, 38, 124, 94, 126, 33, 64, 35, 63, 58, 91, 93]
def signB (c : UInt8) : Bool := signs.contains c
def lowB (c : UInt8) : UInt8 := if 65 ≤ c.toNat ∧ c.toNat ≤ 90 then c + 32 else c
/-- How many bytes a list begins with that are so. -/
def runL (p : UInt8 → Bool) : List UInt8 → Nat
  | [] => 0
  | c :: r => if p c then runL p r + 1 else 0
/-- How long a remark is, so deep; none: it does not end. -/
def remL : List UInt8 → Nat → Option Nat
  | [], _ => none
  | 47 :: 42 :: r, d => (remL r (d + 1)).map (· + 2)
  | 42 :: 47 :: r, d => if d = 1 then some 2 else (remL r (d - 1)).map (· + 2)
  | _ :: r, d => (remL r d).map (· + 1)
/-- Behind a quote: the text, and how long all is to the quote's end. -/
def quoL (q : UInt8) : List UInt8 → Option (List UInt8 × Nat)
  | [] => none
  | [c] => if c = q then some ([], 1) else none
  | c :: d :: r => if c = q then (if d = q then (quoL q r).map (fun o => (q :: o.1, o.2 + 2)) else some ([], 1)) else (quoL q (d :: r)).map (fun o => (c :: o.1, o.2 + 1))
/-- Behind a dollar: how long the tag is, both dollars too. -/
def tagN : List UInt8 → Nat
  | c :: r => if letB c then runL tagB (c :: r) else 0
  | [] => 0
def tagL (r : List UInt8) : Option Nat := if r[tagN r]? = some 36 then some (tagN r + 2) else none
/-- Behind a tag: the text up to its like, and how long both are. -/
def dolL (T : List UInt8) : List UInt8 → Option (List UInt8 × Nat)
  | [] => if T.isPrefixOf [] then some ([], T.length) else none
  | c :: r => if T.isPrefixOf (c :: r) then some ([], T.length) else (dolL T r).map (fun o => (c :: o.1, o.2 + 1))
inductive One where
  | tok (kind : Int) (text : List UInt8) (n : Nat)
  | open_
  | bad
def oneC (c : UInt8) (r : List UInt8) : One :=
    if letB c then .tok 1 (((c :: r).take (runL wordB (c :: r))).map lowB) (runL wordB (c :: r))
    else if digB c then .tok 4 ((c :: r).take (runL numB (c :: r))) (runL numB (c :: r))
    else if c = 34 then (match quoL 34 r with | none => .open_ | some (t, n) => .tok 2 t (n + 1))
    else if c = 39 then (match quoL 39 r with | none => .open_ | some (t, n) => .tok 3 t (n + 1))
    else if c = 36 then (match tagL r with
      | some n => (match dolL ((c :: r).take n) ((c :: r).drop n) with | none => .open_ | some (t, m) => .tok 3 t (n + m))
      | none => if runL digB r = 0 then .bad else .tok 5 ((c :: r).take (runL digB r + 1)) (runL digB r + 1))
    else if signB c then .tok 5 [c] 1
    else .bad
def oneL : List UInt8 → One
  | [] => .bad
  | c :: r => oneC c r
structure Tk where
  kind : Int
  text : List UInt8
  at_ : Nat
deriving DecidableEq
/-- A text's tokens, or what is wrong and where. -/
inductive Res where
  | ok (l : List Tk)
  | err (e : Int) (at_ : Nat)
def Res.cons (t : Tk) : Res → Res
  | .ok l => .ok (t :: l)
  | .err e a => .err e a
/-- What stands at a place: nothing more, a gap of so many bytes, a remark that does not end, or what one tells. -/
inductive Step where
  | stop
  | gap (n : Nat)
  | open_
  | one (o : One)
def stepC (c : UInt8) (r : List UInt8) : Step :=
    if blankB c then .gap 1
    else if (c == 45 && r.head? == some 45) then .gap (runL (fun c => c != 10) (c :: r))
    else if (c == 47 && r.head? == some 42) then (match remL (c :: r) 0 with | none => .open_ | some n => .gap n)
    else .one (oneL (c :: r))
def stepL : List UInt8 → Step
  | [] => .stop
  | c :: r => stepC c r
def scL : Nat → Nat → List UInt8 → Res
  | 0, _, _ => .err 0 0
  | f + 1, at_, s => match stepL s with
    | .stop => .ok []
    | .gap n => scL f (at_ + n) (s.drop n)
    | .open_ => .err 6 at_
    | .one .open_ => .err 6 at_
    | .one .bad => .err 7 at_
    | .one (.tok k t n) => (scL f (at_ + n) (s.drop n)).cons ⟨k, t, at_⟩
def scan (s : List UInt8) : Res := scL (s.length + 1) 0 s

/-! every step goes on -/
theorem runL_le (p : UInt8 → Bool) : ∀ l, runL p l ≤ l.length
  | [] => Nat.le_refl _
  | c :: r => by
    have := runL_le p r
    unfold runL
    split <;> simp <;> omega
theorem runL_pos (p : UInt8 → Bool) (c : UInt8) (r : List UInt8) (h : p c = true) : 0 < runL p (c :: r) := by
  unfold runL
  rw [if_pos h]
  omega
theorem remL_le : ∀ (m : Nat) (l : List UInt8) (d n : Nat), l.length ≤ m → remL l d = some n → 0 < n ∧ n ≤ l.length := by
  intro m
  induction m with
  | zero =>
    intro l d n hl h
    obtain rfl := List.length_eq_zero_iff.1 (Nat.le_zero.1 hl)
    simp [remL] at h
  | succ m ih =>
    intro l d n hl h
    unfold remL at h
    split at h
    · cases h
    · obtain ⟨k, hk, rfl⟩ := Option.map_eq_some_iff.1 h
      have := ih _ _ _ (by simp at hl; omega) hk
      simp
      omega
    · split at h
      · cases h
        simp
      · obtain ⟨k, hk, rfl⟩ := Option.map_eq_some_iff.1 h
        have := ih _ _ _ (by simp at hl; omega) hk
        simp
        omega
    · obtain ⟨k, hk, rfl⟩ := Option.map_eq_some_iff.1 h
      have := ih _ _ _ (by simp at hl; omega) hk
      simp
      omega
theorem quoL_le (q : UInt8) : ∀ (m : Nat) (l : List UInt8) (t : List UInt8) (n : Nat), l.length ≤ m → quoL q l = some (t, n) → n ≤ l.length := by
  intro m
  induction m with
  | zero =>
    intro l t n hl h
    obtain rfl := List.length_eq_zero_iff.1 (Nat.le_zero.1 hl)
    simp [quoL] at h
  | succ m ih =>
    intro l t n hl h
    unfold quoL at h
    split at h
    · cases h
    · split at h
      · cases h
        simp
      · cases h
    · split at h
      · split at h
        · obtain ⟨o, ho, he⟩ := Option.map_eq_some_iff.1 h
          cases he
          have := ih _ o.1 o.2 (by simp at hl; omega) ho
          simp
          omega
        · cases h
          simp
      · obtain ⟨o, ho, he⟩ := Option.map_eq_some_iff.1 h
        cases he
        have := ih _ o.1 o.2 (by simp at hl ⊢; omega) ho
        simp at this ⊢
        omega
theorem prefix_len {T l : List UInt8} (h : T.isPrefixOf l = true) : T.length ≤ l.length := (List.isPrefixOf_iff_prefix.1 h).length_le
theorem dolL_le (T : List UInt8) : ∀ (l t : List UInt8) (n : Nat), dolL T l = some (t, n) → n ≤ l.length
  | [], t, n, h => by
    unfold dolL at h
    split at h
    · rename_i hp
      cases h
      exact prefix_len hp
    · cases h
  | c :: r, t, n, h => by
    unfold dolL at h
    split at h
    · rename_i hp
      cases h
      exact prefix_len hp
    · obtain ⟨o, ho, he⟩ := Option.map_eq_some_iff.1 h
      cases he
      have := dolL_le T r o.1 o.2 ho
      simp
      omega
theorem tagL_le (r : List UInt8) (n : Nat) (h : tagL r = some n) : 2 ≤ n ∧ n ≤ r.length + 1 := by
  unfold tagL at h
  split at h
  · rename_i he
    cases h
    have := (List.getElem?_eq_some_iff.1 he).1
    omega
  · cases h
theorem oneL_le (s : List UInt8) (k : Int) (t : List UInt8) (n : Nat) (h : oneL s = .tok k t n) : 0 < n ∧ n ≤ s.length := by
  cases s with
  | nil => simp [oneL] at h
  | cons c r =>
    have e1 := runL_le wordB (c :: r)
    have e2 := runL_le numB (c :: r)
    have e3 := runL_le digB r
    have h : oneC c r = .tok k t n := h
    unfold oneC at h
    split at h
    · rename_i hc
      cases h
      exact ⟨runL_pos _ _ _ (by unfold wordB; rw [hc]; rfl), e1⟩
    · split at h
      · rename_i hc
        cases h
        exact ⟨runL_pos _ _ _ (by unfold numB; rw [hc]; rfl), e2⟩
      · split at h
        · split at h
          · cases h
          · rename_i hq
            cases h
            have := quoL_le _ _ _ _ _ (Nat.le_refl _) hq
            simp
            omega
        · split at h
          · split at h
            · cases h
            · rename_i hq
              cases h
              have := quoL_le _ _ _ _ _ (Nat.le_refl _) hq
              simp
              omega
          · split at h
            · split at h
              · rename_i hn
                have a1 := tagL_le _ _ hn
                split at h
                · cases h
                · rename_i hd
                  cases h
                  have := dolL_le _ _ _ _ hd
                  simp at this ⊢
                  omega
              · split at h
                · cases h
                · cases h
                  simp
                  omega
            · split at h
              · cases h
                simp
              · cases h
theorem stepL_gap (s : List UInt8) (n : Nat) (h : stepL s = .gap n) : 0 < n ∧ n ≤ s.length := by
  cases s with
  | nil => simp [stepL] at h
  | cons c r =>
    have h : stepC c r = .gap n := h
    unfold stepC at h
    split at h
    · cases h
      simp
    · split at h
      · rename_i hc
        cases h
        refine ⟨runL_pos _ _ _ ?_, runL_le _ _⟩
        simp only [Bool.and_eq_true, beq_iff_eq] at hc
        rw [hc.1]
        decide
      · split at h
        · split at h
          · cases h
          · rename_i hr
            cases h
            exact remL_le _ _ _ _ (Nat.le_refl _) hr
        · cases h
theorem stepL_tok (s : List UInt8) (k : Int) (t : List UInt8) (n : Nat) (h : stepL s = .one (.tok k t n)) : 0 < n ∧ n ≤ s.length ∧ oneL s = .tok k t n := by
  cases s with
  | nil => simp [stepL] at h
  | cons c r =>
    have h : stepC c r = .one (.tok k t n) := h
    unfold stepC at h
    split at h
    · cases h
    · split at h
      · cases h
      · split at h
        · split at h <;> cases h
        · injection h with h
          have := oneL_le _ _ _ _ h
          exact ⟨this.1, this.2, h⟩
/-- More rounds tell the same. -/
theorem scL_more : ∀ (f : Nat) (g at_ : Nat) (s : List UInt8), s.length < f → s.length < g → scL f at_ s = scL g at_ s := by
  intro f
  induction f with
  | zero => intro g at_ s h; omega
  | succ f ih =>
    intro g at_ s hf hg
    obtain ⟨g, rfl⟩ : ∃ m, g = m + 1 := ⟨g - 1, by omega⟩
    unfold scL
    cases hs : stepL s with
    | stop => rfl
    | gap n =>
      have := stepL_gap _ _ hs
      simp only []
      exact ih _ _ _ (by simp; omega) (by simp; omega)
    | open_ => rfl
    | one o =>
      cases o with
      | tok k t n =>
        have := stepL_tok _ _ _ _ hs
        simp only []
        rw [ih g _ _ (by simp; omega) (by simp; omega)]
      | open_ => rfl
      | bad => rfl
/-- Places count from where one begins. -/
def Res.shift (k : Nat) : Res → Res
  | .ok l => .ok (l.map fun t => ⟨t.kind, t.text, t.at_ + k⟩)
  | .err e a => .err e (a + k)
theorem scL_shift : ∀ (f k at_ : Nat) (s : List UInt8), s.length < f → scL f (at_ + k) s = (scL f at_ s).shift k := by
  intro f
  induction f with
  | zero => intro k at_ s h; omega
  | succ f ih =>
    intro k at_ s hf
    unfold scL
    cases hs : stepL s with
    | stop => rfl
    | gap n =>
      have := stepL_gap _ _ hs
      simp only []
      rw [show at_ + k + n = at_ + n + k by omega]
      exact ih k (at_ + n) _ (by simp; omega)
    | open_ => rfl
    | one o =>
      cases o with
      | tok kd t n =>
        have := stepL_tok _ _ _ _ hs
        simp only []
        rw [show at_ + k + n = at_ + n + k by omega, ih k (at_ + n) _ (by simp; omega)]
        cases scL f (at_ + n) (s.drop n) <;> rfl
      | open_ => rfl
      | bad => rfl
def Res.pre (l : List Tk) : Res → Res
  | .ok m => .ok (l ++ m)
  | .err e a => .err e a
end Go.Proofs.Ytgfppniifjabdaa
