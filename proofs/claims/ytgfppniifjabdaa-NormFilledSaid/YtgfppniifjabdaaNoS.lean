/- Normal forms in plain words, over lists of bytes. No program in sight. -/
import Derived.Test.YtgfppniifjabdaaLxQ0
namespace Go.Proofs.Ytgfppniifjabdaa

/-- Leading zeros go, but for one ahead of a point. -/
def lead : List UInt8 → List UInt8
  | [] => []
  | [c] => [c]
  | c :: d :: r => if c = 48 ∧ d ≠ 46 then lead (d :: r) else c :: d :: r
def trail (l : List UInt8) : List UInt8 := (l.reverse.dropWhile (· == 48)).reverse
def unpt (l : List UInt8) : List UInt8 := if l.getLast? = some 46 then l.dropLast else l
/-- A number in its normal form. -/
def numL (l : List UInt8) : List UInt8 := if (lead l).count 46 = 1 then unpt (trail (lead l)) else lead l
theorem lead_lead : ∀ l, lead (lead l) = lead l
  | [] => rfl
  | [_] => rfl
  | c :: d :: r => by
    by_cases h : c = 48 ∧ d ≠ 46
    · have e : lead (c :: d :: r) = lead (d :: r) := if_pos h
      rw [e]
      exact lead_lead (d :: r)
    · have e : lead (c :: d :: r) = c :: d :: r := if_neg h
      rw [e, e]
theorem lead_pre {a c : List UInt8} (h : lead a = a) (hp : c <+: a) : lead c = c := by
  obtain ⟨t, rfl⟩ := hp
  match c, h with
  | [], _ => rfl
  | [_], _ => rfl
  | x :: y :: r, h =>
    unfold lead
    rw [if_neg]
    intro hc
    have h : lead (x :: y :: (r ++ t)) = x :: y :: (r ++ t) := h
    unfold lead at h
    rw [if_pos hc] at h
    have hl : (lead (y :: (r ++ t))).length ≤ (y :: (r ++ t)).length := by
      have key : ∀ l : List UInt8, (lead l).length ≤ l.length := by
        intro l
        induction l with
        | nil => exact Nat.le_refl _
        | cons c r ih =>
          cases r with
          | nil => exact Nat.le_refl _
          | cons d r =>
            unfold lead
            split
            · simp only [List.length_cons] at ih ⊢
              omega
            · exact Nat.le_refl _
      exact key _
    rw [h] at hl
    simp at hl
    omega
theorem trail_pre (l : List UInt8) : trail l <+: l := by
  unfold trail
  have h := List.dropWhile_suffix (l := l.reverse) (· == 48)
  have := List.reverse_prefix.2 h
  rwa [List.reverse_reverse] at this
theorem unpt_pre (l : List UInt8) : unpt l <+: l := by
  unfold unpt
  split
  · exact List.dropLast_prefix l
  · exact List.prefix_refl _
theorem trail_last (l : List UInt8) : (trail l).getLast? ≠ some 48 := by
  unfold trail
  rw [List.getLast?_reverse]
  intro h
  have := List.head?_dropWhile_not (· == 48) l.reverse
  rw [h] at this
  simp at this
theorem trail_id (l : List UInt8) (h : l.getLast? ≠ some 48) : trail l = l := by
  unfold trail
  have : l.reverse.dropWhile (· == 48) = l.reverse := by
    cases hr : l.reverse with
    | nil => rfl
    | cons x m =>
      rw [List.dropWhile_cons, if_neg]
      intro hx
      apply h
      rw [← List.head?_reverse, hr]
      simp at hx
      rw [hx]
      rfl
  rw [this, List.reverse_reverse]
theorem trail_count (l : List UInt8) : (trail l).count 46 = l.count 46 := by
  unfold trail
  rw [List.count_reverse]
  have key : ∀ m : List UInt8, (m.dropWhile (· == 48)).count 46 = m.count 46 := by
    intro m
    induction m with
    | nil => rfl
    | cons c r ih =>
      rw [List.dropWhile_cons]
      split
      · rename_i hc
        have : c = 48 := by simpa using hc
        subst this
        rw [ih]
        rfl
      · rfl
  rw [key, List.count_reverse]
theorem numL_numL (l : List UInt8) : numL (numL l) = numL l := by
  have h1 := lead_lead l
  have hd : numL l = if (lead l).count 46 = 1 then unpt (trail (lead l)) else lead l := rfl
  by_cases hc : (lead l).count 46 = 1
  · rw [if_pos hc] at hd
    have hpre : unpt (trail (lead l)) <+: lead l := (unpt_pre _).trans (trail_pre _)
    have hl : lead (numL l) = numL l := by rw [hd]; exact lead_pre h1 hpre
    by_cases hlast : (trail (lead l)).getLast? = some 46
    · have hu : unpt (trail (lead l)) = (trail (lead l)).dropLast := if_pos hlast
      have h0 : (numL l).count 46 = 0 := by
        rw [hd, hu]
        have hcat : (trail (lead l)).dropLast ++ [46] = trail (lead l) := by
          have hne : trail (lead l) ≠ [] := by intro e; rw [e] at hlast; simp at hlast
          have := List.dropLast_concat_getLast hne
          rw [List.getLast?_eq_some_getLast hne] at hlast
          rw [Option.some.inj hlast] at this
          exact this
        have h2 := trail_count (lead l)
        rw [← hcat, List.count_append, hc] at h2
        simpa using h2
      show (if (lead (numL l)).count 46 = 1 then _ else lead (numL l)) = _
      rw [hl, h0, if_neg (by decide)]
    · have hu : unpt (trail (lead l)) = trail (lead l) := if_neg hlast
      rw [hu] at hd
      show (if (lead (numL l)).count 46 = 1 then unpt (trail (lead (numL l))) else lead (numL l)) = _
      rw [hl]
      split
      · rw [hd, trail_id _ (trail_last _), hu]
      · rfl
  · rw [if_neg hc] at hd
    show (if (lead (numL l)).count 46 = 1 then _ else lead (numL l)) = _
    rw [hd, h1, if_neg hc]
/-- A number's token stays one. -/
theorem lead_num : ∀ l : List UInt8, (∀ x ∈ l, numB x = true) → (∃ c r, l = c :: r ∧ digB c = true) → (∀ x ∈ lead l, numB x = true) ∧ ∃ c r, lead l = c :: r ∧ digB c = true
  | [], _, h => by obtain ⟨c, r, h, _⟩ := h; cases h
  | [c], ha, h => ⟨ha, h⟩
  | c :: d :: r, ha, h => by
    unfold lead
    split
    · rename_i hc
      refine lead_num (d :: r) (fun x hx => ha x (List.mem_cons_of_mem _ hx)) ⟨d, r, rfl, ?_⟩
      have hd := ha d (by simp)
      unfold numB at hd
      have : (d == 46) = false := by rw [beq_eq_false_iff_ne]; exact hc.2
      rw [this, Bool.or_false] at hd
      exact hd
    · exact ⟨ha, h⟩
theorem pre_head {a b : List UInt8} (h : b <+: a) (hb : b ≠ []) : b.head? = a.head? := by
  obtain ⟨t, rfl⟩ := h
  cases b with
  | nil => exact absurd rfl hb
  | cons c r => rfl
theorem numL_num (l : List UInt8) (ha : ∀ x ∈ l, numB x = true) (h : ∃ c r, l = c :: r ∧ digB c = true) : (∀ x ∈ numL l, numB x = true) ∧ ∃ c r, numL l = c :: r ∧ digB c = true := by
  obtain ⟨h1, c, r, h2, h3⟩ := lead_num l ha h
  by_cases hc : (lead l).count 46 = 1
  · have hd : numL l = unpt (trail (lead l)) := if_pos hc
    have hpre : unpt (trail (lead l)) <+: lead l := (unpt_pre _).trans (trail_pre _)
    have hne : unpt (trail (lead l)) ≠ [] := by
      intro e
      have hcnt := trail_count (lead l)
      rw [hc] at hcnt
      have htn : trail (lead l) ≠ [] := by intro e2; rw [e2] at hcnt; simp at hcnt
      have hth : (trail (lead l)).head? = some c := by
        rw [pre_head (trail_pre (lead l)) htn, h2]
        rfl
      unfold unpt at e
      split at e
      · rename_i hlast
        cases ht : trail (lead l) with
        | nil => exact htn ht
        | cons x m =>
          rw [ht] at e hlast hth
          cases m with
          | nil =>
            simp at hlast hth
            rw [hlast] at hth
            rw [← hth] at h3
            exact absurd h3 (by decide)
          | cons y z => simp at e
      · exact htn e
    rw [hd]
    refine ⟨fun x hx => h1 x (hpre.subset hx), ?_⟩
    have hh : (unpt (trail (lead l))).head? = some c := by
      rw [pre_head hpre hne, h2]
      rfl
    cases hu : unpt (trail (lead l)) with
    | nil => exact absurd hu hne
    | cons x m =>
      rw [hu] at hh
      simp at hh
      exact ⟨x, m, rfl, by rw [hh]; exact h3⟩
  · have hd : numL l = lead l := if_neg hc
    rw [hd]
    exact ⟨h1, c, r, h2, h3⟩
/-! tokens -/
def semi (t : Tk) : Bool := t.kind == 5 && t.text == [59]
/-- Without the ; at its end. -/
def cutS (l : List Tk) : List Tk := (l.reverse.dropWhile semi).reverse
def numT (t : Tk) : Tk := if t.kind = 4 ∧ t.text ≠ [] then ⟨t.kind, numL t.text, t.at_⟩ else t
def normL (l : List Tk) : List Tk := (cutS l).map numT
theorem numT_numT (t : Tk) : numT (numT t) = numT t := by
  unfold numT
  by_cases h : t.kind = 4 ∧ t.text ≠ []
  · rw [if_pos h]
    split
    · rw [numL_numL]
    · rfl
  · rw [if_neg h, if_neg h]
theorem numT_semi (t : Tk) : semi (numT t) = semi t := by
  unfold numT
  split
  · rename_i h
    unfold semi
    rw [h.1]
    rfl
  · rfl
theorem numT_valid (t : Tk) (h : Valid t.kind t.text) : Valid (numT t).kind (numT t).text := by
  unfold numT
  split
  · rename_i h4
    rcases h with ⟨k, _⟩ | ⟨_, c, r, e, hc, ha⟩ | k | k | ⟨k, _⟩
    · rw [h4.1] at k; cases k
    · obtain ⟨q1, x, m, q2, q3⟩ := numL_num t.text ha ⟨c, r, e, hc⟩
      exact .inr (.inl ⟨h4.1, x, m, q2, q3, q1⟩)
    · rw [h4.1] at k; cases k
    · rw [h4.1] at k; cases k
    · rw [h4.1] at k; cases k
  · exact h
theorem cutS_snoc (l : List Tk) (t : Tk) (h : semi t = true) : cutS (l ++ [t]) = cutS l := by
  unfold cutS
  rw [List.reverse_append]
  show (List.dropWhile semi (t :: l.reverse)).reverse = _
  rw [List.dropWhile_cons, if_pos h]
theorem cutS_snoc_no (l : List Tk) (t : Tk) (h : semi t = false) : cutS (l ++ [t]) = l ++ [t] := by
  unfold cutS
  rw [List.reverse_append]
  show (List.dropWhile semi (t :: l.reverse)).reverse = _
  rw [List.dropWhile_cons, if_neg (by rw [h]; decide)]
  simp
theorem dropWhile_map {α β : Type} (f : α → β) (p : β → Bool) (q : α → Bool) (h : ∀ x, p (f x) = q x) : ∀ l : List α, (l.map f).dropWhile p = (l.dropWhile q).map f
  | [] => rfl
  | x :: r => by
    rw [List.map_cons, List.dropWhile_cons, List.dropWhile_cons, h x]
    split
    · exact dropWhile_map f p q h r
    · rfl
theorem cutS_map (f : Tk → Tk) (h : ∀ t, semi (f t) = semi t) (l : List Tk) : cutS (l.map f) = (cutS l).map f := by
  unfold cutS
  rw [← List.map_reverse, dropWhile_map f semi semi h, List.map_reverse]
theorem dropWhile_dropWhile {α : Type} (p : α → Bool) : ∀ l : List α, (l.dropWhile p).dropWhile p = l.dropWhile p
  | [] => rfl
  | x :: r => by
    rw [List.dropWhile_cons]
    split
    · exact dropWhile_dropWhile p r
    · rename_i h
      rw [List.dropWhile_cons, if_neg h]
theorem cutS_cutS (l : List Tk) : cutS (cutS l) = cutS l := by
  unfold cutS
  rw [List.reverse_reverse, dropWhile_dropWhile]
theorem normL_normL (l : List Tk) : normL (normL l) = normL l := by
  unfold normL
  rw [cutS_map numT numT_semi, cutS_cutS, List.map_map]
  congr 1
  funext t
  exact numT_numT t
/-- What is shown hangs on kinds and texts alone. -/
theorem showL_kt : ∀ (l m : List Tk), l.map kt = m.map kt → showL l = showL m
  | [], [], _ => rfl
  | [], _ :: _, h => by simp at h
  | _ :: _, [], h => by simp at h
  | [a], [b], h => by
    simp [kt] at h
    show showT a.kind a.text = showT b.kind b.text
    rw [h.1, h.2]
  | [_], _ :: _ :: _, h => by simp at h
  | _ :: _ :: _, [_], h => by simp at h
  | a :: b :: r, c :: d :: m, h => by
    have h' : kt a = kt c ∧ (b :: r).map kt = (d :: m).map kt := by simpa using h
    have ih := showL_kt (b :: r) (d :: m) h'.2
    have e : a.kind = c.kind ∧ a.text = c.text := by
      have := h'.1
      unfold kt at this
      simpa using this
    show showT a.kind a.text ++ 32 :: showL (b :: r) = showT c.kind c.text ++ 32 :: showL (d :: m)
    rw [ih, e.1, e.2]
/-- Forms hang on kinds and texts alone. -/
def ktn (p : Int × List UInt8) : Int × List UInt8 := if p.1 = 4 ∧ p.2 ≠ [] then (p.1, numL p.2) else p
theorem kt_num (t : Tk) : kt (numT t) = ktn (kt t) := by
  unfold numT ktn kt
  by_cases h : t.kind = 4 ∧ t.text ≠ []
  · rw [if_pos h, if_pos h]
  · rw [if_neg h, if_neg h]
def ksem (p : Int × List UInt8) : Bool := p.1 == 5 && p.2 == [59]
theorem normL_kt (l m : List Tk) (h : l.map kt = m.map kt) : (normL l).map kt = (normL m).map kt := by
  have key : ∀ l : List Tk, (normL l).map kt = (((l.map kt).reverse.dropWhile ksem).reverse).map ktn := by
    intro l
    have e : ((l.reverse.dropWhile semi).reverse).map kt = ((l.map kt).reverse.dropWhile ksem).reverse := by
      rw [List.map_reverse, ← dropWhile_map kt ksem semi (fun _ => rfl), List.map_reverse]
    unfold normL cutS
    rw [List.map_map, show (kt ∘ numT) = (ktn ∘ kt) from funext kt_num, ← List.map_map, e]
  rw [key, key, h]
end Go.Proofs.Ytgfppniifjabdaa
