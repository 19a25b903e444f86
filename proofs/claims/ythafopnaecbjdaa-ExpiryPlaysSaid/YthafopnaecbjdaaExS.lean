/- A binary heap over lists, in plain words. No program in sight. -/
namespace Go.Proofs.Ythafopnaecbjdaa
namespace Hp

section
variable {α : Type} (z : α) (lt : α → α → Bool)
def at_ (H : List α) (j : Nat) : α := H.getD j z
def sw (H : List α) (i k : Nat) : List α := (H.set i (at_ z H k)).set k (at_ z H i)
theorem sw_len (H : List α) (i k : Nat) : (sw z H i k).length = H.length := by unfold sw; rw [List.length_set, List.length_set]
theorem at_lt (H : List α) (j : Nat) (h : j < H.length) : at_ z H j = H[j] := by unfold at_; rw [List.getD_eq_getElem?_getD, List.getElem?_eq_getElem h]; rfl
theorem at_sw (H : List α) (i k j : Nat) (_hi : i < H.length) (_hk : k < H.length) (hj : j < H.length) : at_ z (sw z H i k) j = if j = k then at_ z H i else if j = i then at_ z H k else at_ z H j := by
  rw [at_lt z _ j (by rw [sw_len]; exact hj)]
  unfold sw
  rw [List.getElem_set]
  by_cases h1 : k = j
  · rw [if_pos h1, if_pos h1.symm]
  · rw [if_neg h1, if_neg (Ne.symm h1), List.getElem_set]
    by_cases h2 : i = j
    · rw [if_pos h2, if_pos h2.symm]
    · rw [if_neg h2, if_neg (Ne.symm h2), at_lt z _ _ hj]
theorem sw_perm (H : List α) (i k : Nat) (hi : i < H.length) (hk : k < H.length) : (sw z H i k).Perm H := by
  have h := Array.swap_perm (xs := H.toArray) (i := i) (j := k) (by simpa using hi) (by simpa using hk)
  have h2 := Array.perm_iff_toList_perm.1 h
  have e : (H.toArray.swap i k (by simpa using hi) (by simpa using hk)).toList = sw z H i k := by
    apply List.ext_getElem
    · rw [sw_len]; simp
    · intro j h3 h4
      have hj : j < H.length := by rw [sw_len] at h4; exact h4
      have h5 := at_sw z H i k j hi hk hj
      rw [at_lt z _ j h4] at h5
      rw [h5, at_lt z H i hi, at_lt z H k hk, at_lt z H j hj, Array.getElem_toList, Array.getElem_swap]
      simp only [List.getElem_toArray]
      by_cases e1 : j = i
      · rw [if_pos e1]
        by_cases e2 : j = k
        · rw [if_pos e2]; subst e1; subst e2; rfl
        · rw [if_neg e2, if_pos e1]
      · rw [if_neg e1]
        by_cases e2 : j = k
        · rw [if_pos e2, if_pos e2]
        · rw [if_neg e2, if_neg e2, if_neg e1]
  rw [e] at h2
  exact h2
def le (a b : α) : Prop := lt b a = false
def upF : Nat → List α → Nat → List α
  | 0, H, _ => H
  | f + 1, H, i => if 0 < i ∧ lt (at_ z H i) (at_ z H ((i - 1) / 2)) = true then upF f (sw z H i ((i - 1) / 2)) ((i - 1) / 2) else H
def best (H : List α) (i : Nat) : Nat :=
  let b := if 2 * i + 1 < H.length ∧ lt (at_ z H (2 * i + 1)) (at_ z H i) = true then 2 * i + 1 else i
  if 2 * i + 2 < H.length ∧ lt (at_ z H (2 * i + 2)) (at_ z H b) = true then 2 * i + 2 else b
def downF : Nat → List α → Nat → List α
  | 0, H, _ => H
  | f + 1, H, i => if best z lt H i = i then H else downF f (sw z H i (best z lt H i)) (best z lt H i)
def Heap (H : List α) : Prop := ∀ k, 0 < k → k < H.length → le lt (at_ z H ((k - 1) / 2)) (at_ z H k)
def UpInv (H : List α) (i : Nat) : Prop := (∀ k, 0 < k → k < H.length → k ≠ i → le lt (at_ z H ((k - 1) / 2)) (at_ z H k)) ∧ (0 < i → ∀ c, c < H.length → 0 < c → (c - 1) / 2 = i → le lt (at_ z H ((i - 1) / 2)) (at_ z H c))
def DnInv (H : List α) (i : Nat) : Prop := (∀ k, 0 < k → k < H.length → k ≠ i → (k - 1) / 2 ≠ i → le lt (at_ z H ((k - 1) / 2)) (at_ z H k)) ∧ (0 < i → ∀ c, c < H.length → 0 < c → (c - 1) / 2 = i → le lt (at_ z H ((i - 1) / 2)) (at_ z H c))
variable (tr : ∀ a b c, le lt a b → le lt b c → le lt a c) (asy : ∀ a b, lt a b = true → le lt a b)
include tr asy
theorem up_ok : ∀ (f : Nat) (H : List α) (i : Nat), i < H.length → i ≤ f → UpInv z lt H i → Heap z lt (upF z lt f H i) ∧ (upF z lt f H i).Perm H := by
  intro f
  induction f with
  | zero =>
    intro H i hi hf h
    refine ⟨fun k h0 hk => h.1 k h0 hk (by omega), List.Perm.refl _⟩
  | succ f ih =>
    intro H i hi hf h
    unfold upF
    by_cases hc : 0 < i ∧ lt (at_ z H i) (at_ z H ((i - 1) / 2)) = true
    · rw [if_pos hc]
      obtain ⟨h0, hl⟩ := hc
      have hp : (i - 1) / 2 < i := by omega
      have hpn : (i - 1) / 2 < H.length := by omega
      have hsl := sw_len z H i ((i - 1) / 2)
      have hs : ∀ j, j < H.length → at_ z (sw z H i ((i - 1) / 2)) j = if j = (i - 1) / 2 then at_ z H i else if j = i then at_ z H ((i - 1) / 2) else at_ z H j := fun j hj => at_sw z H i ((i - 1) / 2) j hi hpn hj
      have hle := asy _ _ hl
      obtain ⟨a, b⟩ := ih (sw z H i ((i - 1) / 2)) ((i - 1) / 2) (by rw [hsl]; exact hpn) (by omega) (by
        refine ⟨fun k k0 hk hkp => ?_, fun p0 c hcn c0 hcp => ?_⟩
        · rw [hsl] at hk
          rw [hs k hk, hs ((k - 1) / 2) (by omega), if_neg hkp]
          by_cases e1 : k = i
          · rw [if_pos e1, e1, if_pos rfl]
            exact hle
          · rw [if_neg e1]
            by_cases e2 : (k - 1) / 2 = i
            · rw [if_neg (by omega), if_pos e2]
              exact h.2 h0 k hk k0 e2
            · by_cases e3 : (k - 1) / 2 = (i - 1) / 2
              · rw [if_pos e3]
                have := h.1 k k0 hk e1
                rw [e3] at this
                exact tr _ _ _ hle this
              · rw [if_neg e3, if_neg e2]
                exact h.1 k k0 hk e1
        · rw [hsl] at hcn
          rw [hs c hcn, hs (((i - 1) / 2 - 1) / 2) (by omega), if_neg (show ¬ ((i - 1) / 2 - 1) / 2 = (i - 1) / 2 by omega), if_neg (show ¬ ((i - 1) / 2 - 1) / 2 = i by omega), if_neg (show ¬ c = (i - 1) / 2 by omega)]
          have hpp := h.1 ((i - 1) / 2) p0 hpn (by omega)
          by_cases e1 : c = i
          · rw [if_pos e1]
            exact hpp
          · rw [if_neg e1]
            have := h.1 c c0 hcn e1
            rw [hcp] at this
            exact tr _ _ _ hpp this)
      exact ⟨a, b.trans (sw_perm z H i _ hi hpn)⟩
    · rw [if_neg hc]
      refine ⟨fun k k0 hk => ?_, List.Perm.refl _⟩
      by_cases e : k = i
      · subst e
        unfold le
        cases hl : lt (at_ z H k) (at_ z H ((k - 1) / 2)) with
        | false => rfl
        | true => exact absurd ⟨k0, hl⟩ hc
      · exact h.1 k k0 hk e
theorem best_ok (H : List α) (i : Nat) (_hi : i < H.length) : (best z lt H i = i ∧ ∀ c, c < H.length → 0 < c → (c - 1) / 2 = i → le lt (at_ z H i) (at_ z H c)) ∨
    ((best z lt H i = 2 * i + 1 ∨ best z lt H i = 2 * i + 2) ∧ best z lt H i < H.length ∧ le lt (at_ z H (best z lt H i)) (at_ z H i) ∧ ∀ c, c < H.length → 0 < c → (c - 1) / 2 = i → c ≠ best z lt H i → le lt (at_ z H (best z lt H i)) (at_ z H c)) := by
  have no : ∀ a b : α, ¬ lt a b = true → le lt b a := fun a b h => by
    unfold le
    cases hl : lt a b with
    | false => rfl
    | true => exact absurd hl h
  unfold best
  by_cases h1 : 2 * i + 1 < H.length ∧ lt (at_ z H (2 * i + 1)) (at_ z H i) = true
  · simp only [if_pos h1]
    have l1 := asy _ _ h1.2
    by_cases h2 : 2 * i + 2 < H.length ∧ lt (at_ z H (2 * i + 2)) (at_ z H (2 * i + 1)) = true
    · simp only [if_pos h2]
      have l2 := asy _ _ h2.2
      refine .inr ⟨.inr (by first | trivial | rfl), h2.1, tr _ _ _ l2 l1, fun c hc c0 hp hne => ?_⟩
      obtain rfl : c = 2 * i + 1 := by omega
      exact l2
    · simp only [if_neg h2]
      refine .inr ⟨.inl (by first | trivial | rfl), h1.1, l1, fun c hc c0 hp hne => ?_⟩
      obtain rfl : c = 2 * i + 2 := by omega
      exact no _ _ (fun h => h2 ⟨hc, h⟩)
  · simp only [if_neg h1]
    by_cases h2 : 2 * i + 2 < H.length ∧ lt (at_ z H (2 * i + 2)) (at_ z H i) = true
    · simp only [if_pos h2]
      have l2 := asy _ _ h2.2
      refine .inr ⟨.inr (by first | trivial | rfl), h2.1, l2, fun c hc c0 hp hne => ?_⟩
      obtain rfl : c = 2 * i + 1 := by omega
      exact tr _ _ _ l2 (no _ _ (fun h => h1 ⟨hc, h⟩))
    · simp only [if_neg h2]
      refine .inl ⟨trivial, fun c hc c0 hp => ?_⟩
      by_cases e : c = 2 * i + 1
      · subst e; exact no _ _ (fun h => h1 ⟨hc, h⟩)
      · obtain rfl : c = 2 * i + 2 := by omega
        exact no _ _ (fun h => h2 ⟨hc, h⟩)
theorem down_ok : ∀ (f : Nat) (H : List α) (i : Nat), i < H.length → H.length ≤ f + i → DnInv z lt H i →
    (downF z lt f H i).Perm H ∧ UpInv z lt (downF z lt f H i) i ∧ (0 < i → le lt (at_ z H ((i - 1) / 2)) (at_ z H i) → le lt (at_ z (downF z lt f H i) ((i - 1) / 2)) (at_ z (downF z lt f H i) i)) ∧ (∀ j, j < i → at_ z (downF z lt f H i) j = at_ z H j) ∧ (downF z lt f H i).length = H.length := by
  intro f
  induction f with
  | zero => intro H i hi hf; omega
  | succ f ih =>
    intro H i hi hf h
    unfold downF
    rcases best_ok z lt tr asy H i hi with ⟨hb, hch⟩ | ⟨hb, hbn, hbl, hsib⟩
    · rw [if_pos hb]
      refine ⟨List.Perm.refl _, ⟨fun k k0 hk hki => ?_, h.2⟩, fun _ h => h, fun _ _ => rfl, rfl⟩
      by_cases e : (k - 1) / 2 = i
      · rw [e]
        exact hch k hk k0 e
      · exact h.1 k k0 hk hki e
    · have hbi : best z lt H i ≠ i := by omega
      rw [if_neg hbi]
      generalize best z lt H i = b at *
      have hpb : (b - 1) / 2 = i := by omega
      have hsl := sw_len z H i b
      have hs : ∀ j, j < H.length → at_ z (sw z H i b) j = if j = b then at_ z H i else if j = i then at_ z H b else at_ z H j := fun j hj => at_sw z H i b j hi hbn hj
      obtain ⟨q1, q2, q3, q4, q5⟩ := ih (sw z H i b) b (by rw [hsl]; exact hbn) (by rw [hsl]; omega) (by
        refine ⟨fun k k0 hk hkb hpk => ?_, fun b0 c hcn c0 hcp => ?_⟩
        · rw [hsl] at hk
          rw [hs k hk, hs ((k - 1) / 2) (by omega), if_neg hkb, if_neg hpk]
          by_cases e1 : k = i
          · subst e1
            rw [if_pos rfl, if_neg (by omega)]
            exact h.2 k0 b hbn (by omega) hpb
          · rw [if_neg e1]
            by_cases e2 : (k - 1) / 2 = i
            · rw [if_pos e2]
              exact hsib k hk k0 e2 hkb
            · rw [if_neg e2]
              exact h.1 k k0 hk e1 e2
        · rw [hsl] at hcn
          rw [hs c hcn, hpb, hs i hi, if_neg (show ¬ i = b by omega), if_pos rfl, if_neg (show ¬ c = b by omega), if_neg (show ¬ c = i by omega)]
          have := h.1 c c0 hcn (by omega) (by omega)
          rw [hcp] at this
          exact this)
      rw [hsl] at q5
      have hi' : at_ z (sw z H i b) i = at_ z H b := by rw [hs i hi, if_neg (show ¬ i = b by omega), if_pos rfl]
      have hb' : at_ z (sw z H i b) b = at_ z H i := by rw [hs b hbn, if_pos rfl]
      have first : ∀ k, 0 < k → k < (downF z lt f (sw z H i b) b).length → k ≠ i → le lt (at_ z (downF z lt f (sw z H i b) b) ((k - 1) / 2)) (at_ z (downF z lt f (sw z H i b) b) k) := fun k k0 hk hki => by
        by_cases e : k = b
        · subst e
          refine q3 (by omega) ?_
          rw [hpb, hi', hb']
          exact hbl
        · exact q2.1 k k0 hk e
      refine ⟨q1.trans (sw_perm z H i b hi hbn), ⟨first, fun i0 c hcn c0 hcp => ?_⟩, fun i0 _ => q2.1 i i0 (by rw [q5]; exact hi) (by omega), fun j hj => ?_, q5⟩
      · have e1 := q2.1 i i0 (by rw [q5]; exact hi) (by omega)
        have e2 := first c c0 hcn (by omega)
        rw [hcp] at e2
        exact tr _ _ _ e1 e2
      · rw [q4 j (by omega), hs j (by omega), if_neg (by omega), if_neg (by omega)]
omit asy in
theorem min_ok (H : List α) (h : Heap z lt H) (rfl_ : ∀ a, le lt a a) : ∀ k, k < H.length → le lt (at_ z H 0) (at_ z H k) := by
  intro k
  induction k using Nat.strongRecOn with
  | ind k ih =>
    intro hk
    by_cases h0 : k = 0
    · subst h0; exact rfl_ _
    · exact tr _ _ _ (ih ((k - 1) / 2) (by omega) (by omega)) (h k (by omega) hk)
omit tr asy in
theorem at_take (H : List α) (n j : Nat) (hj : j < n) : at_ z (H.take n) j = at_ z H j := by
  unfold at_
  rw [List.getD_eq_getElem?_getD, List.getD_eq_getElem?_getD, List.getElem?_take, if_pos hj]
omit tr asy in
theorem at_app (H : List α) (x : α) (j : Nat) (hj : j < H.length) : at_ z (H ++ [x]) j = at_ z H j := by
  unfold at_
  rw [List.getD_eq_getElem?_getD, List.getD_eq_getElem?_getD, List.getElem?_append_left hj]
/-- One more at the end, and up. -/
theorem push_ok (H : List α) (x : α) (h : Heap z lt H) (f : Nat) (hf : H.length ≤ f) : Heap z lt (upF z lt f (H ++ [x]) H.length) ∧ (upF z lt f (H ++ [x]) H.length).Perm (H ++ [x]) := by
  refine up_ok z lt tr asy f (H ++ [x]) H.length (by rw [List.length_append]; simp) hf ⟨fun k k0 hk hkn => ?_, fun h0 c hc c0 hcp => ?_⟩
  · rw [List.length_append, List.length_singleton] at hk
    rw [at_app z H x k (by omega), at_app z H x _ (by omega)]
    exact h k k0 (by omega)
  · rw [List.length_append, List.length_singleton] at hc
    omega
def cutL (H : List α) (i : Nat) : List α := (sw z H i (H.length - 1)).take (H.length - 1)
def remF (f : Nat) (H : List α) (i : Nat) : List α := if i < H.length - 1 then upF z lt f (downF z lt f (cutL z H i) i) i else cutL z H i
omit tr asy in
theorem cut_len (H : List α) (i : Nat) : (cutL z H i).length = H.length - 1 := by unfold cutL; rw [List.length_take, sw_len]; omega
omit tr asy in
theorem cut_at (H : List α) (i j : Nat) (hi : i < H.length) (hj : j < H.length - 1) : at_ z (cutL z H i) j = if j = i then at_ z H (H.length - 1) else at_ z H j := by
  unfold cutL
  rw [at_take z _ _ _ hj, at_sw z H i (H.length - 1) j hi (by omega) (by omega), if_neg (by omega)]
omit tr asy in
theorem cut_perm (H : List α) (i : Nat) (hi : i < H.length) : H.Perm (at_ z H i :: cutL z H i) := by
  have h := sw_perm z H i (H.length - 1) hi (by omega)
  have hl := sw_len z H i (H.length - 1)
  have hlt : H.length - 1 < (sw z H i (H.length - 1)).length := by rw [hl]; omega
  have e : sw z H i (H.length - 1) = cutL z H i ++ [at_ z H i] := by
    conv => lhs; rw [← List.take_append_drop (H.length - 1) (sw z H i (H.length - 1))]
    unfold cutL
    congr 1
    rw [List.drop_eq_getElem_cons hlt, List.drop_of_length_le (by rw [hl]; omega), ← at_lt z _ _ hlt, at_sw z H i (H.length - 1) _ hi (by omega) (by omega), if_pos rfl]
  rw [e] at h
  exact h.symm.trans (List.perm_append_singleton _ _)
/-- One goes: the others are a heap. -/
theorem rem_ok (H : List α) (h : Heap z lt H) (i : Nat) (hi : i < H.length) (f : Nat) (hf : H.length ≤ f) : Heap z lt (remF z lt f H i) ∧ H.Perm (at_ z H i :: remF z lt f H i) := by
  have hp := cut_perm z H i hi
  have hl := cut_len z H i
  unfold remF
  by_cases hc : i < H.length - 1
  · rw [if_pos hc]
    obtain ⟨q1, q2, _, _, q5⟩ := down_ok z lt tr asy f (cutL z H i) i (by rw [hl]; exact hc) (by rw [hl]; omega) (by
      refine ⟨fun k k0 hk hki hpk => ?_, fun i0 c hcn c0 hcp => ?_⟩
      · rw [hl] at hk
        rw [cut_at z H i k hi hk, cut_at z H i _ hi (by omega), if_neg hki, if_neg hpk]
        exact h k k0 (by omega)
      · rw [hl] at hcn
        rw [cut_at z H i c hi hcn, cut_at z H i _ hi (by omega), if_neg (show ¬ c = i by omega), if_neg (show ¬ (i - 1) / 2 = i by omega)]
        have a1 := h i i0 hi
        have a2 := h c c0 (by omega)
        rw [hcp] at a2
        exact tr _ _ _ a1 a2)
    obtain ⟨r1, r2⟩ := up_ok z lt tr asy f (downF z lt f (cutL z H i) i) i (by rw [q5, hl]; exact hc) (by omega) q2
    exact ⟨r1, hp.trans (List.Perm.cons _ (r2.trans q1).symm)⟩
  · rw [if_neg hc]
    refine ⟨fun k k0 hk => ?_, hp⟩
    rw [hl] at hk
    rw [cut_at z H i k hi hk, cut_at z H i _ hi (by omega), if_neg (by omega), if_neg (by omega)]
    exact h k k0 (by omega)
end
end Hp
end Go.Proofs.Ythafopnaecbjdaa
