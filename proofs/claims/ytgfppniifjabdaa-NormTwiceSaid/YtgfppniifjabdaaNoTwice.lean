/- norm: NormTwice answers true. -/
import Derived.Test.YtgfppniifjabdaaNoK
import Derived.Test.YtgfppniifjabdaaNoP1
import Derived.Test.YtgfppniifjabdaaNoA
import Derived.Test.YtgfppniifjabdaaPbT
namespace Go.Proofs.Ytgfppniifjabdaa
open Go Go.RowKit Go.Proofs.Ytgfppniifjabdaa.Pb Go.Proofs.YtgfppniifjabdaaW.PrintWords Go.Proofs.YtgfppniifjabdaaW.PrintLast
set_option linter.unusedSimpArgs false

/-! NormTwice -/
theorem cutS_sub (l : List Tk) : ∀ t ∈ cutS l, t ∈ l := by
  intro t ht
  unfold cutS at ht
  rw [List.mem_reverse] at ht
  exact List.mem_reverse.1 ((List.dropWhile_sublist semi).subset ht)
theorem cutS_len (l : List Tk) : (cutS l).length ≤ l.length := by
  unfold cutS
  rw [List.length_reverse]
  have := (List.dropWhile_sublist (l := l.reverse) semi).length_le
  rw [List.length_reverse] at this
  exact this
theorem normL_valid (l : List Tk) (h : ∀ t ∈ l, Valid t.kind t.text) : ∀ t ∈ normL l, Valid t.kind t.text := by
  intro t ht
  obtain ⟨u, hu, rfl⟩ := List.mem_map.1 ht
  exact numT_valid u (h u (cutS_sub l u hu))
theorem normL_text (l : List Tk) (N : Nat) (h : ∀ t ∈ l, t.text.length ≤ N) : ∀ t ∈ normL l, t.text.length ≤ N := by
  intro t ht
  obtain ⟨u, hu, rfl⟩ := List.mem_map.1 ht
  have h1 := h u (cutS_sub l u hu)
  unfold numT
  split
  · exact Nat.le_trans (numL_len u.text) h1
  · exact h1
theorem show_len : ∀ (l : List Tk), (∀ t ∈ l, t.text.length ≤ 900) → (showL l).length ≤ l.length * 2000 := by
  have hT : ∀ t : Tk, t.text.length ≤ 900 → (showT t.kind t.text).length ≤ 1900 := fun t ht => by
    have h2 := dbl_len 34 t.text
    have h3 := dbl_len 39 t.text
    unfold showT
    split
    · omega
    · split <;> omega
  intro l
  induction l with
  | nil => intro _; simp [showL]
  | cons t r ih =>
    intro h
    have a1 := hT t (h t List.mem_cons_self)
    have a2 := ih (fun x hx => h x (List.mem_cons_of_mem _ hx))
    cases r with
    | nil => show (showT t.kind t.text).length ≤ _; simp; omega
    | cons u r =>
      show (showT t.kind t.text ++ 32 :: showL (u :: r)).length ≤ _
      simp only [List.length_append, List.length_cons] at a2 ⊢
      omega
theorem again (l : List Tk) (h : ∀ t ∈ l, Valid t.kind t.text) : ∃ m, scan (showL (normL l)) = .ok m ∧ showL (normL m) = showL (normL l) := by
  obtain ⟨m, hm, hk⟩ := scL_show (normL l) ((showL (normL l)).length + 1) 0 (normL_valid l h) (Nat.lt_succ_self _)
  refine ⟨m, hm, showL_kt _ _ ?_⟩
  rw [normL_kt m (normL l) hk, normL_normL]
theorem dressed (s : List UInt8) (l : List Tk) (h : scan s = .ok l) : ∃ m, scan (headR ++ (s ++ 10 :: endR)) = .ok m ∧ showL (normL m) = showL (normL l) := by
  obtain ⟨m, hm, hk⟩ := scan_dressed s l h
  refine ⟨m, hm, showL_kt _ _ ?_⟩
  have e : (l ++ [(⟨5, [59], 0⟩ : Tk)] ++ [(⟨5, [59], 0⟩ : Tk)]).map kt = m.map kt := by
    rw [hk, List.map_append, List.map_append]
    simp [kt]
  rw [← normL_kt _ m e]
  unfold normL
  rw [cutS_snoc _ _ (by rfl), cutS_snoc _ _ (by rfl)]
theorem twice_f (s : ByteArray) (hs : s.size ≤ 140737488351232) : pontoonlaw05_NormTwice.f 40000 s = some true := by
  have hkn := known_up 40000 (by omega)
  unfold pontoonlaw05_NormTwice.f
  by_cases hz : (s.size : Int) > 800
  · rw [if_pos hz, hkn]
    rfl
  · rw [if_neg hz, form_f s hs 40000 (by omega), Option.bind_some]
    have hf : formF s = match scan (tl s) with
        | .ok l => (ofL (showL (normL l)), 0)
        | .err e _ => (⟨#[]⟩, e) := if_neg (by omega)
    cases hr : scan (tl s) with
    | err e a =>
      have h0 := scL_err _ _ _ _ _ (Nat.lt_succ_self _) hr
      rw [hf, hr]
      show (if e = 0 then _ else _) = _
      rw [if_neg (by omega)]
      show (if (⟨#[]⟩ : ByteArray).toList = [] then _ else _) = _
      rw [if_pos (by rw [toL]), hkn]
      rfl
    | ok l =>
      obtain ⟨v1, v2, v3, v4⟩ := scL_valid _ _ _ _ hr
      have vt := scL_text _ _ _ _ hr
      rw [tl_len] at v4
      have hlen : (showL (normL l)).length ≤ 2000000 := by
        have a1 := show_len (normL l) (normL_text l 900 (fun t ht => by have := vt t ht; rw [tl_len] at this; omega))
        have a2 := cutS_len l
        have a3 : (normL l).length = (cutS l).length := List.length_map _
        omega
      obtain ⟨m1, hm1, hs1⟩ := again l v1
      obtain ⟨m2, hm2, hs2⟩ := dressed (tl s) l hr
      have hsz : (ofL (showL (normL l))).size = (showL (normL l)).length := ofL_size _
      have z9 : ((⟨#[32, 47, 42, 32, 114, 32, 42, 47, 32]⟩ : ByteArray) ++ s).size = 9 + s.size := ByteArray.size_append
      have htl : tl (((⟨#[32, 47, 42, 32, 114, 32, 42, 47, 32]⟩ : ByteArray) ++ s) ++ (⟨#[10, 59, 59, 32, 45, 45, 32, 101, 110, 100]⟩ : ByteArray)) = headR ++ (tl s ++ 10 :: endR) := by simp [tl, headR, endR]
      have zz : (((⟨#[32, 47, 42, 32, 114, 32, 42, 47, 32]⟩ : ByteArray) ++ s) ++ (⟨#[10, 59, 59, 32, 45, 45, 32, 101, 110, 100]⟩ : ByteArray)).size = 19 + s.size := by
        rw [ByteArray.size_append, z9]
        show 9 + s.size + 10 = _
        omega
      have hfd : formF (((⟨#[32, 47, 42, 32, 114, 32, 42, 47, 32]⟩ : ByteArray) ++ s) ++ (⟨#[10, 59, 59, 32, 45, 45, 32, 101, 110, 100]⟩ : ByteArray)) = (ofL (showL (normL l)), 0) := by
        unfold formF
        rw [if_neg (by omega), htl, hm2]
        show (ofL (showL (normL m2)), (0 : Int)) = _
        rw [hs2]
      rw [hf, hr]
      show (if (0 : Int) = 0 then _ else _) = _
      rw [if_pos rfl, form_f _ (by rw [hsz]; omega) 40000 (by omega), Option.bind_some, if_pos (by omega), if_pos (by omega), form_f _ (by omega) 40000 (by omega), Option.bind_some, hfd]
      by_cases hb : ((ofL (showL (normL l))).size : Int) > 2000
      · refine (if_pos hb).trans ?_
        show (if (0 : Int) = 0 then (if (ofL (showL (normL l))).toList = (ofL (showL (normL l))).toList then _ else _) else _) = _
        rw [if_pos rfl, if_pos rfl, hkn]
        rfl
      · have hfa : formF (ofL (showL (normL l))) = (ofL (showL (normL l)), 0) := by
          unfold formF
          rw [if_neg (by omega), tl_ofL, hm1]
          show (ofL (showL (normL m1)), (0 : Int)) = _
          rw [hs1]
        refine (if_neg hb).trans ?_
        rw [hfa]
        show (if (0 : Int) = 0 then (if (ofL (showL (normL l))).toList = (ofL (showL (normL l))).toList then (if (0 : Int) = 0 then (if (ofL (showL (normL l))).toList = (ofL (showL (normL l))).toList then _ else _) else _) else _) else _) = _
        rw [if_pos rfl, if_pos rfl, if_pos rfl, if_pos rfl, hkn]
        rfl
theorem twice_walk (s : ByteArray) (hs : s.size ≤ 140737488351232) (w : World) : Calls Try.prog 5 #[.string s] w fun e w' => e = .returned (.bool true) ∧ Below w.heap.size w w' :=
  pontoonlaw05_NormTwice.calls 40000 s true rfl w (twice_f s hs)
end Go.Proofs.Ytgfppniifjabdaa
