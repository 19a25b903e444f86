/- norm: NormFills answers true. -/
import Derived.Test.YtgfppniifjabdaaNoK
import Derived.Test.YtgfppniifjabdaaNoP2r
import Derived.Test.YtgfppniifjabdaaNoArg
namespace Go.Proofs.Ytgfppniifjabdaa
open Go Go.RowKit Go.Proofs.Ytgfppniifjabdaa.Pb Go.Proofs.YtgfppniifjabdaaW.PrintWords Go.Proofs.YtgfppniifjabdaaW.PrintLast
set_option linter.unusedSimpArgs false

/-! NormFills -/
def incS (x : S35) : S35 := ⟨x.f0, x.f1, wrap64 (x.f2 + 1)⟩
theorem set_next {α : Type} (f : α → α) (a : List α) (i : Nat) (h : i < a.length) : ((a.take i).map f ++ a.drop i).set i (f a[i]) = (a.take (i + 1)).map f ++ a.drop (i + 1) := by
  rw [List.set_append_right _ _ (by rw [List.length_map, List.length_take]; omega), List.length_map, List.length_take, show i - min i a.length = 0 by omega, List.drop_eq_getElem_cons h, List.set_cons_zero, List.take_succ_eq_append_getElem h, List.map_append, List.append_assoc]
  rfl
theorem at_next {α : Type} (f : α → α) (a : List α) (i : Nat) (h : i < a.length) (h2 : i < ((a.take i).map f ++ a.drop i).length) : ((a.take i).map f ++ a.drop i)[i] = a[i] := by
  rw [List.getElem_append_right (by rw [List.length_map, List.length_take]; omega)]
  simp [show i - min i a.length = 0 by omega]
theorem len_next {α : Type} (f : α → α) (a : List α) (i : Nat) (h : i ≤ a.length) : ((a.take i).map f ++ a.drop i).length = a.length := by
  rw [List.length_append, List.length_map, List.length_take, List.length_drop]
  omega
theorem fills_end (l : List S35) (hl : Lite l) (c : List S35) (hc : c.length ≤ 100) (e : Int) (k : Nat) (hk : 20000 < k) : ((pontoonref04_Same.f k c c true).bind fun t323 => (if t323 = true then (if e = e then ((pontoonref04_Same.f k l l true).bind fun t324 => (if t324 = true then ((norm_Binds.f k l).bind fun t325 => ((pontoonref05_Binds.f k l).bind fun t326 => (if t325 = t326 then ((pontoonlaw05_known.f k).bind fun t327 => (some t327)) else (some false)))) else (some false))) else (some false)) else (some false))) = some true := by
  obtain ⟨h1, h2⟩ := hl
  rw [same_self c true k (by omega) (by omega), Option.bind_some, if_pos rfl, if_pos rfl, same_self l true k (by omega) (by omega), Option.bind_some, if_pos rfl, binds_f l (by omega) (fun x hx => Nat.le_trans (h2 x hx) (by decide)) k (by omega), rbinds_f l (by omega) (fun x hx => Nat.le_trans (h2 x hx) (by decide)) k (by omega), Option.bind_some, Option.bind_some, if_pos rfl, known_up k (by omega)]
  rfl
theorem fills_l1 (l : List S35) (hl : Lite l) (a : List S35) (ha : a.length ≤ 100) (e : Int) : ∀ (m k i : Nat), i + m = a.length → m + 20002 < k → pontoonlaw05_NormFills.l1 k l l (a.map incS) e ((a.take i).map incS ++ a.drop i) e (i : Int) = some true := by
  intro m
  induction m with
  | zero =>
    intro k i hi hk
    obtain ⟨k, rfl⟩ : ∃ j, k = j + 1 := ⟨k - 1, by omega⟩
    rw [pontoonlaw05_NormFills.l1, len_next incS a i (by omega), if_neg (by omega), List.drop_of_length_le (by omega), List.take_of_length_le (by omega), List.append_nil]
    exact fills_end l hl (a.map incS) (by rw [List.length_map]; exact ha) e k (by omega)
  | succ m ih =>
    intro k i hi hk
    obtain ⟨k, rfl⟩ : ∃ j, k = j + 1 := ⟨k - 1, by omega⟩
    have hlt : i < a.length := by omega
    rw [pontoonlaw05_NormFills.l1, len_next incS a i (by omega), if_pos (by omega), if_pos (by omega), rdT _ i (by rw [len_next incS a i (by omega)]; exact hlt), at_next incS a i hlt, Int.toNat_natCast, wrp (show -9223372036854775808 ≤ (i : Int) + 1 by omega) (by omega), show ((i : Int) + 1) = ((i + 1 : Nat) : Int) by omega]
    rw [show (⟨a[i].f0, a[i].f1, wrap64 (a[i].f2 + 1)⟩ : S35) = incS a[i] from rfl, set_next incS a i hlt]
    exact ih k (i + 1) (by omega) (by omega)
theorem fills_l0 (l : List S35) (hl : Lite l) (a : List S35) (ha : a.length ≤ 100) (e : Int) : ∀ (m k i : Nat), i + m = a.length → m + 20200 < k → pontoonlaw05_NormFills.l0 k l l ((a.take i).map incS ++ a.drop i) e a e (i : Int) = some true := by
  intro m
  induction m with
  | zero =>
    intro k i hi hk
    obtain ⟨k, rfl⟩ : ∃ j, k = j + 1 := ⟨k - 1, by omega⟩
    rw [pontoonlaw05_NormFills.l0, len_next incS a i (by omega), if_neg (by omega), List.drop_of_length_le (by omega), List.take_of_length_le (by omega), List.append_nil]
    exact fills_l1 l hl a ha e a.length k 0 (by omega) (by omega)
  | succ m ih =>
    intro k i hi hk
    obtain ⟨k, rfl⟩ : ∃ j, k = j + 1 := ⟨k - 1, by omega⟩
    have hlt : i < a.length := by omega
    rw [pontoonlaw05_NormFills.l0, len_next incS a i (by omega), if_pos (by omega), if_pos (by omega), rdT _ i (by rw [len_next incS a i (by omega)]; exact hlt), at_next incS a i hlt, Int.toNat_natCast, wrp (show -9223372036854775808 ≤ (i : Int) + 1 by omega) (by omega), show ((i : Int) + 1) = ((i + 1 : Nat) : Int) by omega]
    rw [show (⟨a[i].f0, a[i].f1, wrap64 (a[i].f2 + 1)⟩ : S35) = incS a[i] from rfl, set_next incS a i hlt]
    exact ih k (i + 1) (by omega) (by omega)
theorem fillR_len (args : List ByteArray) (null : List Bool) (l : List S35) (N : Nat) (h : l.length ≤ N) : (fillR [] (fillS args null l)).1.length ≤ N := by
  cases hf : fillS args null l with
  | none => exact Nat.zero_le _
  | some m =>
    show ([] ++ m).length ≤ N
    rw [List.nil_append, (filled args null l m hf).1]
    exact h
theorem fills_j (l : List S35) (args : List ByteArray) (null : List Bool) (b : Bool) (h : b = false → Lite l ∧ args.length ≤ 60 ∧ null.length ≤ 60) (k : Nat) (hk : 30001 ≤ k) : pontoonlaw05_NormFills.j0 k l args null b = some true := by
  obtain ⟨k, rfl⟩ : ∃ j, k = j + 1 := ⟨k - 1, by omega⟩
  rw [pontoonlaw05_NormFills.j0]
  cases b with
  | true =>
    rw [if_pos rfl, known_up k (by omega)]
    rfl
  | false =>
    obtain ⟨h0, h3, h4⟩ := h rfl
    have h1 := h0.1
    have h2 := h0.2
    rw [if_neg (by decide), Option.bind_some, if_pos (by simp; omega), Option.bind_some, List.nil_append]
    by_cases hlen : args.length = null.length
    · rw [fill_f args null hlen (by omega) l (by omega) (fun x hx => Nat.le_trans (h2 x hx) (by decide)) k (by omega), rfill_f args null hlen (by omega) l (by omega) (fun x hx => Nat.le_trans (h2 x hx) (by decide)) k (by omega), Option.bind_some, Option.bind_some]
      exact fills_l0 l h0 (fillR [] (fillS args null l)).1 (fillR_len args null l 100 h1) _ _ k 0 (Nat.zero_add _) (by have := fillR_len args null l 100 h1; omega)
    · have e1 : norm_Fill.f k l args null = some ([], 1) := if_neg (by omega)
      have e2 : pontoonref05_Fill.f k l args null = some ([], 1) := if_neg (by omega)
      rw [e1, e2, Option.bind_some, Option.bind_some]
      exact fills_l0 l h0 [] (Nat.zero_le _) 1 0 k 0 rfl (by omega)
theorem fills_f (l : List S35) (args : List ByteArray) (null : List Bool) : ∃ k, pontoonlaw05_NormFills.f k l args null = some true := by
  refine ⟨40000, ?_⟩
  unfold pontoonlaw05_NormFills.f
  obtain ⟨b, hb, hl⟩ := light_f l 40000 (by omega)
  rw [hb, Option.bind_some]
  cases b with
  | false => rw [if_neg (by decide)]; exact fills_j l args null true (fun h => by cases h) _ (by omega)
  | true =>
    rw [if_pos rfl]
    by_cases h1 : (args.length : Int) > 60
    · rw [if_pos h1]
      exact fills_j l args null true (fun h => by cases h) _ (by omega)
    · rw [if_neg h1]
      by_cases h2 : (null.length : Int) > 60
      · rw [decide_eq_true h2]
        exact fills_j l args null true (fun h => by cases h) _ (by omega)
      · rw [decide_eq_false h2]
        exact fills_j l args null false (fun _ => ⟨hl rfl, by omega, by omega⟩) _ (by omega)
theorem fills_walk {w : World} {m0 m1 m2 base : Nat} {v0 v1 v2 : Value} (hv0 : Value.okWide Try.prog w .any base 22 v0) (hd0 : Rd Try.prog w m0 22 v0.cells.toList) (hv1 : Value.okWide Try.prog w .any base 30 v1) (hd1 : Rd Try.prog w m1 30 v1.cells.toList) (hv2 : Value.okWide Try.prog w .any base 31 v2) (hd2 : Rd Try.prog w m2 31 v2.cells.toList) : Calls Try.prog 4 #[v0, v1, v2] w fun e w' => e = .returned (.bool true) ∧ Below w.heap.size w w' := by
  obtain ⟨A0, c0, l0, rfl, a1, a2⟩ := toks_arg hv0 hd0
  obtain ⟨A1, c1, l1, rfl, b1, b2, _⟩ := strs_arg hv1 hd1
  obtain ⟨A2, c2, l2, rfl, d1, d2⟩ := bools_arg hv2 hd2
  obtain ⟨k, hk⟩ := fills_f l0 l1 l2
  exact pontoonlaw05_NormFills.calls k A0 c0 l0 A1 c1 l1 A2 c2 l2 true rfl w a1 a2 b1 b2 d1 d2 hk
end Go.Proofs.Ytgfppniifjabdaa
