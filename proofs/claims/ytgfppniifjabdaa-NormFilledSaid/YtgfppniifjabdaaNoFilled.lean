/- norm: NormFilled answers true. -/
import Derived.Test.YtgfppniifjabdaaNoQ4
import Derived.Test.YtgfppniifjabdaaNoP2
import Derived.Test.YtgfppniifjabdaaPbF
import Derived.Test.YtgfppniifjabdaaNoArg
namespace Go.Proofs.Ytgfppniifjabdaa
open Go Go.RowKit Go.Proofs.Ytgfppniifjabdaa.Pb Go.Proofs.YtgfppniifjabdaaW.PrintWords Go.Proofs.YtgfppniifjabdaaW.PrintLast
set_option linter.unusedSimpArgs false

theorem toks_ok2 (s : ByteArray) (_hs : s.size ≤ 2000) (l : List Tk) (h : scan (tl s) = .ok l) : (l.map tkS).length ≤ s.size ∧ ∀ x ∈ l.map tkS, x.f1.size ≤ s.size := by
  obtain ⟨v1, v2, v3, v4⟩ := scL_valid _ _ _ _ h
  have vt := scL_text _ _ _ _ h
  rw [tl_len] at v4
  refine ⟨by rw [List.length_map]; exact v4, fun x hx => ?_⟩
  obtain ⟨t, ht, rfl⟩ := List.mem_map.1 hx
  have a1 := vt t ht
  rw [tl_len] at a1
  show (ofL t.text).size ≤ _
  rw [ofL_size]
  exact a1
/-! NormFilled -/
theorem put_size (args : List ByteArray) (null : List Bool) (h : ∀ a ∈ args, a.size ≤ 140737488351232) (n : Int) (x : S35) : (putS args null n x).f1.size ≤ 140737488351232 := by
  unfold putS
  split
  · show (4 : Nat) ≤ _
    decide
  · show (rdOf ByteArray.empty args (n - 1)).size ≤ _
    unfold rdOf
    rw [List.getD_eq_getElem?_getD]
    cases hg : args[(n - 1).toNat]? with
    | none => exact Nat.zero_le _
    | some a => exact h a (List.mem_of_getElem? hg)
theorem filled_j (s : ByteArray) (args : List ByteArray) (ha : ∀ a ∈ args, a.size ≤ 140737488351232) (b : Bool) (h : b = false → s.size ≤ 800 ∧ args.length ≤ 20) (k : Nat) (hk : 6000001 ≤ k) : pontoonlaw05_NormFilled.j0 k s args b = some true := by
  obtain ⟨k, rfl⟩ : ∃ j, k = j + 1 := ⟨k - 1, by omega⟩
  have hkn := known_up k (by omega)
  rw [pontoonlaw05_NormFilled.j0]
  cases b with
  | true =>
    rw [if_pos rfl, hkn]
    rfl
  | false =>
    obtain ⟨h1, h2⟩ := h rfl
    obtain ⟨L, e, a, hL, hl1, hl2⟩ : ∃ L e a, scanF s = (L, e, a) ∧ L.length ≤ 800 ∧ ∀ x ∈ L, x.f1.size ≤ 800 := by
      cases hr : scan (tl s) with
      | ok l =>
        obtain ⟨a, b⟩ := toks_ok2 s (by omega) l hr
        exact ⟨_, _, _, scanF_ok s (by omega) l hr, by omega, fun x hx => Nat.le_trans (b x hx) h1⟩
      | err e a => exact ⟨_, _, _, scanF_err s (by omega) e a hr, Nat.zero_le _, fun x hx => by cases hx⟩
    have hx : ∀ x ∈ L, x.f1.size ≤ 140737488351232 := fun x hx => Nat.le_trans (hl2 x hx) (by decide)
    rw [if_neg (by decide), rscan_up s k (by omega), hL, Option.bind_some, if_pos (by omega), if_pos (by omega), Int.toNat_natCast]
    show ((norm_Fill.f k L args (List.replicate args.length false)).bind _) = _
    rw [fill_f args (List.replicate args.length false) (by rw [List.length_replicate]) (by omega) L (by omega) hx k (by omega), Option.bind_some]
    cases hf : fillS args (List.replicate args.length false) L with
    | none =>
      show (if (8 : Int) = 0 then _ else (if ((([] : List S35).length : Nat) : Int) = 0 then _ else _)) = _
      rw [if_neg (by decide), if_pos (by rfl), hkn]
      rfl
    | some m =>
      obtain ⟨p1, p2, p3, p4, p5⟩ := filled args _ L m hf
      have hm : ∀ y ∈ m, y.f1.size ≤ 140737488351232 := fun y hy => by
        rcases p5 y hy with h | ⟨n, x, rfl⟩
        · exact hx y h
        · exact put_size args _ ha n x
      have hb0 : bindsS m 0 = 0 := by
        have a1 := binds_le m 0 0 (Int.le_refl 0) (fun y hy => by rw [p2 y hy]; exact Int.le_refl 0)
        have a2 := (binds_ge m 0).1
        omega
      have hbl := binds_le L 0 args.length (by omega) p3
      show (if (0 : Int) = 0 then (if ((([] ++ m).length : Nat) : Int) = (L.length : Int) then ((norm_Binds.f k ([] ++ m)).bind _) else _) else _) = _
      rw [List.nil_append, if_pos rfl, if_pos (by omega), binds_f m (by omega) hm k (by omega), hb0, Option.bind_some, if_pos rfl, binds_f L (by omega) hx k (by omega), Option.bind_some, if_pos hbl, Option.bind_some]
      by_cases hz : bindsS L 0 > 0
      · rw [if_pos hz, hkn]
        rfl
      · have hml : m = L := p4 (fun x hx => by have := (binds_ge L 0).2 x hx; omega)
        rw [if_neg hz]
        show ((pontoonref04_Same.f k L ([] ++ m) true).bind _) = _
        rw [List.nil_append, hml, same_self L true k (by omega) (by omega), Option.bind_some, if_pos rfl, hkn]
        rfl
theorem filled_f (s : ByteArray) (args : List ByteArray) (ha : ∀ a ∈ args, a.size ≤ 140737488351232) : ∃ k, pontoonlaw05_NormFilled.f k s args = some true := by
  obtain ⟨K, hK⟩ : ∃ K : Nat, K = 6000001 := ⟨_, rfl⟩
  refine ⟨K, ?_⟩
  unfold pontoonlaw05_NormFilled.f
  by_cases h1 : (s.size : Int) > 800
  · rw [if_pos h1]
    exact filled_j s args ha true (fun h => by cases h) K (by omega)
  · rw [if_neg h1]
    by_cases h2 : (args.length : Int) > 20
    · rw [decide_eq_true h2]
      exact filled_j s args ha true (fun h => by cases h) K (by omega)
    · rw [decide_eq_false h2]
      exact filled_j s args ha false (fun _ => ⟨by omega, by omega⟩) K (by omega)
theorem filled_walk (s : ByteArray) {w : World} {m base : Nat} {v : Value} (hv : Value.okWide Try.prog w .any base 30 v) (h : Rd Try.prog w m 30 v.cells.toList) : Calls Try.prog 6 #[.string s, v] w fun e w' => e = .returned (.bool true) ∧ Below w.heap.size w w' := by
  obtain ⟨A, cp, l, rfl, h1, h2, h3⟩ := strs_arg hv h
  obtain ⟨k, hk⟩ := filled_f s l h3
  exact pontoonlaw05_NormFilled.calls k s A cp l true rfl w h1 h2 hk
end Go.Proofs.Ytgfppniifjabdaa
