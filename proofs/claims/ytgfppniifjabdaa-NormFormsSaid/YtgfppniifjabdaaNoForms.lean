/- norm: NormForms answers true. -/
import Derived.Test.YtgfppniifjabdaaNoQ4
import Derived.Test.YtgfppniifjabdaaNoP1
import Derived.Test.YtgfppniifjabdaaNoK
import Derived.Test.YtgfppniifjabdaaNoP1r
import Derived.Test.YtgfppniifjabdaaNoArg
namespace Go.Proofs.Ytgfppniifjabdaa
open Go Go.RowKit Go.Proofs.Ytgfppniifjabdaa.Pb Go.Proofs.YtgfppniifjabdaaW.PrintWords Go.Proofs.YtgfppniifjabdaaW.PrintLast
set_option linter.unusedSimpArgs false

theorem rform_f (s : ByteArray) (k : Nat) (hk : 6000000 ≤ k) : pontoonref05_Form.f k s = some (formF s) := by
  unfold pontoonref05_Form.f formF
  rw [rscan_up s k hk, Option.bind_some]
  by_cases h2 : s.size > 2000
  · rw [scanF_big s h2, if_pos h2]
    exact if_neg (by decide)
  · rw [if_neg h2]
    cases hr : scan (tl s) with
    | ok l =>
      obtain ⟨a, b⟩ := toks_ok s (by omega) l hr
      rw [scanF_ok s (by omega) l hr]
      show (if (0 : Int) = 0 then ((pontoonref05_Tokens.f k (l.map tkS)).bind fun t154 => some (t154, (0 : Int))) else _) = _
      rw [if_pos rfl, rtokens_f 2000 (by omega) _ k (by omega) (fun x hx => Nat.le_trans (b x hx) (by omega)) (by omega), normS_tk, showS_tk]
      rfl
    | err e a =>
      have h0 := scL_err _ _ _ _ _ (Nat.lt_succ_self _) hr
      rw [scanF_err s (by omega) e a hr]
      show (if e = 0 then _ else _) = _
      rw [if_neg (by omega)]
/-! NormForms -/
theorem forms_j (s : ByteArray) (l : List S35) (b : Bool) (h : b = false → s.size ≤ 2100 ∧ Lite l) (k : Nat) (hk : 6000001 ≤ k) : pontoonlaw05_NormForms.j0 k s l b = some true := by
  obtain ⟨k, rfl⟩ : ∃ j, k = j + 1 := ⟨k - 1, by omega⟩
  rw [pontoonlaw05_NormForms.j0]
  cases b with
  | true =>
    rw [if_pos rfl, known_up k (by omega)]
    rfl
  | false =>
    obtain ⟨h1, h2, h3⟩ := h rfl
    rw [if_neg (by decide), form_f s (by omega) k (by omega), rform_f s k (by omega), Option.bind_some, Option.bind_some, if_pos rfl, if_pos rfl, tokens_f 200 (by omega) l k (by omega) h3 (by omega), rtokens_f 200 (by omega) l k (by omega) h3 (by omega), Option.bind_some, Option.bind_some, if_pos rfl, known_up k (by omega)]
    rfl
theorem forms_f (s : ByteArray) (l : List S35) : ∃ k, pontoonlaw05_NormForms.f k s l = some true := by
  obtain ⟨K, hK⟩ : ∃ K : Nat, K = 6000001 := ⟨_, rfl⟩
  refine ⟨K, ?_⟩
  unfold pontoonlaw05_NormForms.f
  by_cases hz : (s.size : Int) > 2100
  · rw [if_pos hz]
    exact forms_j s l true (fun h => by cases h) K (by omega)
  · obtain ⟨b, hb, hl⟩ := light_f l K (by omega)
    rw [if_neg hz, hb, Option.bind_some]
    refine forms_j s l (!b) (fun h => ⟨by omega, hl ?_⟩) K (by omega)
    cases b with
    | true => rfl
    | false => cases h
theorem forms_walk (s : ByteArray) {w : World} {m base : Nat} {v : Value} (hv : Value.okWide Try.prog w .any base 22 v) (h : Rd Try.prog w m 22 v.cells.toList) : Calls Try.prog 3 #[.string s, v] w fun e w' => e = .returned (.bool true) ∧ Below w.heap.size w w' := by
  obtain ⟨A, cp, l, rfl, h1, h2⟩ := toks_arg hv h
  obtain ⟨k, hk⟩ := forms_f s l
  exact pontoonlaw05_NormForms.calls k s A cp l true rfl w h1 h2 hk
end Go.Proofs.Ytgfppniifjabdaa
