/- class: ClassFirst answers true. -/
import Derived.Test.YthfchnoebncpfaaClR
import Derived.Test.YthfchnoebncpfaaPuF
namespace Go.Proofs.Ythfchnoebncpfaa
open Go Go.RowKit Go.Maps Go.Proofs.Ythfchnoebncpfaa.Pu Go.Proofs.YthfchnoebncpfaaW.PrintWords Go.Proofs.YthfchnoebncpfaaW.PrintLast
set_option linter.unusedSimpArgs false

/-! first words -/
theorem first_of (w : ByteArray) (v : Int) (l : List S33) (hw : w.size ≤ 100) (hv : ∀ q tr tt, ofB w.toList q tr tt = v) (hL : Light l) : class_Of.f 16000 ([⟨1, w, 0⟩] ++ l) = some v := by
  have h1 := hL.1
  rw [of_f _ 16000 (by rw [List.length_append]; show 2 * (1 + l.length) + 40 < 16000; omega) (by rw [List.length_append]; show 1 + l.length ≤ _; omega) (fun x hx => by
    rcases List.mem_append.1 hx with hx | hx
    · rw [List.mem_singleton] at hx
      subst hx
      exact wd_ok fun _ => by show w.size ≤ 2000; omega
    · exact hL.ok x hx)]
  show some (ofB w.toList _ _ _) = _
  rw [hv]
theorem first_f (l : List S33) (n : Int) (h0 : 0 ≤ n) (h1 : n ≤ 255) : pontoonlaw06_ClassFirst.f 16000 l n = some true := by
  unfold pontoonlaw06_ClassFirst.f
  obtain ⟨b, eb, pb⟩ := light_s l 16000 (by omega)
  rw [eb, Option.bind_some]
  cases b
  · rfl
  have hL := pb rfl
  have h100 := hL.1
  have hm : Int.tmod n 5 = n % 5 := Int.tmod_eq_emod_of_nonneg h0
  rw [if_pos rfl, wrap_in (by omega) (by omega), hm]
  have hb : 0 ≤ n % 5 ∧ n % 5 < 5 := by omega
  generalize n % 5 = j at hb
  obtain ⟨hb0, hb5⟩ := hb
  have hc : j = 0 ∨ j = 1 ∨ j = 2 ∨ j = 3 ∨ j = 4 := by omega
  have st : ∀ (w u : ByteArray), w.size ≤ 100 → u.size ≤ 100 → (∀ q tr tt, ofB w.toList q tr tt = 2) → (∀ q tr tt, ofB u.toList q tr tt = 6) →
      ((some ([(⟨1, w, 0⟩ : S33)] : List S33)).bind fun y354 => (if y354.length + l.length < 4398046511104 then ((some ([(⟨1, u, 0⟩ : S33)] : List S33)).bind fun y360 => (if y360.length + l.length < 4398046511104 then ((class_Of.f 16000 (y354 ++ l)).bind fun t366 => (if t366 = 2 then ((class_Of.f 16000 (y360 ++ l)).bind fun t367 => (if t367 = 6 then ((pontoonlaw06_known.f).bind fun t368 => (some t368)) else (some false))) else (some false))) else none)) else none)) = some true := by
    intro w u hw hu v1 v2
    rw [Option.bind_some, if_pos (by show 1 + l.length < _; omega), Option.bind_some, if_pos (by show 1 + l.length < _; omega), first_of w 2 l hw v1 hL, first_of u 6 l hu v2 hL, Option.bind_some, Option.bind_some, if_pos rfl, if_pos rfl]
    rfl
  rw [Option.bind_some, if_pos hb0]
  refine (if_pos hb5).trans ?_
  rw [Option.bind_some]
  refine (if_pos hb5).trans ?_
  rcases hc with rfl | rfl | rfl | rfl | rfl
  · exact st ⟨#[105, 110, 115, 101, 114, 116]⟩ ⟨#[115, 101, 116]⟩ (by decide) (by decide) (fun q tr tt => by kernel_rfl) (fun q tr tt => by kernel_rfl)
  · exact st ⟨#[117, 112, 100, 97, 116, 101]⟩ ⟨#[114, 101, 115, 101, 116]⟩ (by decide) (by decide) (fun q tr tt => by kernel_rfl) (fun q tr tt => by kernel_rfl)
  · exact st ⟨#[100, 101, 108, 101, 116, 101]⟩ ⟨#[100, 105, 115, 99, 97, 114, 100]⟩ (by decide) (by decide) (fun q tr tt => by kernel_rfl) (fun q tr tt => by kernel_rfl)
  · exact st ⟨#[116, 114, 117, 110, 99, 97, 116, 101]⟩ ⟨#[108, 105, 115, 116, 101, 110]⟩ (by decide) (by decide) (fun q tr tt => by kernel_rfl) (fun q tr tt => by kernel_rfl)
  · exact st ⟨#[109, 101, 114, 103, 101]⟩ ⟨#[100, 101, 97, 108, 108, 111, 99, 97, 116, 101]⟩ (by decide) (by decide) (fun q tr tt => by kernel_rfl) (fun q tr tt => by kernel_rfl)
theorem first_walk {w : World} {m base : Nat} {v : Value} (hv : Value.okWide Try.prog w .any base 22 v) (h : Rd Try.prog w m 22 v.cells.toList) (n : Int) (hn : (Lit.int .u8 n).wf = true) : Calls Try.prog 7 #[v, .int .u8 n] w fun e w' => e = .returned (.bool true) ∧ Below w.heap.size w w' := by
  obtain ⟨A, cp, l, rfl, h1, h2⟩ := toks_arg hv h
  have hb : 0 ≤ n ∧ n ≤ 255 := by
    have e1 : IntKind.u8.min = 0 := by decide
    have e2 : IntKind.u8.max = 255 := by decide
    unfold Lit.wf at hn
    simp [e1, e2] at hn
    omega
  exact pontoonlaw06_ClassFirst.calls 16000 A cp l n true w h1 h2 (first_f l n hb.1 hb.2)
end Go.Proofs.Ythfchnoebncpfaa
