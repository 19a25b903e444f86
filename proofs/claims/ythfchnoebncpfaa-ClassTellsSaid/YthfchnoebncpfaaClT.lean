/- class: ClassTells answers true. -/
import Derived.Test.YthfchnoebncpfaaClR
import Derived.Test.YthfchnoebncpfaaClP4
import Derived.Test.YthfchnoebncpfaaPuT
namespace Go.Proofs.Ythfchnoebncpfaa
open Go Go.RowKit Go.Maps Go.Proofs.Ythfchnoebncpfaa.Pu Go.Proofs.YthfchnoebncpfaaW.PrintWords Go.Proofs.YthfchnoebncpfaaW.PrintLast
set_option linter.unusedSimpArgs false

theorem tells_f (l : List S33) (s : ByteArray) : pontoonlaw06_ClassTells.f 16001 l s = some true := by
  unfold pontoonlaw06_ClassTells.f
  obtain ⟨b, eb, pb⟩ := light_s l 16001 (by omega)
  rw [eb, Option.bind_some]
  have hT : pontoonlaw06_ClassTells.j0 16001 l s true = some true := by
    rw [pontoonlaw06_ClassTells.j0, if_pos rfl]
    rfl
  cases b
  · exact hT
  rw [if_pos rfl]
  by_cases hs : (s.size : Int) > 2000
  · rw [decide_eq_true hs]
    exact hT
  rw [decide_eq_false hs, pontoonlaw06_ClassTells.j0, if_neg (by decide)]
  have hL := pb rfl
  have h1 := hL.1
  rw [of_f l 16000 (by omega) (by omega) hL.ok, rof_f l 16000 (by omega) (by omega), Option.bind_some, Option.bind_some, if_pos rfl]
  obtain ⟨L, eL, nL, oL⟩ := tokens_s s (by omega)
  rw [eL, Option.bind_some, of_f L 16000 (by omega) (by omega) (fun x hx => wd_ok (oL x hx)), Option.bind_some, Option.bind_some, rof_f L 16000 (by omega) (by omega), Option.bind_some, if_pos rfl]
  rfl
theorem tells_walk {w : World} {m base : Nat} {v : Value} (hv : Value.okWide Try.prog w .any base 22 v) (h : Rd Try.prog w m 22 v.cells.toList) (s : ByteArray) : Calls Try.prog 3 #[v, .string s] w fun e w' => e = .returned (.bool true) ∧ Below w.heap.size w w' := by
  obtain ⟨A, cp, l, rfl, h1, h2⟩ := toks_arg hv h
  exact pontoonlaw06_ClassTells.calls 16001 A cp l s true w h1 h2 (tells_f l s)
end Go.Proofs.Ythfchnoebncpfaa
