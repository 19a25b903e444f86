/- class: ClassParts answers true. -/
import Derived.Test.YthfchnoebncpfaaClR
import Derived.Test.YthfchnoebncpfaaPuP
namespace Go.Proofs.Ythfchnoebncpfaa
open Go Go.RowKit Go.Maps Go.Proofs.Ythfchnoebncpfaa.Pu Go.Proofs.YthfchnoebncpfaaW.PrintWords Go.Proofs.YthfchnoebncpfaaW.PrintLast
set_option linter.unusedSimpArgs false

theorem name_f (n : Int) : ∃ r, class_Name.f n = some r ∧ pontoonref06_Name.f n = some r := by
  have e : class_Name.f n = pontoonref06_Name.f n := rfl
  rw [e]
  unfold pontoonref06_Name.f
  rw [Option.bind_some]
  split
  · exact ⟨_, rfl, rfl⟩
  · split
    · exact ⟨_, rfl, rfl⟩
    · rw [if_pos (by omega), if_pos (by omega)]
      exact ⟨_, rfl, rfl⟩
theorem parts_f (l : List S33) (ws : List ByteArray) (n : Int) : pontoonlaw06_ClassParts.f 16001 l ws n = some true := by
  unfold pontoonlaw06_ClassParts.f
  obtain ⟨b, eb, pb⟩ := light_s l 16001 (by omega)
  rw [eb, Option.bind_some]
  have hT : pontoonlaw06_ClassParts.j0 16001 l ws n true = some true := by
    rw [pontoonlaw06_ClassParts.j0, if_pos rfl]
    rfl
  cases b
  · exact hT
  rw [if_pos rfl]
  by_cases hs : (ws.length : Int) > 20
  · rw [decide_eq_true hs]
    exact hT
  rw [decide_eq_false hs, pontoonlaw06_ClassParts.j0, if_neg (by decide)]
  have h1 := (pb rfl).1
  obtain ⟨r, e1, e2⟩ := name_f n
  rw [has_f l ws 16000 (by omega) (by omega) (by omega), rhas_f l ws 16000 (by omega) (by omega) (by omega), Option.bind_some, Option.bind_some, if_pos (beq_self_eq_true _), rcalls_f l ws 16000 (by omega) (by omega) (by omega)]
  unfold class_Calls.f
  rw [if_pos ⟨by omega, by omega⟩, Option.bind_some, Option.bind_some, show callsF (fun s => inF s ws) (l.map tokOf) = rcF (fun s => inF s ws) l from rfl, if_pos (beq_self_eq_true _), locks_f l 16000 (by omega) (by omega), rlocks_f l 16000 (by omega) (by omega), Option.bind_some, Option.bind_some, if_pos (beq_self_eq_true _), e1, e2, Option.bind_some, Option.bind_some, if_pos rfl]
  rfl
theorem parts_walk {w : World} {m m2 base base2 : Nat} {v v2 : Value} (hv : Value.okWide Try.prog w .any base 22 v) (h : Rd Try.prog w m 22 v.cells.toList) (hv' : Value.okWide Try.prog w .any base2 28 v2) (h' : Rd Try.prog w m2 28 v2.cells.toList) (n : Int) : Calls Try.prog 4 #[v, v2, .int .i64 n] w fun e w' => e = .returned (.bool true) ∧ Below w.heap.size w w' := by
  obtain ⟨A, cp, l, rfl, h1, h2⟩ := toks_arg hv h
  obtain ⟨A2, cp2, l2, rfl, h3, h4⟩ := strs_arg hv' h'
  exact pontoonlaw06_ClassParts.calls 16001 A cp l A2 cp2 l2 n true w h1 h2 h3 h4 (parts_f l l2 n)
end Go.Proofs.Ythfchnoebncpfaa
