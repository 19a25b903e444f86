/- class: the laws' arguments as rows. -/
import Derived.Test.YthfchnoebncpfaaKdR
import Derived.Test.YthfchnoebncpfaaClP6
namespace Go.Proofs.Ythfchnoebncpfaa
open Go Go.RowKit Go.Maps Go.Proofs.Ythfchnoebncpfaa.Pu Go.Proofs.YthfchnoebncpfaaW.PrintWords Go.Proofs.YthfchnoebncpfaaW.PrintLast

theorem toks_arg {w : World} {m base : Nat} {v : Value} (hv : Value.okWide Try.prog w .any base 22 v) (h : Rd Try.prog w m 22 v.cells.toList) : ∃ A cp l, v = .slice A l.length cp ∧ Kd.C k33 w A l.length l ∧ l.length ≤ cp := by
  obtain ⟨A0, n0, cp0, rfl⟩ := Go.WideShapes.okWide_slice Try.underlying22 hv
  obtain ⟨A, cp, l, e, h1, h2, _⟩ := C_of_rd k33 (t := 22) (e := 33) Try.underlying22 (by kernel_rfl) (by decide) (fun m cs h => by
    obtain ⟨hl, m', hf⟩ := Rd.struct Try.underlying33 h
    have hl3 : cs.length = 3 := by rw [hl]; kernel_rfl
    obtain ⟨a, b, c, rfl⟩ : ∃ a b c, cs = [a, b, c] := by
      match cs, hl3 with
      | [a, b, c], _ => exact ⟨a, b, c, rfl⟩
    have cI : (Try.prog.cellsOf 3) = 1 := by kernel_rfl
    have cS : (Try.prog.cellsOf 9) = 1 := by kernel_rfl
    have f0 : Rd _ _ _ 3 [a] := Rd.field hf 0 rfl cI
    have f1 : Rd _ _ _ 9 [b] := Rd.field hf 1 rfl cS
    have f2 : Rd _ _ _ 3 [c] := Rd.field hf 2 rfl cI
    obtain ⟨x, hx, _⟩ := f0.int Try.underlying3
    obtain ⟨y, hy, _⟩ := f1.str Try.underlying9
    obtain ⟨z, hz, _⟩ := f2.int Try.underlying3
    cases hx; cases hy; cases hz
    exact ⟨(⟨x, y, z⟩ : S33), [.int .i64 x], [.string y, .int .i64 z], rfl, rfl, [.string y], [.int .i64 z], rfl, rfl, rfl⟩) h
  simp [Value.cells] at e
  obtain ⟨rfl, rfl, rfl⟩ := e
  exact ⟨_, _, l, rfl, h1, h2⟩
theorem strs_arg {w : World} {m base : Nat} {v : Value} (hv : Value.okWide Try.prog w .any base 28 v) (h : Rd Try.prog w m 28 v.cells.toList) : ∃ A cp l, v = .slice A l.length cp ∧ Kd.C Kd.string w A l.length l ∧ l.length ≤ cp := by
  obtain ⟨A0, n0, cp0, rfl⟩ := Go.WideShapes.okWide_slice Try.underlying28 hv
  obtain ⟨A, cp, l, e, h1, h2, _⟩ := C_of_rd Kd.string (t := 28) (e := 9) Try.underlying28 (by kernel_rfl) (by decide) (fun m cs h => by
    obtain ⟨y, hy, _⟩ := h.str Try.underlying9
    exact ⟨y, hy⟩) h
  simp [Value.cells] at e
  obtain ⟨rfl, rfl, rfl⟩ := e
  exact ⟨_, _, l, rfl, h1, h2⟩
end Go.Proofs.Ythfchnoebncpfaa
