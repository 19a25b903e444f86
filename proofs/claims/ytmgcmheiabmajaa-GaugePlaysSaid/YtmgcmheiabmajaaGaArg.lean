/- gauge: rows of numbers read out of the arguments. -/
import Derived.Test.YtmgcmheiabmajaaKdG
namespace Go.Proofs.Ytmgcmheiabmajaa
open Go Go.RowKit Go.Proofs.YtmgcmheiabmajaaW.PrintWords

theorem ints_arg {w : World} {m base : Nat} {v : Value} (hv : Value.okWide Try.prog w .any base 22 v) (h : Rd Try.prog w m 22 v.cells.toList) : ∃ A cp l, v = .slice A l.length cp ∧ Kd.C (Kd.int .i64) w A l.length l ∧ l.length ≤ cp ∧ ∀ x ∈ l, (Lit.int .i64 x).wf = true := by
  obtain ⟨A0, n0, cp0, rfl⟩ := Go.WideShapes.okWide_slice Try.underlying22 hv
  obtain ⟨A, cp, l, e, h1, h2, h3⟩ := C_of_rdG (Kd.int .i64) (fun x => (Lit.int .i64 x).wf = true) (t := 22) (e := 3) Try.underlying22 (by kernel_rfl) (by decide) (fun m cs h => by
    obtain ⟨y, hy, hw⟩ := h.int Try.underlying3
    exact ⟨y, hy, hw⟩) h
  simp [Value.cells] at e
  obtain ⟨rfl, rfl, rfl⟩ := e
  exact ⟨_, _, l, rfl, h1, h2, h3⟩
theorem i64_of {x : Int} (h : (Lit.int .i64 x).wf = true) : -9223372036854775808 ≤ x ∧ x ≤ 9223372036854775807 := by
  simp [Lit.wf, IntKind.min, IntKind.max, IntKind.bits, IntKind.signed] at h
  omega
theorem u16_of {x : Int} (h : (Lit.int .u16 x).wf = true) : 0 ≤ x ∧ x ≤ 65535 := by
  simp [Lit.wf, IntKind.min, IntKind.max, IntKind.bits, IntKind.signed] at h
  omega
end Go.Proofs.Ytmgcmheiabmajaa
