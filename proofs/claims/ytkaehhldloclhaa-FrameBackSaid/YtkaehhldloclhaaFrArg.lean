/- frame: messages out of arguments. -/
import Derived.Test.YtkaehhldloclhaaFrR
import Derived.WideShapes
namespace Go.Proofs.Ytkaehhldloclhaa
open Go Go.RowKit Go.WideShapes

theorem u8_of {x : Int} (h : (Lit.int .u8 x).wf = true) : ∃ c : UInt8, x = c.toNat := by
  have h2 : 0 ≤ x ∧ x ≤ 255 := by simpa [Lit.wf, IntKind.min, IntKind.max, IntKind.bits, IntKind.signed] using h
  refine ⟨UInt8.ofNat x.toNat, ?_⟩
  simp
  omega
def GoodM (m : Msg) : Prop := TextSz m.body
theorem msg_of_rd {w : World} {m : Nat} {cs : List Value} (h : Rd Try.prog w m 23 cs) : ∃ x : Msg, cs = mC x ∧ GoodM x := by
  obtain ⟨hl, m, hf⟩ := h.struct Try.underlying23
  have hl2 : cs.length = 2 := hl.trans (by kernel_rfl)
  have cI : Try.prog.cellsOf 5 = 1 := by kernel_rfl
  have cT : Try.prog.cellsOf 9 = 1 := by kernel_rfl
  match cs, hl2 with
  | [v0, v1], _ =>
    have f0 : Rd _ _ _ 5 [v0] := Rd.field hf 0 rfl cI
    have f1 : Rd _ _ _ 9 [v1] := Rd.field hf 1 rfl cT
    obtain ⟨x0, e0, w0⟩ := f0.int Try.underlying5
    obtain ⟨x1, e1, w1⟩ := f1.str Try.underlying9
    simp only [List.cons.injEq, and_true] at e0 e1
    obtain ⟨c, rfl⟩ := u8_of w0
    subst e0 e1
    exact ⟨⟨c, x1⟩, rfl, w1⟩
theorem msg_of_arg {w : World} {m base : Nat} {v : Value} (hv : Value.okWide Try.prog w .any base 23 v) (h : Rd Try.prog w m 23 v.cells.toList) : ∃ x : Msg, v = msgV x ∧ GoodM x := by
  obtain ⟨x, he, hx⟩ := msg_of_rd h
  refine ⟨x, ?_, hx⟩
  unfold Value.okWide at hv
  rw [Try.underlying23] at hv
  obtain ⟨cs, rfl, hsz, _⟩ := hv
  simp only [Value.cells] at he
  exact congrArg Value.agg (Array.toList_inj.1 he)
theorem msgs_of_arg {w : World} {m base : Nat} {v : Value} (hv : Value.okWide Try.prog w .any base 30 v) (h : Rd Try.prog w m 30 v.cells.toList) :
    ∃ A n cp l, v = .slice A n cp ∧ RowG mC 2 w A n l ∧ (∀ o ∈ l, GoodM o) ∧ n ≤ cp ∧ cp ≤ maxLen := by
  obtain ⟨A, n, cp, rfl⟩ := okWide_slice Try.underlying30 hv
  obtain ⟨A', n', cp', l, he, h1, h2, h3, h4, _⟩ := RowG.of_rd (enc := mC) (k := 2) (G := GoodM) Try.underlying30 (by kernel_rfl) (by decide) (fun m cs' h => msg_of_rd h) h
  simp [Value.cells] at he
  obtain ⟨rfl, rfl, rfl⟩ := he
  exact ⟨A, n, cp, l, rfl, h1, h2, h3, h4⟩
end Go.Proofs.Ytkaehhldloclhaa
