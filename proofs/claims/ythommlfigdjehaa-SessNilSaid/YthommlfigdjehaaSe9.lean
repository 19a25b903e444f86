/- The law's arguments: what is asked, and rows of what happens. -/
import Derived.Test.YthommlfigdjehaaSe8
namespace Go.Proofs.Ythommlfigdjehaa
open Go Go.RowKit Go.Maps Go.WideShapes

theorem slice_form {w : World} {m : Nat} {t e : TypeId} {cs : List Value} (hu : Try.prog.underlying t = some (.slice e)) (h : Rd Try.prog w m t cs) : ∃ A n c, cs = [.slice A n c] := by
  rcases h.slice hu with h0 | ⟨a, len, cap, m', h0, _⟩
  · exact ⟨none, 0, 0, h0⟩
  · exact ⟨some a, len, cap, h0⟩
theorem byte_wf {x : Int} (h : (Lit.int .u8 x).wf = true) : 0 ≤ x ∧ x ≤ 255 := by
  simp [Lit.wf, IntKind.min, IntKind.max, IntKind.bits, IntKind.signed] at h
  omega
theorem ask_of_rd {w : World} {m : Nat} {cs : List Value} (h : Rd Try.prog w m 30 cs) : ∃ a : AskT, cs = [.int .u8 a.kind, .string a.name, .string a.portal, .string a.sql, .slice a.kA a.kn a.kc, .slice a.vA a.vn a.vc, .slice a.aA a.an a.ac, .slice a.nA a.nn a.nc, .slice a.fA a.fn a.fc, .int .i64 a.most, .int .u8 a.what, .bool a.cancel, .int .i64 a.pid, .int .i64 a.secret] ∧ GoodA w a := by
  obtain ⟨hl, m, hf⟩ := h.struct Try.underlying30
  have hl3 : cs.length = 14 := hl.trans (by kernel_rfl)
  have cI : Try.prog.cellsOf 3 = 1 := by kernel_rfl
  have cU : Try.prog.cellsOf 5 = 1 := by kernel_rfl
  have cB : Try.prog.cellsOf 4 = 1 := by kernel_rfl
  have cT : Try.prog.cellsOf 9 = 1 := by kernel_rfl
  have cS : Try.prog.cellsOf 26 = 1 := by kernel_rfl
  have cN : Try.prog.cellsOf 27 = 1 := by kernel_rfl
  have cF : Try.prog.cellsOf 28 = 1 := by kernel_rfl
  match cs, hl3 with
  | [v0, v1, v2, v3, v4, v5, v6, v7, v8, v9, v10, v11, v12, v13], _ =>
    have f0 : Rd _ _ _ 5 [v0] := Rd.field hf 0 rfl cU
    have f1 : Rd _ _ _ 9 [v1] := Rd.field hf 1 rfl cT
    have f2 : Rd _ _ _ 9 [v2] := Rd.field hf 2 rfl cT
    have f3 : Rd _ _ _ 9 [v3] := Rd.field hf 3 rfl cT
    have f4 : Rd _ _ _ 26 [v4] := Rd.field hf 4 rfl cS
    have f5 : Rd _ _ _ 26 [v5] := Rd.field hf 5 rfl cS
    have f6 : Rd _ _ _ 26 [v6] := Rd.field hf 6 rfl cS
    have f7 : Rd _ _ _ 27 [v7] := Rd.field hf 7 rfl cN
    have f8 : Rd _ _ _ 28 [v8] := Rd.field hf 8 rfl cF
    have f9 : Rd _ _ _ 3 [v9] := Rd.field hf 9 rfl cI
    have f10 : Rd _ _ _ 5 [v10] := Rd.field hf 10 rfl cU
    have f11 : Rd _ _ _ 4 [v11] := Rd.field hf 11 rfl cB
    have f12 : Rd _ _ _ 3 [v12] := Rd.field hf 12 rfl cI
    have f13 : Rd _ _ _ 3 [v13] := Rd.field hf 13 rfl cI
    obtain ⟨x0, e0, w0⟩ := f0.int Try.underlying5
    obtain ⟨x1, e1, _⟩ := f1.str Try.underlying9
    obtain ⟨x2, e2, _⟩ := f2.str Try.underlying9
    obtain ⟨x3, e3, _⟩ := f3.str Try.underlying9
    obtain ⟨kA, kn, kc, keys, e4, rk, _, k1, k2, _⟩ := strs_of_rd f4
    obtain ⟨vA, vn, vc, vals, e5, rv, _, q1, q2, _⟩ := strs_of_rd f5
    obtain ⟨aA, an, ac, e6⟩ := slice_form Try.underlying26 f6
    obtain ⟨nA, nn, nc, e7⟩ := slice_form Try.underlying27 f7
    obtain ⟨fA, fn, fc, e8⟩ := slice_form Try.underlying28 f8
    obtain ⟨x9, e9, _⟩ := f9.int Try.underlying3
    obtain ⟨x10, e10, _⟩ := f10.int Try.underlying5
    obtain ⟨x11, e11⟩ := f11.bool Try.underlying4
    obtain ⟨x12, e12, _⟩ := f12.int Try.underlying3
    obtain ⟨x13, e13, _⟩ := f13.int Try.underlying3
    simp only [List.cons.injEq, and_true] at e0 e1 e2 e3 e4 e5 e6 e7 e8 e9 e10 e11 e12 e13
    subst e0 e1 e2 e3 e4 e5 e6 e7 e8 e9 e10 e11 e12 e13
    exact ⟨⟨x0, x1, x2, x3, kA, kn, kc, vA, vn, vc, aA, an, ac, nA, nn, nc, fA, fn, fc, x9, x10, x11, x12, x13, keys, vals⟩, rfl, byte_wf w0, rk, rv, Nat.le_trans k1 k2, Nat.le_trans q1 q2⟩

structure OpS where
  kind : Int
  a : AskT
  good : Bool
def opC (o : OpS) : List Value := [.int .i64 o.kind, .int .u8 o.a.kind, .string o.a.name, .string o.a.portal, .string o.a.sql, .slice o.a.kA o.a.kn o.a.kc, .slice o.a.vA o.a.vn o.a.vc, .slice o.a.aA o.a.an o.a.ac, .slice o.a.nA o.a.nn o.a.nc, .slice o.a.fA o.a.fn o.a.fc, .int .i64 o.a.most, .int .u8 o.a.what, .bool o.a.cancel, .int .i64 o.a.pid, .int .i64 o.a.secret, .bool o.good]
def askL (a : AskT) : List Value := [.int .u8 a.kind, .string a.name, .string a.portal, .string a.sql, .slice a.kA a.kn a.kc, .slice a.vA a.vn a.vc, .slice a.aA a.an a.ac, .slice a.nA a.nn a.nc, .slice a.fA a.fn a.fc, .int .i64 a.most, .int .u8 a.what, .bool a.cancel, .int .i64 a.pid, .int .i64 a.secret]
theorem op_of_rd {w : World} {m : Nat} {cs : List Value} (h : Rd Try.prog w m 32 cs) : ∃ o : OpS, cs = opC o ∧ GoodA w o.a := by
  obtain ⟨hl, m, hf⟩ := h.struct Try.underlying32
  have hl3 : cs.length = 16 := hl.trans (by kernel_rfl)
  have cI : Try.prog.cellsOf 3 = 1 := by kernel_rfl
  have cB : Try.prog.cellsOf 4 = 1 := by kernel_rfl
  have cA : Try.prog.cellsOf 30 = 14 := by kernel_rfl
  match cs, hl3 with
  | [v0, v1, v2, v3, v4, v5, v6, v7, v8, v9, v10, v11, v12, v13, v14, v15], _ =>
    have f0 : Rd _ _ _ 3 [v0] := Rd.field hf 0 rfl cI
    have f1 : Rd _ _ _ 30 [v1, v2, v3, v4, v5, v6, v7, v8, v9, v10, v11, v12, v13, v14] := Rd.field hf 1 rfl cA
    have f2 : Rd _ _ _ 4 [v15] := Rd.field hf 2 rfl cB
    obtain ⟨x0, e0, w0⟩ := f0.int Try.underlying3
    obtain ⟨a, e1, ga⟩ := ask_of_rd f1
    obtain ⟨x2, e2⟩ := f2.bool Try.underlying4
    simp only [List.cons.injEq, and_true] at e0 e2
    subst e0 e2
    simp only [List.cons.injEq, and_true] at e1
    obtain ⟨rfl, rfl, rfl, rfl, rfl, rfl, rfl, rfl, rfl, rfl, rfl, rfl, rfl, rfl⟩ := e1
    exact ⟨⟨x0, a, x2⟩, rfl, ga⟩
theorem ops_of_arg {w : World} {m base : Nat} {v : Value} (hv : Value.okWide Try.prog w .any base 22 v) (h : Rd Try.prog w m 22 v.cells.toList) :
    ∃ A n cp os, v = .slice A n cp ∧ RowG opC 16 w A n os ∧ (∀ o ∈ os, GoodA w o.a) ∧ n ≤ maxLen := by
  obtain ⟨A, n, cp, rfl⟩ := okWide_slice Try.underlying22 hv
  obtain ⟨A', n', cp', l, he, h1, h2, h3, h4, _⟩ := RowG.of_rd (enc := opC) (k := 16) (G := fun o => GoodA w o.a) Try.underlying22 (by kernel_rfl) (by decide) (fun m cs' h => op_of_rd h) h
  simp [Value.cells] at he
  obtain ⟨rfl, rfl, rfl⟩ := he
  exact ⟨A, n, cp, l, rfl, h1, h2, by omega⟩
theorem ask_of_arg {w : World} {m base : Nat} {v : Value} (hv : Value.okWide Try.prog w .any base 30 v) (h : Rd Try.prog w m 30 v.cells.toList) :
    ∃ a : AskT, v = .agg #[.int .u8 a.kind, .string a.name, .string a.portal, .string a.sql, .slice a.kA a.kn a.kc, .slice a.vA a.vn a.vc, .slice a.aA a.an a.ac, .slice a.nA a.nn a.nc, .slice a.fA a.fn a.fc, .int .i64 a.most, .int .u8 a.what, .bool a.cancel, .int .i64 a.pid, .int .i64 a.secret] ∧ GoodA w a := by
  obtain ⟨cs, rfl, _⟩ := okWide_struct Try.underlying30 hv
  obtain ⟨a, e, g⟩ := ask_of_rd h
  refine ⟨a, ?_, g⟩
  simp only [Value.cells] at e
  obtain ⟨l⟩ := cs
  simp only at e
  rw [e]
end Go.Proofs.Ythommlfigdjehaa
