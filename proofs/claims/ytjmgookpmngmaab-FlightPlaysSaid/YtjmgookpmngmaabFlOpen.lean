/- A key among the arguments, opened. -/
import Derived.Test.YtjmgookpmngmaabFlKnown
import Derived.Test.YtjmgookpmngmaabRead
import Derived.WideShapes
import Derived.Test.YtjmgookpmngmaabEqF
import Derived.Laws.StructEq
namespace Go.Proofs.Ytjmgookpmngmaab
open Go Go.RowKit Go.Maps Go.WideShapes

theorem key_of_cells {w : World} {n : Nat} {cs : List Value} (h : Rd Try.prog w n 28 cs) : ∃ k : Key, cs = [.string k.db, .string k.role, .int .i64 k.format, .string k.norm] ∧ SzK k := by
  obtain ⟨hl, m, hf⟩ := h.struct Try.underlying28
  have hl4 : cs.length = 4 := hl.trans (by kernel_rfl)
  have c1 : Try.prog.cellsOf 9 = 1 := by kernel_rfl
  have c2 : Try.prog.cellsOf 3 = 1 := by kernel_rfl
  match cs, hl4 with
  | [v0, v1, v2, v3], _ =>
    have f0 : Rd _ _ _ 9 [v0] := Rd.field hf 0 rfl c1
    have f1 : Rd _ _ _ 9 [v1] := Rd.field hf 1 rfl c1
    have f2 : Rd _ _ _ 3 [v2] := Rd.field hf 2 rfl c2
    have f3 : Rd _ _ _ 9 [v3] := Rd.field hf 3 rfl c1
    obtain ⟨s0, e0, w0⟩ := f0.str Try.underlying9
    obtain ⟨s1, e1, w1⟩ := f1.str Try.underlying9
    obtain ⟨x2, e2, w2⟩ := f2.int Try.underlying3
    obtain ⟨s3, e3, w3⟩ := f3.str Try.underlying9
    simp only [List.cons.injEq, and_true] at e0 e1 e2 e3
    subst e0 e1 e2 e3
    exact ⟨⟨s0, s1, x2, s3⟩, rfl, w0, w1, w3, w2⟩

theorem key_of_arg {w : World} {n base : Nat} {v : Value} (hv : Value.okWide Try.prog w .any base 28 v) (h : Rd Try.prog w n 28 v.cells.toList) : ∃ k : Key, v = keyV k ∧ SzK k := by
  obtain ⟨cs, rfl, _⟩ := okWide_struct Try.underlying28 hv
  obtain ⟨k, hk, hs⟩ := key_of_cells h
  refine ⟨k, ?_, hs⟩
  unfold keyV
  congr 1
  exact Array.toList_inj.1 hk
/-- A block holds a key. -/
def KBox (w : World) (g : Nat) (k : Key) : Prop := w.cell? ⟨g, 0, none⟩ = some (.string k.db) ∧ w.cell? ⟨g, 1, none⟩ = some (.string k.role) ∧ w.cell? ⟨g, 2, none⟩ = some (.int .i64 k.format) ∧ w.cell? ⟨g, 3, none⟩ = some (.string k.norm)
theorem KBox.new (w : World) (k : Key) : KBox (boxK w k) w.heap.size k := by
  have e0 : (boxK w k).heap[w.heap.size]? = some (.cells #[.string k.db, .string k.role, .int .i64 k.format, .string k.norm] 28 (0, 0)) := heap_alloc_new w _
  exact ⟨by rw [cell_of e0]; rfl, by rw [cell_of e0]; rfl, by rw [cell_of e0]; rfl, by rw [cell_of e0]; rfl⟩
theorem KBox.touch {w w' : World} {g : Nat} {k : Key} (h : KBox w g k) (t : Touch [] w w') : KBox w' g k := ⟨t.cell h.1 (by simp), t.cell h.2.1 (by simp), t.cell h.2.2.1 (by simp), t.cell h.2.2.2 (by simp)⟩
theorem KBox.alloc {w : World} {g : Nat} {k : Key} (h : KBox w g k) (o : Obj) : KBox (w.alloc o) g k := h.touch ((Touch.refl _ _).alloc _)
theorem KBox.low {B : Nat} {ks : List Nat} {w w' : World} {g : Nat} {k : Key} (h : KBox w g k) (t : Kept B ks w w') (hg : g < B) : KBox w' g k := ⟨t.low h.1 hg, t.low h.2.1 hg, t.low h.2.2.1 hg, t.low h.2.2.2 hg⟩
theorem KBox.watched {B : Nat} {ks : List Nat} {w w' : World} {g : Nat} {k : Key} (h : KBox w g k) (t : Kept B ks w w') (hg : g ∈ ks) : KBox w' g k := ⟨t.cell h.1 hg, t.cell h.2.1 hg, t.cell h.2.2.1 hg, t.cell h.2.2.2 hg⟩
/-- Are two keys the same, as the code asks it. -/
def sameK (a b : Key) : Bool := decide (a = b)
theorem key_eqIn (W : World) (d r n d' r' n' : ByteArray) (f f' : Int) :
    (Op.equalIn 10000 28 (.agg #[.string d, .string r, .int .i64 f, .string n]) (.agg #[.string d', .string r', .int .i64 f', .string n'])).run Try.prog W = .ok (sameK ⟨d, r, f, n⟩ ⟨d', r', f', n'⟩) W := by
  have hb : sameK ⟨d, r, f, n⟩ ⟨d', r', f', n'⟩ = (d.toList == d'.toList && (r.toList == r'.toList && (f == f' && (n.toList == n'.toList)))) := by
    unfold sameK
    rw [bytes_beq, bytes_beq, bytes_beq, Bool.eq_iff_iff]
    simp
  rw [hb]
  have hE : (Op.equalIn 10000 28 (.agg #[.string d, .string r, .int .i64 f, .string n]) (.agg #[.string d', .string r', .int .i64 f', .string n'])).run Try.prog W = .ok (d.toList == d'.toList && (r.toList == r'.toList && (f == f' && (n.toList == n'.toList && true)))) W := by
    refine eqF_of (d := 9999) Try.underlying28 (by kernel_rfl) ?_
    refine eqF_step (by rfl) (by go_simp; rfl) (by go_simp; rfl) (by go_simp) ?_
    refine eqF_step (by rfl) (by go_simp; rfl) (by go_simp; rfl) (by go_simp) ?_
    refine eqF_step (by rfl) (by go_simp; rfl) (by go_simp; rfl) (by go_simp) ?_
    exact eqF_step (by rfl) (by go_simp; rfl) (by go_simp; rfl) (by go_simp) eqF_nil
  rw [hE, Bool.and_true]
theorem key_eql (W : World) (d r n d' r' n' : ByteArray) (f f' : Int) :
    (binOp .eql 28 (.agg #[.string d, .string r, .int .i64 f, .string n]) (.agg #[.string d', .string r', .int .i64 f', .string n'])).run Try.prog W = .ok (.bool (sameK ⟨d, r, f, n⟩ ⟨d', r', f', n'⟩)) W := by
  rw [run_eql_struct, key_eqIn]; rfl
theorem key_neq (W : World) (d r n d' r' n' : ByteArray) (f f' : Int) :
    (binOp .neq 28 (.agg #[.string d, .string r, .int .i64 f, .string n]) (.agg #[.string d', .string r', .int .i64 f', .string n'])).run Try.prog W = .ok (.bool (!sameK ⟨d, r, f, n⟩ ⟨d', r', f', n'⟩)) W := by
  rw [run_neq_struct, key_eqIn]; rfl
theorem u8_range {n : Int} (h : (Lit.int .u8 n).wf = true) : 0 ≤ n ∧ n < 256 := by
  have e1 : IntKind.min .u8 = 0 := by decide
  have e2 : IntKind.max .u8 = 255 := by decide
  simp only [Lit.wf, e1, e2, Bool.and_eq_true, decide_eq_true_eq] at h
  omega
theorem goodI_small {c : Int} (h1 : -9000000000 ≤ c) (h2 : c ≤ 9000000000) : goodI c := by
  have e1 : IntKind.min .i64 = -9223372036854775808 := by decide
  have e2 : IntKind.max .i64 = 9223372036854775807 := by decide
  simp only [goodI, Lit.wf, e1, e2, Bool.and_eq_true, decide_eq_true_eq]
  omega
end Go.Proofs.Ytjmgookpmngmaab
