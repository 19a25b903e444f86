/- The law's arguments; what any call leaves as it was. -/
import Derived.Test.YtjmgookpmngmaadPrKn
namespace Go.Proofs.Ytjmgookpmngmaad
open Go Go.RowKit Go.Maps Go.WideShapes

structure OpP where
  kind : Int
  id : Int
  name : ByteArray
  sql : ByteArray
def opC (o : OpP) : List Value := [.int .i64 o.kind, .int .i64 o.id, .string o.name, .string o.sql]
def GoodP (o : OpP) : Prop := goodI o.kind ∧ goodI o.id ∧ TextSz o.name ∧ TextSz o.sql
theorem op_of_rd {w : World} {m : Nat} {cs : List Value} (h : Rd Try.prog w m 36 cs) : ∃ o : OpP, cs = opC o ∧ GoodP o := by
  obtain ⟨hl, m, hf⟩ := h.struct Try.underlying36
  have hl3 : cs.length = 4 := hl.trans (by kernel_rfl)
  have cI : Try.prog.cellsOf 3 = 1 := by kernel_rfl
  have cT : Try.prog.cellsOf 9 = 1 := by kernel_rfl
  match cs, hl3 with
  | [v0, v1, v2, v3], _ =>
    have f0 : Rd _ _ _ 3 [v0] := Rd.field hf 0 rfl cI
    have f1 : Rd _ _ _ 3 [v1] := Rd.field hf 1 rfl cI
    have f2 : Rd _ _ _ 9 [v2] := Rd.field hf 2 rfl cT
    have f3 : Rd _ _ _ 9 [v3] := Rd.field hf 3 rfl cT
    obtain ⟨x0, e0, w0⟩ := f0.int Try.underlying3
    obtain ⟨x1, e1, w1⟩ := f1.int Try.underlying3
    obtain ⟨x2, e2, w2⟩ := f2.str Try.underlying9
    obtain ⟨x3, e3, w3⟩ := f3.str Try.underlying9
    simp only [List.cons.injEq, and_true] at e0 e1 e2 e3
    subst e0 e1 e2 e3
    exact ⟨⟨x0, x1, x2, x3⟩, rfl, w0, w1, w2, w3⟩
theorem ops_of_arg {w : World} {m base : Nat} {v : Value} (hv : Value.okWide Try.prog w .any base 32 v) (h : Rd Try.prog w m 32 v.cells.toList) :
    ∃ A n cp os, v = .slice A n cp ∧ RowG opC 4 w A n os ∧ (∀ o ∈ os, GoodP o) ∧ n ≤ maxLen := by
  obtain ⟨A, n, cp, rfl⟩ := okWide_slice Try.underlying32 hv
  obtain ⟨A', n', cp', l, he, h1, h2, h3, h4, _⟩ := RowG.of_rd (enc := opC) (k := 4) (G := GoodP) Try.underlying32 (by kernel_rfl) (by decide) (fun m cs' h => op_of_rd h) h
  simp [Value.cells] at he
  obtain ⟨rfl, rfl, rfl⟩ := he
  exact ⟨A, n, cp, l, rfl, h1, h2, Nat.le_trans h3 h4⟩
theorem gT {s : ByteArray} (h : TextSz s) : goodS s := by unfold TextSz at h; unfold goodS maxLen; omega
section
variable {w w' : World} {own own' : Own} {pb n : Nat} {M : BM}
def SomeD (w : World) (own : Own) (pb : Nat) (M : BM) (n : Nat) (c : Int) (e : Ending) (w' : World) : Prop := ∃ x own' M', e = .returned (.int .i64 x) ∧ BkE w' own' pb M' (n + 3) ∧ Grow own own' w w' ∧ (∀ c', c ≠ c' → M'.mine c' = M.mine c') ∧ M'.nm = M.nm ∧ M'.order = M.order
theorem Define_some (h : BkE w own pb M n) (hn : n < 1000000) {c : Int} (hc : goodI c) {s q : ByteArray} (hs : goodS s) (hq : goodS q) :
    Calls Try.prog 13 #[.pointer (some ⟨pb, 0, none⟩), .int .i64 c, .string s, .string q] w (SomeD w own pb M n c) := by
  by_cases hb : 2000 < q.size
  · refine (Define_big h hc hs hb hq).mono ?_
    rintro e w1 ⟨rfl, rfl⟩
    exact ⟨2, own, M, rfl, h.mono (by omega), Grow.refl _ _, fun _ _ => rfl, rfl, rfl⟩
  · have ok : (mget (M.mine c) s = none ∨ s = ⟨#[]⟩) → Calls Try.prog 13 #[.pointer (some ⟨pb, 0, none⟩), .int .i64 c, .string s, .string q] w (SomeD w own pb M n c) := fun hx => by
      refine (Define_ok h hn hc hs (by omega) hx).mono ?_
      rintro e w1 ⟨rfl, own1, b1, g1⟩
      exact ⟨0, own1, _, rfl, b1.mono (by omega), g1, fun c' hne => by simp [BM.put, upd, hne], rfl, rfl⟩
    cases hm : mget (M.mine c) s with
    | none => exact ok (.inl hm)
    | some x =>
      by_cases he : s = ⟨#[]⟩
      · exact ok (.inr he)
      · refine (Define_twice h hc hs (by omega) hm he).mono ?_
        rintro e w1 ⟨rfl, rfl⟩
        exact ⟨9, own, M, rfl, h.mono (by omega), Grow.refl _ _, fun _ _ => rfl, rfl, rfl⟩
def SomeC (w : World) (own : Own) (pb : Nat) (M : BM) (n : Nat) (c : Int) (e : Ending) (w' : World) : Prop := ∃ x M', e = .returned (.bool x) ∧ BkE w' own pb M' n ∧ Grow own own w w' ∧ (∀ c', c ≠ c' → M'.mine c' = M.mine c') ∧ M'.nm = M.nm ∧ M'.order = M.order
theorem Close_some (h : BkE w own pb M n) {c : Int} (hc : goodI c) {s : ByteArray} (hs : goodS s) :
    Calls Try.prog 14 #[.pointer (some ⟨pb, 0, none⟩), .int .i64 c, .string s] w (SomeC w own pb M n c) := by
  cases hm : mget (M.mine c) s with
  | none =>
    refine (Close_no h hc hs hm).mono ?_
    rintro e w1 ⟨rfl, rfl⟩
    exact ⟨false, M, rfl, h, Grow.refl _ _, fun _ _ => rfl, rfl, rfl⟩
  | some x =>
    refine (Close_yes h hc hs hm).mono ?_
    rintro e w1 ⟨rfl, b1, g1⟩
    exact ⟨true, _, rfl, b1, g1, fun c' hne => by simp [BM.del, upd, hne], rfl, rfl⟩
def SomeN (w : World) (own : Own) (pb : Nat) (M : BM) (n : Nat) (id : Int) (q : ByteArray) (e : Ending) (w' : World) : Prop := ∃ x own' M', e = .returned (.tuple #[.string (M.name q), .bool x]) ∧ BkE w' own' pb M' (n + 3) ∧ Grow own own' w w' ∧ M'.mine = M.mine ∧ M'.nm = mput M.nm q (M.name q) ∧
  ((x = true ∧ M.name q ∉ M.order id ∧ M'.order = upd M.order id (M.order id ++ [M.name q])) ∨ (x = false ∧ M.name q ∈ M.order id ∧ M'.order = M.order))
theorem Need_some (h : BkE w own pb M n) (hn : n < 1000000) {id : Int} (hid : goodI id) {q : ByteArray} (hq : goodS q) :
    Calls Try.prog 10 #[.pointer (some ⟨pb, 0, none⟩), .int .i64 id, .string q] w (SomeN w own pb M n id q) := by
  by_cases hm : M.name q ∈ M.order id
  · refine (Need_any h hn hid hq false (.inr ⟨rfl, hm⟩)).mono ?_
    rintro e w1 ⟨rfl, own1, b1, g1⟩
    exact ⟨false, own1, _, rfl, b1, g1, rfl, rfl, .inr ⟨rfl, hm, rfl⟩⟩
  · refine (Need_any h hn hid hq true (.inl ⟨rfl, hm⟩)).mono ?_
    rintro e w1 ⟨rfl, own1, b1, g1⟩
    exact ⟨true, own1, _, rfl, b1, g1, rfl, rfl, .inl ⟨rfl, hm, rfl⟩⟩
end
def opO (o : OpP) : Obj := .cells #[.int .i64 o.kind, .int .i64 o.id, .string o.name, .string o.sql] 36
theorem op_cells {w : World} {g b : Nat} {o : OpP} (hc : ∀ (i : Nat) (v : Value), (opC o)[i]? = some v → w.cell? ⟨g, b + i, none⟩ = some v) :
    w.cell? ⟨g, b, none⟩ = some (.int .i64 o.kind) ∧ w.cell? ⟨g, b + 1, none⟩ = some (.int .i64 o.id) ∧ w.cell? ⟨g, b + 2, none⟩ = some (.string o.name) ∧ w.cell? ⟨g, b + 3, none⟩ = some (.string o.sql) := by
  exact ⟨by simpa using hc 0 _ rfl, hc 1 _ rfl, hc 2 _ rfl, hc 3 _ rfl⟩
theorem box_cells {w : World} {g : Nat} {o : OpP} (h : w.heap[g]? = some (opO o)) :
    w.cell? ⟨g, 0, none⟩ = some (.int .i64 o.kind) ∧ w.cell? ⟨g, 1, none⟩ = some (.int .i64 o.id) ∧ w.cell? ⟨g, 2, none⟩ = some (.string o.name) ∧ w.cell? ⟨g, 3, none⟩ = some (.string o.sql) := by
  unfold opO at h
  exact ⟨by rw [cell_of h]; rfl, by rw [cell_of h]; rfl, by rw [cell_of h]; rfl, by rw [cell_of h]; rfl⟩
end Go.Proofs.Ytjmgookpmngmaad
