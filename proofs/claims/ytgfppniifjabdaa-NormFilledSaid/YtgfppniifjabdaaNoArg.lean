/- norm: rows read out of the arguments. -/
import Derived.Test.YtgfppniifjabdaaRowC
import Derived.Test.YtgfppniifjabdaaPbx0
namespace Go.Proofs.Ytgfppniifjabdaa
open Go Go.RowKit Go.Proofs.Ytgfppniifjabdaa.Pb Go.Proofs.YtgfppniifjabdaaW.PrintWords Go.Proofs.YtgfppniifjabdaaW.PrintLast
set_option linter.unusedSimpArgs false

/-- A slice argument's reading as a row of a kind, with what is told of each element. -/
theorem C_of_rdG {α : Type} (d : Kd α) (T : α → Prop) {P : Program} {w : World} {t e : TypeId} {m : Nat} {cs : List Value} (hu : P.underlying t = some (.slice e)) (hk : P.cellsOf e = d.sz) (hk0 : 0 < d.sz)
    (dec : ∀ (m : Nat) (cs' : List Value), Rd P w m e cs' → ∃ x, d.K w x cs' ∧ T x) (h : Rd P w m t cs) :
    ∃ A cp l, cs = [.slice A l.length cp] ∧ Kd.C d w A l.length l ∧ l.length ≤ cp ∧ ∀ x ∈ l, T x := by
  obtain ⟨A, n, cp, L, rfl, hr, hG, hcp, hmx, hb⟩ := RowG.of_rd (enc := fun c : List Value => c) (G := fun c => ∃ x, d.K w x c ∧ T x) hu hk hk0 (fun m cs' h => by
    obtain ⟨x, hx⟩ := dec m cs' h
    exact ⟨cs', rfl, x, hx⟩) h
  obtain ⟨l, hll, hl, hT⟩ : ∃ l : List α, l.length = L.length ∧ (∀ (j : Nat) (p : α), l[j]? = some p → ∃ c, L[j]? = some c ∧ d.K w p c) ∧ ∀ x ∈ l, T x := by
    clear hr hb hcp
    induction L with
    | nil => exact ⟨[], rfl, fun j p hp => by simp at hp, fun x hx => by cases hx⟩
    | cons c r ih =>
      obtain ⟨l, h1, h2, h3⟩ := ih (fun x hx => hG x (List.mem_cons_of_mem _ hx))
      obtain ⟨x, hx, hxT⟩ := hG c List.mem_cons_self
      refine ⟨x :: l, by simp [h1], fun j p hp => ?_, fun y hy => ?_⟩
      · cases j with
        | zero =>
          simp only [List.getElem?_cons_zero, Option.some.injEq] at hp
          subst hp
          exact ⟨c, rfl, hx⟩
        | succ j => exact h2 j p (by simpa using hp)
      · rcases List.mem_cons.1 hy with rfl | hy
        · exact hxT
        · exact h3 y hy
  have hn := hr.len
  have hmx' : n ≤ 9223372036854775807 := by unfold maxLen at hmx; omega
  have hlen : l.length = n := by rw [hll, hn]
  rw [← hlen] at hcp hb
  refine ⟨A, cp, l, by rw [hlen], ⟨rfl, by omega, fun hp => ?_⟩, hcp, hT⟩
  rcases hr.2 with h0 | ⟨g, o, rfl, _, hc⟩
  · omega
  · refine ⟨_, rfl, fun j p hj => ?_⟩
    obtain ⟨c, hc1, hc2⟩ := hl j p hj
    refine ⟨c, d.K_len hc2, hc2, fun i u hi => ?_⟩
    rw [add_plain, ← Nat.add_assoc]
    exact hc j c hc1 i u hi
theorem toks_arg {w : World} {m base : Nat} {v : Value} (hv : Value.okWide Try.prog w .any base 22 v) (h : Rd Try.prog w m 22 v.cells.toList) : ∃ A cp l, v = .slice A l.length cp ∧ Kd.C k35 w A l.length l ∧ l.length ≤ cp := by
  obtain ⟨A0, n0, cp0, rfl⟩ := Go.WideShapes.okWide_slice Try.underlying22 hv
  obtain ⟨A, cp, l, e, h1, h2, _⟩ := C_of_rdG k35 (fun _ => True) (t := 22) (e := 35) Try.underlying22 (by kernel_rfl) (by decide) (fun m cs h => by
    obtain ⟨hl, m', hf⟩ := Rd.struct Try.underlying35 h
    have hl3 : cs.length = 3 := by rw [hl]; kernel_rfl
    obtain ⟨a, b, c, rfl⟩ : ∃ a b c, cs = [a, b, c] := by
      match cs, hl3 with
      | [a, b, c], _ => exact ⟨a, b, c, rfl⟩
    have cI : (Try.prog.cellsOf 3) = 1 := by kernel_rfl
    have cS : (Try.prog.cellsOf 9) = 1 := by kernel_rfl
    have f0 : Rd _ _ _ 3 [a] := Rd.field hf 0 rfl cI
    have f1 : Rd _ _ _ 9 [b] := Rd.field hf 1 rfl cS
    have f2 : Rd _ _ _ 3 [c] := Rd.field hf 2 rfl cI
    obtain ⟨x, hx, _⟩ := f0.int Try.underlying3
    obtain ⟨y, hy, _⟩ := f1.str Try.underlying9
    obtain ⟨z, hz, _⟩ := f2.int Try.underlying3
    cases hx; cases hy; cases hz
    exact ⟨(⟨x, y, z⟩ : S35), ⟨[.int .i64 x], [.string y, .int .i64 z], rfl, rfl, [.string y], [.int .i64 z], rfl, rfl, rfl⟩, trivial⟩) h
  simp [Value.cells] at e
  obtain ⟨rfl, rfl, rfl⟩ := e
  exact ⟨_, _, l, rfl, h1, h2⟩
theorem strs_arg {w : World} {m base : Nat} {v : Value} (hv : Value.okWide Try.prog w .any base 30 v) (h : Rd Try.prog w m 30 v.cells.toList) : ∃ A cp l, v = .slice A l.length cp ∧ Kd.C Kd.string w A l.length l ∧ l.length ≤ cp ∧ ∀ a ∈ l, a.size ≤ 140737488351232 := by
  obtain ⟨A0, n0, cp0, rfl⟩ := Go.WideShapes.okWide_slice Try.underlying30 hv
  obtain ⟨A, cp, l, e, h1, h2, h3⟩ := C_of_rdG Kd.string (fun a => a.size ≤ 140737488351232) (t := 30) (e := 9) Try.underlying30 (by kernel_rfl) (by decide) (fun m cs h => by
    obtain ⟨y, hy, hz⟩ := h.str Try.underlying9
    exact ⟨y, hy, hz⟩) h
  simp [Value.cells] at e
  obtain ⟨rfl, rfl, rfl⟩ := e
  exact ⟨_, _, l, rfl, h1, h2, h3⟩
theorem bools_arg {w : World} {m base : Nat} {v : Value} (hv : Value.okWide Try.prog w .any base 31 v) (h : Rd Try.prog w m 31 v.cells.toList) : ∃ A cp l, v = .slice A l.length cp ∧ Kd.C Kd.bool w A l.length l ∧ l.length ≤ cp := by
  obtain ⟨A0, n0, cp0, rfl⟩ := Go.WideShapes.okWide_slice Try.underlying31 hv
  obtain ⟨A, cp, l, e, h1, h2, _⟩ := C_of_rdG Kd.bool (fun _ => True) (t := 31) (e := 4) Try.underlying31 (by kernel_rfl) (by decide) (fun m cs h => by
    obtain ⟨y, hy⟩ := h.bool Try.underlying4
    exact ⟨y, hy, trivial⟩) h
  simp [Value.cells] at e
  obtain ⟨rfl, rfl, rfl⟩ := e
  exact ⟨_, _, l, rfl, h1, h2⟩
end Go.Proofs.Ytgfppniifjabdaa
