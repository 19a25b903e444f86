/- A slice argument's reading as a row of a kind (Kd.C), with what is told of each element. -/
import Derived.Test.YtmgcmheiabmajaaRowC
import Derived.Test.YtmgcmheiabmajaaWWords
namespace Go.Proofs.Ytmgcmheiabmajaa
open Go Go.RowKit Go.Proofs.YtmgcmheiabmajaaW.PrintWords

/-- A slice argument's reading as a row of a kind, with what is told of each element. -/
theorem C_of_rdG {α : Type} (d : Kd α) (T : α → Prop) {P : Program} {w : World} {t e : TypeId} {m : Nat} {cs : List Value} (hu : P.underlying t = some (.slice e)) (hk : P.cellsOf e = d.sz) (hk0 : 0 < d.sz)
    (dec : ∀ (m : Nat) (cs' : List Value), Rd P w m e cs' → ∃ x, d.K w x cs' ∧ T x) (h : Rd P w m t cs) :
    ∃ A cp l, cs = [.slice A l.length cp] ∧ Kd.C d w A l.length l ∧ l.length ≤ cp ∧ ∀ x ∈ l, T x := by
  obtain ⟨A, n, cp, L, rfl, hr, hG, hcp, hmx, hb⟩ := RowG.of_rd (enc := fun c : List Value => c) (G := fun c => ∃ x, d.K w x c ∧ T x) hu hk hk0 (fun m cs' h => by
    obtain ⟨x, hx⟩ := dec m cs' h
    exact ⟨cs', rfl, x, hx⟩) h
  obtain ⟨l, hll, hl, hT⟩ : ∃ l : List α, l.length = L.length ∧ (∀ (j : Nat) (p : α), l[j]? = some p → ∃ c, L[j]? = some c ∧ d.K w p c) ∧ ∀ x ∈ l, T x := by
    clear hr hb hcp
    induction L with
    | nil => exact ⟨[], rfl, fun j p hp => by simp at hp, fun x hx => by cases hx⟩
    | cons c r ih =>
      obtain ⟨l, h1, h2, h3⟩ := ih (fun x hx => hG x (List.mem_cons_of_mem _ hx))
      obtain ⟨x, hx, hxT⟩ := hG c List.mem_cons_self
      refine ⟨x :: l, by simp [h1], fun j p hp => ?_, fun y hy => ?_⟩
      · cases j with
        | zero =>
          simp only [List.getElem?_cons_zero, Option.some.injEq] at hp
          subst hp
          exact ⟨c, rfl, hx⟩
        | succ j => exact h2 j p (by simpa using hp)
      · rcases List.mem_cons.1 hy with rfl | hy
        · exact hxT
        · exact h3 y hy
  have hn := hr.len
  have hmx' : n ≤ 9223372036854775807 := by unfold maxLen at hmx; omega
  have hlen : l.length = n := by rw [hll, hn]
  rw [← hlen] at hcp hb
  refine ⟨A, cp, l, by rw [hlen], ⟨rfl, by omega, fun hp => ?_⟩, hcp, hT⟩
  rcases hr.2 with h0 | ⟨g, o, rfl, _, hc⟩
  · omega
  · refine ⟨_, rfl, fun j p hj => ?_⟩
    obtain ⟨c, hc1, hc2⟩ := hl j p hj
    refine ⟨c, d.K_len hc2, hc2, fun i u hi => ?_⟩
    rw [add_plain, ← Nat.add_assoc]
    exact hc j c hc1 i u hi
end Go.Proofs.Ytmgcmheiabmajaa
