/- The document's gauge in memory: bounds, and all numbers. -/
import Derived.Test.YtmgcmheiabmajaaGaA
namespace Go.Proofs.Ytmgcmheiabmajaa
open Go Go.RowKit Go.Proofs.Ytmgcmheiabmajaa.Pa Go.Proofs.YtmgcmheiabmajaaW.PrintWords Go.Proofs.YtmgcmheiabmajaaW.PrintLast

structure RG (base : Nat) (w : World) (p bB cB : Nat) (vl : Value) (B l : List Int) : Prop where
  blk : w.heap[p]? = some (.cells #[.slice (some ⟨bB, 0, none⟩) B.length cB, vl] 52 (0, 0))
  row : ∃ C : Array Value, w.heap[bB]? = some (.cells C 3 (0, 0)) ∧ ∀ (j : Nat) (x : Int), B[j]? = some x → C[j]? = some (.int .i64 x)
  own : Kd.R (Kd.int .i64) 3 w base (fun k => k ≠ bB) vl l
  hp : base ≤ p
  hb : base ≤ bB
  hs : base ≤ w.heap.size
/-- What is no row of numbers, and no gauge of the document's, stays. -/
def Stay (w w' : World) : Prop := ∀ (i : Nat) (C : Array Value) (ty : TypeId), w.heap[i]? = some (.cells C ty (0, 0)) → ty ≠ 3 → ty ≠ 52 → w'.heap[i]? = w.heap[i]?
section
variable {base : Nat} {w w' : World} {p bB cB : Nat} {vl : Value} {B l : List Int}
theorem RG.ne (h : RG base w p bB cB vl B l) : p ≠ bB := by
  intro e
  obtain ⟨C, hC, _⟩ := h.row
  have := h.blk
  rw [e, hC] at this
  exact absurd (Obj.cells.inj (Option.some.inj this)).2.1 (by decide)
theorem RG.below (h : RG base w p bB cB vl B l) (k : Below w.heap.size w w') : RG base w' p bB cB vl B l := by
  obtain ⟨C, hC, hx⟩ := h.row
  exact ⟨(k.block p (heap_lt h.blk)).trans h.blk, ⟨C, (k.block bB (heap_lt hC)).trans hC, hx⟩, Kd.R_below h.own k, h.hp, h.hb, Nat.le_trans h.hs k.size⟩
/-- What touches gauges of the program's alone leaves the document's one. -/
theorem RG.kept {pg bg cg : Nat} {L : List SB} {t s : Int} (h : RG base w p bB cB vl B l) (g : GA w pg bg cg L t s) (k : Touch [pg, bg] w w') : RG base w' p bB cB vl B l := by
  obtain ⟨C, hC, hx⟩ := h.row
  obtain ⟨D, hD, _⟩ := g.row
  have ty : ∀ (i : Nat) (E : Array Value) (ty : TypeId), w.heap[i]? = some (.cells E ty (0, 0)) → ty ≠ 48 → ty ≠ 50 → i ∉ [pg, bg] := by
    intro i E ty hi h1 h2 hm
    rcases List.mem_cons.1 hm with rfl | hm
    · have := g.blk
      rw [hi] at this
      exact h1 (Obj.cells.inj (Option.some.inj this)).2.1
    · rw [List.mem_singleton] at hm
      subst hm
      rw [hi] at hD
      exact h2 (Obj.cells.inj (Option.some.inj hD)).2.1
  refine ⟨(k.block p (heap_lt h.blk) (ty p _ _ h.blk (by decide) (by decide))).trans h.blk, ⟨C, (k.block bB (heap_lt hC) (ty bB _ _ hC (by decide) (by decide))).trans hC, hx⟩, ?_, h.hp, h.hb, Nat.le_trans h.hs k.size⟩
  have ho := Kd.R_bound h.own
  refine Kd.R_mono (Kd.R_step ho (fun i hi hlt => ?_)) (fun i hi => hi.1)
  obtain ⟨_, _, _, q, hq, cells, hc⟩ := hi
  have hq : q = 3 := by
    rcases List.mem_cons.1 hq with e | e
    · exact e
    · cases e
  subst hq
  exact k.block i hlt (ty i _ _ hc (by decide) (by decide))
theorem GA.stay {pg bg cg : Nat} {L : List SB} {t s : Int} (g : GA w pg bg cg L t s) (k : Stay w w') : GA w' pg bg cg L t s := by
  obtain ⟨D, hD, hx⟩ := g.row
  exact ⟨(k pg _ _ g.blk (by decide) (by decide)).trans g.blk, ⟨D, (k bg _ _ hD (by decide) (by decide)).trans hD, hx⟩, g.cap, g.few⟩
theorem RG.at (h : RG base w p bB cB vl B l) (j : Nat) (x : Int) (hj : B[j]? = some x) : w.cell? ⟨bB, j, none⟩ = some (.int .i64 x) := by
  obtain ⟨C, hC, hx⟩ := h.row
  rw [cell_of hC]
  exact hx j x hj
theorem RG.cells (h : RG base w p bB cB vl B l) : w.cell? ⟨p, 0, none⟩ = some (.slice (some ⟨bB, 0, none⟩) B.length cB) ∧ w.cell? ⟨p, 1, none⟩ = some vl ∧ w.frozen? ⟨p, 1, none⟩ = false :=
  ⟨by rw [cell_of h.blk]; rfl, by rw [cell_of h.blk]; rfl, frozen_of h.blk 1⟩
theorem radd_bad (x : Int) (hx : x < 0 ∨ 1099511627776 < x) (w : World) : Calls Try.prog 10 #[.pointer (some ⟨p, 0, none⟩), .int .i64 x] w fun e w' => e = .returned (.bool false) ∧ w' = w := by
  go_enter Try.func10, Try.ntmps10
  by_cases h0 : x < 0
  · clear hx
    repeat (first | go_step3 | go_values | go_skip | go_guarded | go_step | go_upon)
    go_ret
    exact ⟨rfl, rfl⟩
  · have h1 : 1099511627776 < x := by omega
    clear hx
    repeat (first | go_step3 | go_values | go_skip | go_guarded | go_step | go_upon)
    go_ret
    exact ⟨rfl, rfl⟩
def RAddP (base : Nat) (w : World) (p bB cB : Nat) (B l : List Int) (x : Int) (e : Ending) (w' : World) : Prop := ∃ vl', e = .returned (.bool true) ∧ RG base w' p bB cB vl' B (l ++ [x]) ∧ Below base w w' ∧ Stay w w'
theorem radd_fin {w6 : World} {A6 : Option Addr} {n6 c6 : Nat} {x : Int} (h : RG base w p bB cB vl B l) (ho : Kd.R (Kd.int .i64) 3 w6 base (fun k => k ≠ bB) (.slice A6 n6 c6) (l ++ [x])) (hb : Below base w w6) (hg : w.grownBy w6 vl.ownBlock) : RAddP base w p bB cB B l x (.returned (.bool true)) (w6.setCell ⟨p, 1, none⟩ (.slice A6 n6 c6)) := by
  obtain ⟨C, hC, hx⟩ := h.row
  have hpv : some p ≠ vl.ownBlock := Kd.R_ne h.own h.blk (by decide)
  have hbv : some bB ≠ vl.ownBlock := fun e => absurd rfl (h.own.1 bB e.symm)
  have b6 : w6.heap[p]? = some (.cells #[.slice (some ⟨bB, 0, none⟩) B.length cB, vl] 52 (0, 0)) := (hg.block p (heap_lt h.blk) hpv).trans h.blk
  have r6 : w6.heap[bB]? = some (.cells C 3 (0, 0)) := (hg.block bB (heap_lt hC) hbv).trans hC
  refine ⟨.slice A6 n6 c6, rfl, ⟨(block_set b6 _).trans rfl, ⟨C, (RowKit.Below.heap_setCell _ _ _ _ (Ne.symm h.ne)).trans r6, hx⟩, Kd.R_set ho b6 (by decide) 1 _, h.hp, h.hb, by have := hg.size; simp [World.setCell]; exact Nat.le_trans h.hs this⟩, hb.setCell (p := ⟨p, 1, none⟩) h.hp _, ?_⟩
  intro i D ty hi h1 h2
  have hip : i ≠ p := fun e => by
    subst e
    rw [h.blk] at hi
    exact h2 (Obj.cells.inj (Option.some.inj hi)).2.1.symm
  refine (RowKit.Below.heap_setCell _ _ _ _ hip).trans (hg.block i (heap_lt hi) (fun e => ?_))
  obtain ⟨cells, hc⟩ := Kd.R_typed h.own i e.symm
  rw [hc] at hi
  exact h1 (Obj.cells.inj (Option.some.inj hi)).2.1.symm
set_option maxHeartbeats 2000000 in
theorem radd_any (h : RG base w p bB cB vl B l) (x : Int) (h0 : 0 ≤ x) (h1 : x ≤ 1099511627776) (hl : l.length ≤ 1000) : Calls Try.prog 10 #[.pointer (some ⟨p, 0, none⟩), .int .i64 x] w (RAddP base w p bB cB B l x) := by
  have H := Lib.hid h
  have HL3 := Lib.hid hl
  obtain ⟨_, k1, f1⟩ := h.cells
  have n0 : ¬ x < 0 := by omega
  have n1 : ¬ 1099511627776 < x := by omega
  obtain ⟨Al, cl, hv, hlc, hC⟩ := Kd.R_reads h.own
  obtain ⟨va, hva⟩ : ∃ va, va = vl := ⟨_, rfl⟩
  rw [← hva] at k1
  have HV := Lib.hid hva
  clear h h0 h1 hl hv hlc hC hva
  go_enter Try.func10, Try.ntmps10
  repeat ((fail_if_success (with_reducible refine gate_builtin (b := .append) (xs := #[.tmp 15, .tmp 17]) rfl ?_)); first | go_step3 | go_values | go_skip | go_guarded | go_step | go_upon)
  ((with_reducible refine gate_builtin (b := .append) (xs := #[.tmp 15, .tmp 17]) rfl ?_); at_builtin; refine Kd.R_append (Kd.int .i64) (w0 := w) base rfl (.tmp 15) (.tmp 17) 22 3 (.int .i64 0) 8 rfl Try.underlying22 infoI rfl (by decide) (by omega) va l x [.int .i64 x] (fun k => k ≠ bB) (fun _ => False) rfl (by first | (go_simp; done) | (go_simp; rfl)) ?aP (fun _ hk => hk.elim) ?aF ?aO ?aB ?aS ?aL ?_; (case aP => exact rfl); (case aF => exact fun k hk => by obtain ⟨C, hC, _⟩ := H.out.row; have := heap_lt hC; omega); (case aB => exact Below.refl _ _); (case aO => rw [HV.out]; exact H.out.own); (case aS => exact H.out.hs); (case aL => exact (by have := HL3.out; omega)); intro v6 w6 ho hb6 hg6 hat6; obtain ⟨A6, c6, e6⟩ := Kd.R_slice ho; generalize (l ++ [x]).length = n6 at e6; subst e6; rw [HV.out] at hg6; have HF := Lib.hid (radd_fin H.out ho hb6 hg6); have e6 : w6.frozen? ⟨p, 1, none⟩ = false := frozen_of ((hg6.block p (heap_lt H.out.blk) (Kd.R_ne H.out.own H.out.blk (by decide))).trans H.out.blk) 1; have e7 : ∃ u, w6.cell? ⟨p, 1, none⟩ = some u := ⟨_, (cell_of ((hg6.block p (heap_lt H.out.blk) (Kd.R_ne H.out.own H.out.blk (by decide))).trans H.out.blk) 1).trans rfl⟩; clear ho hb6 hg6 hat6)
  obtain ⟨u7, e7⟩ := e7
  dsimp only
  repeat (first | go_step3 | go_values | go_skip | go_guarded | go_step | go_upon)
  go_ret
  exact HF.out
end
end Go.Proofs.Ytmgcmheiabmajaa
