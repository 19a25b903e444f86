/- The document's board (ref14): Land, Leave. -/
import Derived.Test.YtjmgookpmngmaabFlRef4
namespace Go.Proofs.Ytjmgookpmngmaab
open Go Go.RowKit Go.Maps

theorem eraseIdx_mdel {K α : Type} [DecidableEq K] : ∀ {l : List (K × α)} {i : Nat} {p : K × α}, (l.map (·.1)).Nodup → l[i]? = some p → l.eraseIdx i = mdel l p.1
  | [], _, _, _, h => by simp at h
  | p0 :: l, 0, p, hn, h => by
    simp at h; subst h
    simp only [List.map_cons, List.nodup_cons] at hn
    have : mdel (p0 :: l) p0.1 = l := by
      unfold mdel
      rw [List.filter_cons, if_neg (by simp)]
      exact List.filter_eq_self.2 fun q hq => by simpa using fun e => hn.1 (List.mem_map.2 ⟨q, hq, e⟩)
    rw [this]; rfl
  | p0 :: l, i + 1, p, hn, h => by
    simp only [List.map_cons, List.nodup_cons] at hn
    have hp : l[i]? = some p := by simpa using h
    have hne : ¬ p0.1 = p.1 := fun e => hn.1 (by rw [e]; exact List.mem_map.2 ⟨p, List.mem_of_getElem? hp, rfl⟩)
    have : mdel (p0 :: l) p.1 = p0 :: mdel l p.1 := by
      unfold mdel
      rw [List.filter_cons, if_pos (by simpa using hne)]
    rw [this, List.eraseIdx_cons_succ, eraseIdx_mdel hn.2 hp]

set_option maxHeartbeats 1600000 in
theorem rLand_none {w : World} {pr : Nat} {F : List Nat} {L : List (Key × List Int)} (h : RBR w pr F L) (k : Key) (hn : L.length < 1000000) (hk : mget L k = none) :
    Calls Try.prog 19 #[.pointer (some ⟨pr, 0, none⟩), .agg #[.string k.db, .string k.role, .int .i64 k.format, .string k.norm]] w fun e w' => e = .returned (.tuple #[.int .i64 0, .slice none 0 0, .bool false]) ∧ Touch [] w w' := by
  have tb : Touch [] w (boxR w k) := (Touch.refl _ _).alloc _
  have hb := h.kept tb (by simp)
  obtain ⟨k0, k1, k2, k3⟩ := boxR_cells w k
  unfold boxR at tb hb k0 k1 k2 k3
  have Hk := Lib.hid hk
  clear h hk
  go_enter Try.func19, Try.ntmps19
  go_wp2_with fail
  generalize w.alloc (.cells #[.string k.db, .string k.role, .int .i64 k.format, .string k.norm] 53) = V at *
  refine (find_any hb k hn).mono ?_
  rintro e w1 ⟨r, rfl, hr2, t1⟩
  have hr0 : r = -1 := by
    rcases hr2 with ⟨h, _⟩ | ⟨j, p, _, hj, hp⟩
    · exact h
    · exact absurd hp (mget_none.1 Hk.out p (List.mem_of_getElem? hj))
  subst hr0
  clear hr2
  go_wp2
  go_ret3
  exact ⟨rfl, tb.trans t1 (by simp)⟩

theorem RMoved.drewN {w w' : World} {pr : Nat} {F : List Nat} {L : List (Key × List Int)} (h : RMoved w w' pr F L) (n : Nat) : RMoved w (w'.drewN n) pr F L := by
  obtain ⟨F', h1, h2, h3⟩ := h
  exact ⟨F', h1.kept ((Touch.refl [] w').drewN n) (by simp), h2.drewN n, h3⟩
theorem RowI.touch {w w' : World} {A : Option Addr} {n : Nat} {l : List Int} (h : RowI w A n l) (t : Touch [] w w') : RowI w' A n l := by
  obtain ⟨h1, h2⟩ := h
  refine ⟨h1, ?_⟩
  rcases h2 with h2 | ⟨g, o, hA, hc⟩
  · exact .inl h2
  · exact .inr ⟨g, o, hA, fun j hj => t.cell (hc j hj) (by simp)⟩
/-- A list to be read, behind its first. -/
theorem RowI.tail {w : World} {g n : Nat} {x : Int} {l : List Int} (h : ∀ j, j < n + 1 → w.cell? ⟨g, j, none⟩ = some (.int .i64 ((x :: l).getD j 0))) (hn : n = l.length) : RowI w (some ⟨g, 1, none⟩) n l :=
  ⟨hn, .inr ⟨g, 1, rfl, fun j hj => by rw [Nat.add_comm]; exact h (j + 1) (by omega)⟩⟩

set_option maxHeartbeats 1600000 in
theorem rLand_some {w : World} {pr : Nat} {F : List Nat} {L : List (Key × List Int)} (h : RBR w pr F L) (k : Key) (hn : L.length < 1000000) {x : Int} {l : List Int} (hk : mget L k = some (x :: l)) (hl : l.length < 1000000) (hLn : (L.map (·.1)).Nodup) :
    Calls Try.prog 19 #[.pointer (some ⟨pr, 0, none⟩), .agg #[.string k.db, .string k.role, .int .i64 k.format, .string k.norm]] w fun e w' =>
      ∃ A cp, e = .returned (.tuple #[.int .i64 x, .slice A l.length cp, .bool true]) ∧ RowI w' A l.length l ∧ RMoved w w' pr F (mdel L k) := by
  have tb : Touch [] w (boxR w k) := (Touch.refl _ _).alloc _
  have hb := h.kept tb (by simp)
  obtain ⟨k0, k1, k2, k3⟩ := boxR_cells w k
  unfold boxR at tb hb k0 k1 k2 k3
  have Hk := Lib.hid hk; have HL := Lib.hid hLn
  clear h hk hLn
  go_enter Try.func19, Try.ntmps19
  go_wp2_with fail
  generalize w.alloc (.cells #[.string k.db, .string k.role, .int .i64 k.format, .string k.norm] 53) = V at *
  refine (find_any hb k hn).mono ?_
  rintro e w1 ⟨r, rfl, hr2, t1⟩
  obtain ⟨j, p, rfl, hj, hpk⟩ : ∃ (j : Nat) (p : Key × List Int), r = j ∧ L[j]? = some p ∧ p.1 = k := by
    rcases hr2 with ⟨_, h⟩ | h
    · exact absurd rfl (h _ (mget_mem Hk.out))
    · exact h
  have hb1 := hb.kept t1 (by simp)
  have t2 := tb.trans t1 (by simp)
  obtain ⟨pk, pl⟩ := p
  simp only at hpk
  subst hpk
  have hpl : pl = x :: l := by
    have h1 : mget L pk = some pl := mem_mget HL.out (List.mem_of_getElem? hj)
    rw [Hk.out] at h1
    exact (Option.some.inj h1).symm
  subst hpl
  have hjl := (List.getElem?_eq_some_iff.1 hj).1
  have Herase := Lib.hid (eraseIdx_mdel HL.out hj)
  clear hr2 hb k0 k1 k2 k3
  have hb2 := hb1
  obtain ⟨v, rs, g1, g2, g3, h4, hF, hnd⟩ := hb2
  have c0 : w1.cell? ⟨pr, 0, none⟩ = some v := by rw [cell_of g1]; rfl
  have hjr := hj
  rw [h4, List.getElem?_map, Option.map_eq_some_iff] at hjr
  obtain ⟨q, hq, hqe⟩ := hjr
  obtain ⟨qk, qv, ql⟩ := q
  simp only [Prod.mk.injEq] at hqe
  obtain ⟨rfl, rfl⟩ := hqe
  obtain ⟨g, cap, rfl, _, _, _, _, e4⟩ := flat_cells g2 hq
  simp only at e4
  have hjr := (List.getElem?_eq_some_iff.1 hq).1
  have hown : w1.ownsRow 0 3 1 qv (l.length + 1) (intsV (x :: l)) := g3 _ (List.mem_of_getElem? hq)
  obtain ⟨g', cap', rfl, hcl⟩ := own_cells (xs := intsV l) (x := .int .i64 x) hown
  have hcapl : l.length + 1 ≤ cap' := by
    rcases hown.2 with ⟨e, _⟩ | ⟨g'', cap'', cur, e, _, _, e2, _⟩
    · cases e
    · cases e; exact e2
  have hgp : g' ≠ pr := fun e => by
    rw [hF] at hnd
    simp only [List.nodup_cons, List.mem_append, not_or] at hnd
    exact hnd.1.2 (by rw [← e]; exact mem_rowBlocks.2 ⟨_, List.mem_of_getElem? hq, rfl⟩)
  have Hcl := Lib.hid hcl
  clear g2 g3 hF hnd h4 hown hcl g1 hq
  go_wp2_with fail
  refine (drop_any hb1 j hjl hn).mono ?_
  rintro e w2 ⟨rfl, F', r1, r2, r3⟩
  rw [Herase.out] at r1
  have hcl2 : ∀ j, j < l.length + 1 → w2.cell? ⟨g', j, none⟩ = some (.int .i64 ((x :: l).getD j 0)) := fun j hj => r2.cell (Hcl.out j _ (by
    have : (x :: l)[j]? = some ((x :: l).getD j 0) := by simp [List.getD_eq_getElem?_getD, List.getElem?_eq_getElem (show j < (x :: l).length by simpa using hj)]
    show (intsV (x :: l))[j]? = _
    simp only [intsV, List.getElem?_map, this, Option.map_some])) (by simpa using hgp)
  have c2 := hcl2 0 (by omega)
  have hx0 : (x :: l).getD 0 0 = x := rfl
  rw [hx0] at c2
  have Hrow := Lib.hid (RowI.tail hcl2 rfl)
  have hmv : RMoved w w2 pr F (mdel L qk) := ⟨F', r1, (t2.mono (by simp)).trans (r2.mono (S' := F) (by
    intro i hi
    simp only [List.mem_singleton] at hi
    subst hi
    obtain ⟨_, _, _, _, _, _, hF, _⟩ := hb1
    rw [hF]; simp)) (fun i hi => .inl hi), fun i hi => by
    rcases r3 i hi with h | h
    · exact .inl h
    · exact .inr (Nat.le_trans t2.size h)⟩
  clear hcl2 r1 r2 r3 hb1
  by_cases hcap : cap' = 1
  · subst hcap
    obtain rfl : l = [] := by cases l with
      | nil => rfl
      | cons y l => simp at hcapl
    go_wp2_with fail
    go_quiet (fail)
    go_wp2
    go_ret3
    exact ⟨_, _, rfl, ⟨rfl, .inr ⟨g', 0, rfl, fun j hj => absurd hj (by simp)⟩⟩, hmv.drewN _⟩
  · have q1 : (0 : Int) < (l.length : Int) + 1 := by omega
    have q2 : (1 : Int) ≤ (l.length : Int) + 1 := by omega
    go_wp2_with fail
    go_quiet (fail)
    go_wp2
    go_ret3
    exact ⟨_, _, rfl, Hrow.out.touch ((Touch.refl [] w2).drewN _), hmv.drewN _⟩
end Go.Proofs.Ytjmgookpmngmaab
