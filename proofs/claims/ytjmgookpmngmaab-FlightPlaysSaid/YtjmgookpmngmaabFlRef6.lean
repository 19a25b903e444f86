/- The document's board (ref14): Leave. -/
import Derived.Test.YtjmgookpmngmaabFlRef5
namespace Go.Proofs.Ytjmgookpmngmaab
open Go Go.RowKit Go.Maps

/-- All but one. -/
def others (c : Int) (l : List Int) : List Int := l.filter fun y => decide (y ≠ c)
theorem others_at : ∀ {l : List Int} {a : Nat} {c : Int}, l.Nodup → l[a]? = some c → l.take a ++ l.drop (a + 1) = others c l
  | [], _, _, _, h => by simp at h
  | y :: l, 0, c, hn, h => by
    simp at h; subst h
    simp only [List.nodup_cons] at hn
    unfold others
    rw [List.filter_cons, if_neg (by simp)]
    simp only [List.take_zero, List.nil_append, Nat.zero_add, List.drop_succ_cons, List.drop_zero]
    exact (List.filter_eq_self.2 fun q hq => by
      have : q ≠ y := fun e => hn.1 (by rw [← e]; exact hq)
      simpa using this).symm
  | y :: l, a + 1, c, hn, h => by
    simp only [List.nodup_cons] at hn
    have hc : l[a]? = some c := by simpa using h
    have hne : y ≠ c := fun e => hn.1 (e ▸ List.mem_of_getElem? hc)
    have ih := others_at hn.2 hc
    unfold others at ih ⊢
    rw [List.filter_cons, if_pos (by simpa using hne), ← ih]
    simp

/-- A new list in a flight's place. -/
theorem ref_put {w w2 : World} {pr g j cap : Nat} {F : List Nat} {L : List (Key × List Int)} {rs : List (Key × (Value × List Int))} {q : Key × (Value × List Int)} {v2 : Value} {l2 : List Int}
    (g1 : w.heap[pr]? = some (.cells #[.slice (some ⟨g, 0, none⟩) rs.length cap] 49 (0, 0))) (g2 : w.ownsRow 0 69 5 (.slice (some ⟨g, 0, none⟩) rs.length cap) rs.length (rs.flatMap flC))
    (g3 : ∀ r ∈ rs, w.ownsRow 0 3 1 r.2.1 r.2.2.length (intsV r.2.2)) (h4 : L = rs.map (fun r => (r.1, r.2.2))) (hF : F = pr :: ((Value.slice (some ⟨g, 0, none⟩) rs.length cap).ownBlock.toList ++ rowBlocks rs)) (hnd : F.Nodup)
    (hLn : (L.map (·.1)).Nodup) (hq : rs[j]? = some q) (t2 : Touch [] w w2) (hown2 : w2.ownsRow 0 3 1 v2 l2.length (intsV l2)) (hv2 : ∀ i, v2.ownBlock = some i → w.heap.size ≤ i) :
    RMoved w (w2.setCell ⟨g, j * 5 + 4, none⟩ v2) pr F (mput L q.1 l2) := by
  have hrn : (rs.map (·.1)).Nodup := by
    rw [h4] at hLn
    simpa [List.map_map, Function.comp_def] using hLn
  have hF0 := hF
  rw [hF] at hnd
  simp only [Value.ownBlock, List.nodup_cons, List.mem_append, Option.mem_toList, not_or, List.nodup_append, Option.some.injEq] at hnd
  obtain ⟨⟨n1, n2⟩, n3, n4, n5⟩ := hnd
  have hpr := heap_lt g1
  have hgl : g < w.heap.size := (g2.lt g rfl).2
  have hrlt : ∀ i ∈ rowBlocks rs, i < w.heap.size := fun i hi => by
    obtain ⟨r, hr, hb⟩ := mem_rowBlocks.1 hi
    exact ((g3 r hr).lt i hb).2
  have T6 : Touch [g] w (w2.setCell ⟨g, j * 5 + 4, none⟩ v2) := (t2.mono (by simp)).setCell _ (.inl (by simp))
  obtain ⟨m1, m2⟩ := rowBlocks_mput (N := w.heap.size) q.1 v2 l2 rs n4 hrlt (fun i hi => .inr (hv2 i hi))
  have hgn : ∀ i ∈ rowBlocks (mput rs q.1 (v2, l2)), i ≠ g ∧ i ≠ pr := fun i hi => by
    rcases m2 i hi with h | ⟨_, h⟩
    · exact ⟨fun e => n5 g rfl i h e.symm, fun e => n2 (e ▸ h)⟩
    · exact ⟨by omega, by omega⟩
  have hg5 := own_touch g2 t2 (by simp)
  refine ⟨pr :: ((Value.slice (some ⟨g, 0, none⟩) rs.length cap).ownBlock.toList ++ rowBlocks (mput rs q.1 (v2, l2))), ⟨.slice (some ⟨g, 0, none⟩) rs.length cap, mput rs q.1 (v2, l2), ?_, ?_, ?_, ?_, rfl, ?_⟩, ?_, ?_⟩
  · exact (T6.block pr hpr (by simp only [List.mem_singleton]; exact fun e => n1 e.symm)).trans g1
  · rw [mput_length_at hrn hq, flat_mput v2 l2 hrn hq]
    exact own_set hg5 _
  · intro r hr
    rcases mput_mem' hrn hr with rfl | ⟨hr', hne⟩
    · exact own_touch hown2 ((Touch.refl [g] w2).setCell (a := ⟨g, j * 5 + 4, none⟩) v2 (.inl (by simp))) (fun i hi => by
        have := (hgn i (mem_rowBlocks.2 ⟨_, hr, hi⟩)).1
        simpa using this)
    · exact own_touch (g3 r hr') T6 (fun i hi => by
        have hm : i ∈ rowBlocks rs := mem_rowBlocks.2 ⟨r, hr', hi⟩
        simp only [List.mem_singleton]
        exact fun e => n5 g rfl i hm e.symm)
  · rw [h4]
    exact mput_map (fun r : Value × List Int => r.2) rs q.1 (v2, l2)
  · simp only [Value.ownBlock, Option.toList, List.cons_append, List.nil_append, List.nodup_cons, List.mem_cons, not_or]
    exact ⟨⟨fun e => n1 e.symm, fun h => (hgn pr h).2 rfl⟩, fun h => (hgn g h).1 rfl, m1⟩
  · refine T6.mono (fun i hi => ?_)
    rw [hF0]
    simp only [List.mem_singleton] at hi
    subst hi
    simp [Value.ownBlock]
  · intro i hi
    rw [hF0]
    simp only [Value.ownBlock, Option.toList, List.cons_append, List.nil_append, List.mem_cons] at hi ⊢
    rcases hi with h | h | h
    · exact .inl (.inl h)
    · exact .inl (.inr (.inl h))
    · rcases m2 i h with h | ⟨_, h⟩
      · exact .inl (.inr (.inr h))
      · exact .inr h

set_option maxHeartbeats 1600000 in
theorem rLeave_none {w : World} {pr : Nat} {F : List Nat} {L : List (Key × List Int)} (h : RBR w pr F L) (c : Int) (hn : L.length < 1000000) (hl : ∀ p ∈ L, p.2.length < 1000000) (hno : ∀ p ∈ L, c ∉ p.2) :
    Calls Try.prog 21 #[.pointer (some ⟨pr, 0, none⟩), .int .i64 c] w fun e w' => e = .returned (.tuple #[.slice none 0 0, .bool false]) ∧ w = w' := by
  have Hno := Lib.hid hno
  clear hno
  go_enter Try.func21, Try.ntmps21
  go_wp2_with fail
  refine (of_any h c hn hl).mono ?_
  rintro e w1 ⟨r, rfl, hr, rfl⟩
  have hr0 : r = -1 := by
    rcases hr with ⟨h, _⟩ | ⟨j, p, _, hj, hp⟩
    · exact h
    · exact absurd hp (Hno.out p (List.mem_of_getElem? hj))
  subst hr0
  clear hr
  go_wp2
  go_ret2
  exact ⟨rfl, rfl⟩

set_option maxHeartbeats 1600000 in
theorem rLeave_head {w : World} {pr : Nat} {F : List Nat} {L : List (Key × List Int)} (h : RBR w pr F L) (c : Int) (hn : L.length < 1000000) (hl : ∀ p ∈ L, p.2.length < 1000000) (hLn : (L.map (·.1)).Nodup) {k : Key} {x : Int} {l : List Int}
    (hk : mget L k = some (x :: l)) (hc : c ∈ x :: l) (honly : ∀ p ∈ L, c ∈ p.2 → p.1 = k) (hnd : (x :: l).Nodup) (hxc : x = c) :
    Calls Try.prog 21 #[.pointer (some ⟨pr, 0, none⟩), .int .i64 c] w fun e w' =>
      ∃ A cp, e = .returned (.tuple #[.slice A l.length cp, .bool true]) ∧ RowI w' A l.length l ∧ RMoved w w' pr F (mdel L k) := by
  have Ho := Lib.hid honly; have Hk := Lib.hid hk; have HL := Lib.hid hLn; have Hl := Lib.hid hl; have Hc := Lib.hid hc; have Hnd := Lib.hid hnd
  have hll : l.length + 1 < 1000000 := by have := hl _ (mget_mem hk); simpa using this
  have Hxc := Lib.hid hxc
  clear honly hk hLn hc hnd hxc
  go_enter Try.func21, Try.ntmps21
  go_wp2_with fail
  refine (of_any h c hn hl).mono ?_
  rintro e w1 ⟨r, rfl, hr, rfl⟩
  clear hl
  obtain ⟨j, pk, pl, rfl, hj, hp⟩ : ∃ (j : Nat) (pk : Key) (pl : List Int), r = j ∧ L[j]? = some (pk, pl) ∧ c ∈ pl := by
    rcases hr with ⟨_, h⟩ | ⟨j, p, e, hj, hp⟩
    · exact absurd Hc.out (h _ (mget_mem Hk.out))
    · exact ⟨j, p.1, p.2, e, hj, hp⟩
  have hpk : pk = k := Ho.out _ (List.mem_of_getElem? hj) hp
  subst hpk
  have hpl : pl = x :: l := by
    have h1 : mget L pk = some pl := mem_mget HL.out (List.mem_of_getElem? hj)
    rw [Hk.out] at h1
    exact (Option.some.inj h1).symm
  subst hpl
  have hjl := (List.getElem?_eq_some_iff.1 hj).1
  have Herase := Lib.hid (eraseIdx_mdel HL.out hj)
  clear hr hp
  have hb2 := h
  obtain ⟨v, rs, g1, g2, g3, h4, hF, hnd⟩ := hb2
  have c0 : w.cell? ⟨pr, 0, none⟩ = some v := by rw [cell_of g1]; rfl
  have hjr := hj
  rw [h4, List.getElem?_map, Option.map_eq_some_iff] at hjr
  obtain ⟨q, hq, hqe⟩ := hjr
  obtain ⟨qk, qv, ql⟩ := q
  simp only [Prod.mk.injEq] at hqe
  obtain ⟨rfl, rfl⟩ := hqe
  obtain ⟨g, cap, rfl, _, _, _, _, e4⟩ := flat_cells g2 hq
  simp only at e4
  have hjr := (List.getElem?_eq_some_iff.1 hq).1
  have hown : w.ownsRow 0 3 1 qv (l.length + 1) (intsV (x :: l)) := g3 _ (List.mem_of_getElem? hq)
  obtain ⟨g', cap', rfl, hcl⟩ := own_cells (xs := intsV l) (x := .int .i64 x) hown
  have hcapl : l.length + 1 ≤ cap' := by
    rcases hown.2 with ⟨e, _⟩ | ⟨g'', cap'', cur, e, _, _, e2, _⟩
    · cases e
    · cases e; exact e2
  have hrow := RowI.of_own hown rfl
  have HB := Lib.hid (And.intro g1 (And.intro g2 (And.intro g3 (And.intro h4 (And.intro hF (And.intro hnd hq))))))
  have Hcl := Lib.hid hcl
  clear g1 g2 g3 h4 hF hnd hown hcl hq
  go_wp2_with fail
  refine (place_any hrow c hll).mono ?_
  rintro e w2 ⟨r, rfl, hr, rfl⟩
  obtain ⟨a, rfl, ha, hfirst⟩ : ∃ a : Nat, r = a ∧ (x :: l)[a]? = some c ∧ ∀ q, q < a → (x :: l)[q]? ≠ some c := by
    rcases hr with ⟨_, h⟩ | h
    · exact absurd Hc.out h
    · exact h
  clear hr
  have hal := (List.getElem?_eq_some_iff.1 ha).1
  rcases Nat.eq_zero_or_pos a with h0 | h0
  · subst h0
    have hgp : g' ≠ pr := fun e => by
      obtain ⟨_, _, _, _, hF, hnd, hq⟩ := HB.out
      rw [hF] at hnd
      simp only [List.nodup_cons, List.mem_append, not_or] at hnd
      exact hnd.1.2 (by rw [← e]; exact mem_rowBlocks.2 ⟨_, List.mem_of_getElem? hq, rfl⟩)
    go_wp2_with fail
    refine (drop_any h j hjl hn).mono ?_
    rintro e w2 ⟨rfl, F', r1, r2, r3⟩
    rw [Herase.out] at r1
    have hcl2 : ∀ j, j < l.length + 1 → w2.cell? ⟨g', j, none⟩ = some (.int .i64 ((x :: l).getD j 0)) := fun j hj => r2.cell (Hcl.out j _ (by
      have : (x :: l)[j]? = some ((x :: l).getD j 0) := by simp [List.getD_eq_getElem?_getD, List.getElem?_eq_getElem (show j < (x :: l).length by simpa using hj)]
      show (intsV (x :: l))[j]? = _
      simp only [intsV, List.getElem?_map, this, Option.map_some])) (by simpa using hgp)
    have Hrow := Lib.hid (RowI.tail hcl2 rfl)
    have hmv : RMoved w w2 pr F (mdel L qk) := ⟨F', r1, r2.mono (S' := F) (by
      intro i hi
      simp only [List.mem_singleton] at hi
      subst hi
      obtain ⟨_, _, _, _, hF, _⟩ := HB.out
      rw [hF]; simp), r3⟩
    clear hcl2 r1 r2 r3
    by_cases hcap : cap' = 1
    · subst hcap
      obtain rfl : l = [] := by cases l with
        | nil => rfl
        | cons y l => simp at hcapl
      go_wp2
      go_ret2
      exact ⟨_, _, rfl, ⟨rfl, .inr ⟨g', 0, rfl, fun j hj => absurd hj (by simp)⟩⟩, hmv⟩
    · have q2 : (1 : Int) ≤ (l.length : Int) + 1 := by omega
      go_wp2
      go_ret2
      exact ⟨_, _, rfl, Hrow.out, hmv⟩
  · exact absurd (by rw [Hxc.out]; rfl) (hfirst 0 h0)

set_option maxHeartbeats 1600000 in
theorem rLeave_tail {w : World} {pr : Nat} {F : List Nat} {L : List (Key × List Int)} (h : RBR w pr F L) (c : Int) (hn : L.length < 1000000) (hl : ∀ p ∈ L, p.2.length < 1000000) (hLn : (L.map (·.1)).Nodup) {k : Key} {x : Int} {l : List Int}
    (hk : mget L k = some (x :: l)) (hc : c ∈ x :: l) (honly : ∀ p ∈ L, c ∈ p.2 → p.1 = k) (hnd : (x :: l).Nodup) (hxc : x ≠ c) :
    Calls Try.prog 21 #[.pointer (some ⟨pr, 0, none⟩), .int .i64 c] w fun e w' =>
      e = .returned (.tuple #[.slice none 0 0, .bool true]) ∧ RMoved w w' pr F (mput L k (others c (x :: l))) := by
  have Ho := Lib.hid honly; have Hk := Lib.hid hk; have HL := Lib.hid hLn; have Hl := Lib.hid hl; have Hc := Lib.hid hc; have Hnd := Lib.hid hnd
  have hll : l.length + 1 < 1000000 := by have := hl _ (mget_mem hk); simpa using this
  have Hxc := Lib.hid hxc
  clear honly hk hLn hc hnd hxc
  go_enter Try.func21, Try.ntmps21
  go_wp2_with fail
  refine (of_any h c hn hl).mono ?_
  rintro e w1 ⟨r, rfl, hr, rfl⟩
  clear hl
  obtain ⟨j, pk, pl, rfl, hj, hp⟩ : ∃ (j : Nat) (pk : Key) (pl : List Int), r = j ∧ L[j]? = some (pk, pl) ∧ c ∈ pl := by
    rcases hr with ⟨_, h⟩ | ⟨j, p, e, hj, hp⟩
    · exact absurd Hc.out (h _ (mget_mem Hk.out))
    · exact ⟨j, p.1, p.2, e, hj, hp⟩
  have hpk : pk = k := Ho.out _ (List.mem_of_getElem? hj) hp
  subst hpk
  have hpl : pl = x :: l := by
    have h1 : mget L pk = some pl := mem_mget HL.out (List.mem_of_getElem? hj)
    rw [Hk.out] at h1
    exact (Option.some.inj h1).symm
  subst hpl
  have hjl := (List.getElem?_eq_some_iff.1 hj).1
  have Herase := Lib.hid (eraseIdx_mdel HL.out hj)
  clear hr hp
  have hb2 := h
  obtain ⟨v, rs, g1, g2, g3, h4, hF, hnd⟩ := hb2
  have c0 : w.cell? ⟨pr, 0, none⟩ = some v := by rw [cell_of g1]; rfl
  have hjr := hj
  rw [h4, List.getElem?_map, Option.map_eq_some_iff] at hjr
  obtain ⟨q, hq, hqe⟩ := hjr
  obtain ⟨qk, qv, ql⟩ := q
  simp only [Prod.mk.injEq] at hqe
  obtain ⟨rfl, rfl⟩ := hqe
  obtain ⟨g, cap, rfl, _, _, _, _, e4⟩ := flat_cells g2 hq
  simp only at e4
  have hjr := (List.getElem?_eq_some_iff.1 hq).1
  have hown : w.ownsRow 0 3 1 qv (l.length + 1) (intsV (x :: l)) := g3 _ (List.mem_of_getElem? hq)
  obtain ⟨g', cap', rfl, hcl⟩ := own_cells (xs := intsV l) (x := .int .i64 x) hown
  have hcapl : l.length + 1 ≤ cap' := by
    rcases hown.2 with ⟨e, _⟩ | ⟨g'', cap'', cur, e, _, _, e2, _⟩
    · cases e
    · cases e; exact e2
  have hrow := RowI.of_own hown rfl
  have HB := Lib.hid (And.intro g1 (And.intro g2 (And.intro g3 (And.intro h4 (And.intro hF (And.intro hnd hq))))))
  have Hcl := Lib.hid hcl
  clear g1 g2 g3 h4 hF hnd hown hcl hq
  go_wp2_with fail
  refine (place_any hrow c hll).mono ?_
  rintro e w2 ⟨r, rfl, hr, rfl⟩
  obtain ⟨a, rfl, ha, hfirst⟩ : ∃ a : Nat, r = a ∧ (x :: l)[a]? = some c ∧ ∀ q, q < a → (x :: l)[q]? ≠ some c := by
    rcases hr with ⟨_, h⟩ | h
    · exact absurd Hc.out h
    · exact h
  clear hr
  have hal := (List.getElem?_eq_some_iff.1 ha).1
  have h0 : 0 < a := by
    rcases Nat.eq_zero_or_pos a with h0 | h0
    · subst h0; exact absurd (by simpa using ha) Hxc.out
    · exact h0
  obtain ⟨i0, hi0, hz0, hz1, hz2⟩ := info_parts infoI
  have hal' : a < l.length + 1 := by simpa using hal
  have hl1 : (intsV ((x :: l).take a)).length = a * 1 := by simp [intsV]; omega
  have hl2 : (intsV ((x :: l).drop (a + 1))).length = (l.length - a) * 1 := by simp [intsV]
  have H1 : Hid (∀ j u, (intsV ((x :: l).take a))[j]? = some u → w.cell? ((⟨g', 0, none⟩ : Addr).add j) = some u) := Lib.hid (fun j u hu => by
    have hadd : (⟨g', 0, none⟩ : Addr).add j = ⟨g', j, none⟩ := by unfold Addr.add; split <;> simp_all
    rw [hadd]
    refine Hcl.out j u ?_
    have hja : j < a := by have := (List.getElem?_eq_some_iff.1 hu).1; rw [hl1] at this; omega
    show (intsV (x :: l))[j]? = _
    simp only [intsV, List.getElem?_map, List.getElem?_take, if_pos hja] at hu ⊢
    exact hu)
  have H2 : Hid (∀ w', Touch [] w w' → ∀ j u, (intsV ((x :: l).drop (a + 1)))[j]? = some u → w'.cell? ((⟨g', a + 1, none⟩ : Addr).add j) = some u) := Lib.hid (fun w' t j u hu => by
    have hadd : (⟨g', a + 1, none⟩ : Addr).add j = ⟨g', a + 1 + j, none⟩ := by unfold Addr.add; split <;> simp_all
    rw [hadd]
    refine t.cell (Hcl.out (a + 1 + j) u ?_) (by simp)
    show (intsV (x :: l))[a + 1 + j]? = _
    simp only [intsV, List.getElem?_map, List.getElem?_drop] at hu ⊢
    exact hu)
  have hone : ∀ q : List Int, ∀ u ∈ intsV q, u.oneCell' = true := fun q u hu => by
    obtain ⟨z, _, rfl⟩ := List.mem_map.1 hu
    rfl
  have H1o := Lib.hid (hone ((x :: l).take a))
  have H2o := Lib.hid (hone ((x :: l).drop (a + 1)))
  clear hone
  have q1 : (a : Int) ≤ (cap' : Int) := by omega
  have q2 : (a : Int) + 1 ≤ (l.length : Int) + 1 := by omega
  have hgl : g < w.heap.size := (HB.out.2.1.lt g rfl).2
  have fg : w.frozen? ⟨g, j * 5 + 4, none⟩ = false := by
    rcases HB.out.2.1.2 with ⟨h0, _⟩ | ⟨g', cap', cur, h0, _, hg, _⟩
    · cases h0
    · cases h0; exact frozen_of hg _
  have Hoth := Lib.hid (others_at Hnd.out ha)
  by_cases hce : cap' = a + 1
  · subst hce
    go_wp2_with (first | (at_builtin; refine wpList_append_own_at _ rfl _ _ 37 rfl 0 3 i0 (.int .i64 0) 1 8 Try.underlying37 hi0 hz0 hz1 hz2 rfl (by decide) (.slice none 0 0) 0 [] rfl (World.ownsRow_nil _ _ _ _) ⟨g', 0, none⟩ a (a + 1) (intsV ((x :: l).take a)) rfl hl1 H1.out H1o.out (by simp [maxLen]; omega) (by omega) (Nat.zero_le _) ?_; intro v1 w1 hown1 hg1 _ hloc1; have t1 : Touch [] w w1 := (Touch.refl [] w).grownBy hg1 (fun i hi => by simp [Value.ownBlock] at hi); have c1 := t1.cell c0 (by simp); have d1 := t1.cell e4 (by simp); rw [Nat.zero_add, List.nil_append] at hown1; obtain ⟨A1, cp1, rfl⟩ := own_slice' hown1) | (at_builtin; refine wpList_append_own_at _ rfl _ _ 37 rfl 0 3 i0 (.int .i64 0) 1 8 Try.underlying37 hi0 hz0 hz1 hz2 rfl (by decide) (.slice A1 a cp1) a (intsV ((x :: l).take a)) rfl hown1 ⟨g', 0, none⟩ 0 0 [] rfl rfl (by simp) (by simp) (by simp [maxLen]; omega) (by omega) (Nat.zero_le _) ?_; intro v2 w2 hown2 hg2 _ hloc2; have t2 : Touch [] w w2 := t1.grownBy hg2 (fun j hj => by rcases hloc1 with h | h; (rw [h] at hj; simp [Value.ownBlock] at hj); (rw [h] at hj; cases hj; exact .inr (Nat.le_refl _))); have c2 := t2.cell c0 (by simp); have d2 := t2.cell e4 (by simp); have f2 : w2.frozen? ⟨g, j * 5 + 4, none⟩ = false := (World.frozen?_of_block (w' := w2) (w := w) (t2.block g hgl (by simp))).trans fg; obtain ⟨A2, cp2, rfl⟩ := own_slice' hown2))
    have hfin := ref_put HB.out.1 HB.out.2.1 HB.out.2.2.1 HB.out.2.2.2.1 HB.out.2.2.2.2.1 HB.out.2.2.2.2.2.1 HL.out HB.out.2.2.2.2.2.2 t2 (l2 := others c (x :: l)) (v2 := .slice A2 (a + 0) cp2) (by
      have hlen : (others c (x :: l)).length = a + 0 := by rw [← Hoth.out]; simp; omega
      have he : intsV (others c (x :: l)) = intsV ((x :: l).take a) ++ intsV ((x :: l).drop (a + 1)) := by rw [← Hoth.out]; simp [intsV]
      rw [hlen, he]
      have e1 : (x :: l).drop (a + 1) = [] := List.drop_eq_nil_of_le (by simp; omega)
      rw [e1]; exact hown2) (fun j hj => by
      rcases hloc2 with h | h
      · rcases hloc1 with h' | h'
        · rw [hj, h'] at h; simp [Value.ownBlock] at h
        · rw [hj, h'] at h; cases h; exact Nat.le_refl _
      · rw [hj] at h; cases h; exact t1.size)
    go_wp2
    go_ret2
    exact ⟨rfl, hfin⟩
  · go_wp2_with (first | (at_builtin; refine wpList_append_own_at _ rfl _ _ 37 rfl 0 3 i0 (.int .i64 0) 1 8 Try.underlying37 hi0 hz0 hz1 hz2 rfl (by decide) (.slice none 0 0) 0 [] rfl (World.ownsRow_nil _ _ _ _) ⟨g', 0, none⟩ a cap' (intsV ((x :: l).take a)) rfl hl1 H1.out H1o.out (by simp [maxLen]; omega) (by omega) (Nat.zero_le _) ?_; intro v1 w1 hown1 hg1 _ hloc1; have t1 : Touch [] w w1 := (Touch.refl [] w).grownBy hg1 (fun i hi => by simp [Value.ownBlock] at hi); have c1 := t1.cell c0 (by simp); have d1 := t1.cell e4 (by simp); rw [Nat.zero_add, List.nil_append] at hown1; obtain ⟨A1, cp1, rfl⟩ := own_slice' hown1) | (at_builtin; refine wpList_append_own_at _ rfl _ _ 37 rfl 0 3 i0 (.int .i64 0) 1 8 Try.underlying37 hi0 hz0 hz1 hz2 rfl (by decide) (.slice A1 a cp1) a (intsV ((x :: l).take a)) rfl hown1 ⟨g', a + 1, none⟩ (l.length - a) (cap' - (a + 1)) (intsV ((x :: l).drop (a + 1))) rfl hl2 (H2.out _ t1) H2o.out (by simp [maxLen]; omega) (by omega) (Nat.zero_le _) ?_; intro v2 w2 hown2 hg2 _ hloc2; have t2 : Touch [] w w2 := t1.grownBy hg2 (fun j hj => by rcases hloc1 with h | h; (rw [h] at hj; simp [Value.ownBlock] at hj); (rw [h] at hj; cases hj; exact .inr (Nat.le_refl _))); have c2 := t2.cell c0 (by simp); have d2 := t2.cell e4 (by simp); have f2 : w2.frozen? ⟨g, j * 5 + 4, none⟩ = false := (World.frozen?_of_block (w' := w2) (w := w) (t2.block g hgl (by simp))).trans fg; obtain ⟨A2, cp2, rfl⟩ := own_slice' hown2))
    have hfin := ref_put HB.out.1 HB.out.2.1 HB.out.2.2.1 HB.out.2.2.2.1 HB.out.2.2.2.2.1 HB.out.2.2.2.2.2.1 HL.out HB.out.2.2.2.2.2.2 t2 (l2 := others c (x :: l)) (v2 := .slice A2 (a + (l.length - a)) cp2) (by
      have hlen : (others c (x :: l)).length = a + (l.length - a) := by rw [← Hoth.out]; simp; omega
      have he : intsV (others c (x :: l)) = intsV ((x :: l).take a) ++ intsV ((x :: l).drop (a + 1)) := by rw [← Hoth.out]; simp [intsV]
      rw [hlen, he]
      exact hown2) (fun j hj => by
      rcases hloc2 with h | h
      · rcases hloc1 with h' | h'
        · rw [hj, h'] at h; simp [Value.ownBlock] at h
        · rw [hj, h'] at h; cases h; exact Nat.le_refl _
      · rw [hj] at h; cases h; exact t1.size)
    go_wp2
    go_ret2
    exact ⟨rfl, hfin⟩
end Go.Proofs.Ytjmgookpmngmaab
