/- The document's board (ref14): Ask of a flight that is there. -/
import Derived.Test.YtjmgookpmngmaabFlRef2
namespace Go.Proofs.Ytjmgookpmngmaab
open Go Go.RowKit Go.Maps

theorem own_set {w : World} {base n size g cap q : Nat} {e : TypeId} {xs : List Value} (h : w.ownsRow base e size (.slice (some ⟨g, 0, none⟩) n cap) n xs) (u : Value) :
    (w.setCell ⟨g, q, none⟩ u).ownsRow base e size (.slice (some ⟨g, 0, none⟩) n cap) n (xs.set q u) := by
  refine ⟨by rw [List.length_set]; exact h.1, ?_⟩
  rcases h.2 with ⟨h0, _⟩ | ⟨g', cap', cur, h0, hb, hg, h1, h2, h3, h4⟩
  · cases h0
  · cases h0
    refine .inr ⟨g, cap, cur.setIfInBounds q u, rfl, hb, block_set hg u, h1, h2, by simpa using h3, ?_⟩
    rw [← h4, Array.toList_setIfInBounds, List.take_set]

theorem flat_mput (v1 : Value) (l1 : List Int) : ∀ {rs : List (Key × (Value × List Int))} {j : Nat} {r : Key × (Value × List Int)}, (rs.map (·.1)).Nodup → rs[j]? = some r → (mput rs r.1 (v1, l1)).flatMap flC = (rs.flatMap flC).set (j * 5 + 4) v1
  | [], _, _, _, h => by simp at h
  | r0 :: rs, 0, r, _, h => by
    simp at h; subst h
    obtain ⟨k0, v0, l0⟩ := r0
    simp only [mput, if_true, List.flatMap_cons]
    rfl
  | r0 :: rs, j + 1, r, hn, h => by
    simp only [List.map_cons, List.nodup_cons] at hn
    have hr : rs[j]? = some r := by simpa using h
    have hne : ¬ r0.1 = r.1 := fun e => hn.1 (by rw [e]; exact List.mem_map.2 ⟨r, List.mem_of_getElem? hr, rfl⟩)
    have ih := flat_mput v1 l1 hn.2 hr
    obtain ⟨k0, v0, l0⟩ := r0
    simp only [mput, if_neg hne, List.flatMap_cons, ih]
    rw [List.set_append_right _ _ (by simp [flC]; omega)]
    congr 2
    simp [flC]; omega
theorem mput_length_at {K α : Type} [DecidableEq K] {rs : List (K × α)} {j : Nat} {r : K × α} (hn : (rs.map (·.1)).Nodup) (h : rs[j]? = some r) (v : α) : (mput rs r.1 v).length = rs.length :=
  mput_length_has (mem_mget hn (List.mem_of_getElem? h))

set_option maxHeartbeats 1600000 in
theorem rAsk_old {w : World} {pr : Nat} {F : List Nat} {L : List (Key × List Int)} (h : RBR w pr F L) (k : Key) (c : Int) (hc : ¬ c < 0) (hn : L.length < 1000000) (hl : ∀ p ∈ L, p.2.length < 1000000) (hno : ∀ p ∈ L, c ∉ p.2) {l : List Int} (hk : mget L k = some l) (hLn : (L.map (·.1)).Nodup) :
    Calls Try.prog 17 #[.pointer (some ⟨pr, 0, none⟩), .agg #[.string k.db, .string k.role, .int .i64 k.format, .string k.norm], .int .i64 c] w fun e w' =>
      e = .returned (.tuple #[.bool false, .int .i64 0]) ∧ RMoved w w' pr F (mput L k (l ++ [c])) := by
  have tb : Touch [] w (boxR w k) := (Touch.refl _ _).alloc _
  have hb := h.kept tb (by simp)
  obtain ⟨k0, k1, k2, k3⟩ := boxR_cells w k
  unfold boxR at tb hb k0 k1 k2 k3
  have Hno := Lib.hid hno; have Hk := Lib.hid hk; have HL := Lib.hid hLn; have Hl := Lib.hid hl
  clear hno hk h hLn
  go_enter Try.func17, Try.ntmps17
  go_wp2_with fail
  generalize w.heap.size = kk at k0 k1 k2 k3 ⊢
  generalize w.alloc (.cells #[.string k.db, .string k.role, .int .i64 k.format, .string k.norm] 53) = V at *
  refine (of_any hb c hn hl).mono ?_
  rintro e w1 ⟨r, rfl, hr, rfl⟩
  have hr0 : r = -1 := by
    rcases hr with ⟨h, _⟩ | ⟨j, p, _, hj, hp⟩
    · exact h
    · exact absurd hp (Hno.out p (List.mem_of_getElem? hj))
  subst hr0
  go_wp2_with fail
  refine (find_any hb k hn).mono ?_
  rintro e w1 ⟨r, rfl, hr2, t1⟩
  obtain ⟨j, p, rfl, hj, hpk⟩ : ∃ (j : Nat) (p : Key × List Int), r = j ∧ L[j]? = some p ∧ p.1 = k := by
    rcases hr2 with ⟨_, h⟩ | h
    · exact absurd rfl (h _ (mget_mem Hk.out))
    · exact h
  have hb1 := hb.kept t1 (by simp)
  have t2 := tb.trans t1 (by simp)
  have hpl : p = (k, l) := by
    have h1 : mget L p.1 = some p.2 := mem_mget HL.out (List.mem_of_getElem? hj)
    rw [hpk, Hk.out] at h1
    cases h1
    rw [← hpk]
  subst hpl
  clear hr hr2 hb k0 k1 k2 k3 hpk
  go_wp2_with fail
  have hb2 : RBR w1.drew pr F L := hb1.kept ((Touch.refl [] w1).drew) (by simp)
  have t3 : Touch [] w w1.drew := t2.drew
  have hb2' := hb2
  obtain ⟨v, rs, g1, g2, g3, h4, hF, hnd⟩ := hb2'
  have c0 : w1.drew.cell? ⟨pr, 0, none⟩ = some v := by rw [cell_of g1]; rfl
  have hjr := hj
  rw [h4, List.getElem?_map, Option.map_eq_some_iff] at hjr
  obtain ⟨q, hq, hqe⟩ := hjr
  obtain ⟨qk, qv, ql⟩ := q
  simp only [Prod.mk.injEq] at hqe
  obtain ⟨rfl, rfl⟩ := hqe
  obtain ⟨g, cap, rfl, _, _, _, _, e4⟩ := flat_cells g2 hq
  simp only at e4
  have hjl := (List.getElem?_eq_some_iff.1 hq).1
  have hown := g3 _ (List.mem_of_getElem? hq)
  simp only at hown
  obtain ⟨B, cp, rfl⟩ := own_slice' hown
  have hp1 : pr < w1.heap.size := heap_lt g1
  have hgl : g < w1.heap.size := World.block_lt_of_cell? w1.drew _ e4
  obtain ⟨i0, hi0, hz0, hz1, hz2⟩ := info_parts infoI
  have hll : ql.length < 1000000 := Hl.out _ (List.mem_of_getElem? hj)
  have hlrs : rs.length < 1000000 := by rw [h4] at hn; simpa using hn
  have T2 : Touch [] w1.drew (w1.drew.alloc (.cells #[.int .i64 c] 3)) := (Touch.refl _ _).alloc _
  have Hown := Lib.hid (own_touch hown T2 (by simp))
  have Hnews : Hid (∀ j u, [Value.int .i64 c][j]? = some u → (w1.drew.alloc (.cells #[.int .i64 c] 3)).cell? ((⟨w1.heap.size, 0, none⟩ : Addr).add j) = some u) := Lib.hid (news_of (cs := #[.int .i64 c]) (t := 3) (fr := (0, 0)) (heap_alloc_new w1.drew _))
  have hF0 := hF
  have hrb := hnd
  rw [hF] at hrb
  simp only [Value.ownBlock, List.nodup_cons, List.mem_append, Option.mem_toList, not_or, List.nodup_append, Option.some.injEq] at hrb
  obtain ⟨⟨n1, n2⟩, n3, n4, n5⟩ := hrb
  have hgB : ∀ i, (Value.slice B ql.length cp).ownBlock = some i → i ≠ g ∧ i ≠ pr := fun i hi => by
    have hm : i ∈ rowBlocks rs := mem_rowBlocks.2 ⟨_, List.mem_of_getElem? hq, hi⟩
    exact ⟨fun e => n5 g rfl i hm e.symm, fun e => n2 (e ▸ hm)⟩
  have fg : w1.drew.frozen? ⟨g, j * 5 + 4, none⟩ = false := by
    rcases g2.2 with ⟨h0, _⟩ | ⟨g', cap', cur, h0, _, hg, _⟩
    · cases h0
    · cases h0; exact frozen_of hg _
  have Tnext : Hid (∀ w5 : World, (w1.drew.alloc (.cells #[.int .i64 c] 3)).grownBy w5 (Value.slice B ql.length cp).ownBlock → w5.cell? ⟨pr, 0, none⟩ = some (.slice (some ⟨g, 0, none⟩) rs.length cap) ∧ w5.cell? ⟨g, j * 5 + 4, none⟩ = some (.slice B ql.length cp) ∧ w5.frozen? ⟨g, j * 5 + 4, none⟩ = false) := Lib.hid (fun w5 hg => by
    have hT2 := (T2.mono (S' := (Value.slice B ql.length cp).ownBlock.toList) (by simp)).grownBy hg (fun i hi => .inl (by simp [hi]))
    have hpB : pr ∉ (Value.slice B ql.length cp).ownBlock.toList := fun h => (hgB pr (by simpa using h)).2 rfl
    have hgB2 : g ∉ (Value.slice B ql.length cp).ownBlock.toList := fun h => (hgB g (by simpa using h)).1 rfl
    exact ⟨hT2.cell c0 hpB, hT2.cell e4 hgB2, (World.frozen?_of_block (w' := w5) (w := w1.drew) (hT2.block g hgl hgB2)).trans fg⟩)
  have Hfin : Hid (∀ (A1 : Option Addr) (cp1 : Nat) (w5 : World), (w1.alloc (.cells #[.int .i64 c] 3)).drew.grownBy w5 (Value.slice B ql.length cp).ownBlock →
      w5.ownsRow 0 3 1 (.slice A1 (ql.length + 1) cp1) (ql.length + 1) (intsV ql ++ [.int .i64 c]) →
      ((Value.slice A1 (ql.length + 1) cp1).ownBlock = (Value.slice B ql.length cp).ownBlock ∨ (Value.slice A1 (ql.length + 1) cp1).ownBlock = some (w1.heap.size + 1)) →
      RMoved w (w5.setCell ⟨g, j * 5 + 4, none⟩ (.slice A1 (ql.length + 1) cp1)) pr F (mput L qk (ql ++ [c]))) := Lib.hid (fun A1 cp1 w5 hgr hown5 hloc => by
    have hrn : (rs.map (·.1)).Nodup := by
      have := HL.out
      rw [h4] at this
      simpa [List.map_map, Function.comp_def] using this
    have hlt := hb2.lt
    have hrlt : ∀ i ∈ rowBlocks rs, i < w1.heap.size := fun i hi => hlt i (by rw [hF0]; simp [hi])
    have T4 : Touch [] w1 ((w1.alloc (.cells #[.int .i64 c] 3)).drew) := ((Touch.refl _ _).alloc _).drew
    have T5 : Touch (Value.slice B ql.length cp).ownBlock.toList w1 w5 := (T4.mono (by simp)).grownBy hgr (fun i hi => .inl (by simp [hi]))
    have T6 : Touch (g :: (Value.slice B ql.length cp).ownBlock.toList) w1 (w5.setCell ⟨g, j * 5 + 4, none⟩ (.slice A1 (ql.length + 1) cp1)) := (T5.mono (by intro i hi; simp [hi])).setCell _ (.inl (by simp))
    have hv1 : ∀ i, (Value.slice A1 (ql.length + 1) cp1).ownBlock = some i → (Value.slice B ql.length cp).ownBlock = some i ∨ i = w1.heap.size + 1 := fun i hi => by
      rcases hloc with h | h
      · exact .inl (by rw [← h, hi])
      · rw [hi] at h; cases h; exact .inr rfl
    have hgetv : (mget rs qk).getD (.slice none 0 0, []) = (.slice B ql.length cp, ql) := by rw [mem_mget hrn (List.mem_of_getElem? hq)]; rfl
    obtain ⟨m1, m2⟩ := rowBlocks_mput (N := w1.heap.size) qk (.slice A1 (ql.length + 1) cp1) (ql ++ [c]) rs n4 hrlt (fun i hi => by
      rw [hgetv]
      rcases hv1 i hi with h | h
      · exact .inl h
      · exact .inr (by omega))
    have hgn : ∀ i ∈ rowBlocks (mput rs qk (.slice A1 (ql.length + 1) cp1, ql ++ [c])), i ≠ g ∧ i ≠ pr := fun i hi => by
      rcases m2 i hi with h | ⟨_, h⟩
      · exact ⟨fun e => n5 g rfl i h e.symm, fun e => n2 (e ▸ h)⟩
      · exact ⟨by omega, by omega⟩
    have hg5 : w5.ownsRow 0 69 5 (.slice (some ⟨g, 0, none⟩) rs.length cap) rs.length (rs.flatMap flC) := own_touch (w := w1) g2 T5 (fun i hi => by
      simp only [Value.ownBlock, Option.some.injEq] at hi
      subst hi
      intro hm; exact (hgB g (by simpa using hm)).1 rfl)
    refine ⟨pr :: ((Value.slice (some ⟨g, 0, none⟩) rs.length cap).ownBlock.toList ++ rowBlocks (mput rs qk (.slice A1 (ql.length + 1) cp1, ql ++ [c]))), ⟨.slice (some ⟨g, 0, none⟩) rs.length cap, mput rs qk (.slice A1 (ql.length + 1) cp1, ql ++ [c]), ?_, ?_, ?_, ?_, rfl, ?_⟩, ?_, ?_⟩
    · exact (T6.block pr hp1 (by simp only [List.mem_cons, Option.mem_toList, not_or]; exact ⟨fun e => n1 e.symm, fun h => (hgB pr h).2 rfl⟩)).trans g1
    · have h1 := mput_length_at hrn hq (Value.slice A1 (ql.length + 1) cp1, ql ++ [c])
      have h2 := flat_mput (.slice A1 (ql.length + 1) cp1) (ql ++ [c]) hrn hq
      simp only at h1 h2
      rw [h1, h2]
      exact own_set hg5 _
    · intro r hr
      rcases mput_mem' hrn hr with rfl | ⟨hr', hne⟩
      · exact own_touch (by simpa [intsV] using hown5) ((Touch.refl [g] w5).setCell (a := ⟨g, j * 5 + 4, none⟩) (.slice A1 (ql.length + 1) cp1) (.inl (by simp))) (fun i hi => by
          have := (hgn i (mem_rowBlocks.2 ⟨_, hr, hi⟩)).1
          simpa using this)
      · exact own_touch (w := w1) (g3 r hr') T6 (fun i hi => by
          have hm : i ∈ rowBlocks rs := mem_rowBlocks.2 ⟨r, hr', hi⟩
          simp only [List.mem_cons, Option.mem_toList, not_or]
          refine ⟨fun e => n5 g rfl i hm e.symm, fun e => ?_⟩
          exact hne (congrArg Prod.fst (rowBlocks_inj n4 hr' (List.mem_of_getElem? hq) hi e)))
    · rw [h4]
      exact mput_map (fun r : Value × List Int => r.2) rs qk (.slice A1 (ql.length + 1) cp1, ql ++ [c])
    · simp only [Value.ownBlock, Option.toList, List.cons_append, List.nil_append, List.nodup_cons, List.mem_cons, not_or]
      exact ⟨⟨fun e => n1 e.symm, fun h => (hgn pr h).2 rfl⟩, fun h => (hgn g h).1 rfl, m1⟩
    · rw [hF0]
      have t3' : Touch (pr :: ((Value.slice (some ⟨g, 0, none⟩) rs.length cap).ownBlock.toList ++ rowBlocks rs)) w w1 := t2.mono (by simp)
      refine t3'.trans T6 (fun i hi => .inl ?_)
      simp only [List.mem_cons, Option.mem_toList] at hi
      simp only [Value.ownBlock, Option.toList, List.cons_append, List.nil_append, List.mem_cons]
      rcases hi with h | h
      · exact .inr (.inl h)
      · exact .inr (.inr (mem_rowBlocks.2 ⟨_, List.mem_of_getElem? hq, h⟩))
    · intro i hi
      rw [hF0]
      simp only [Value.ownBlock, Option.toList, List.cons_append, List.nil_append, List.mem_cons] at hi ⊢
      have hsz : w.heap.size ≤ w1.heap.size := t2.size
      rcases hi with h | h | h
      · exact .inl (.inl h)
      · exact .inl (.inr (.inl h))
      · rcases m2 i h with h | ⟨_, h⟩
        · exact .inl (.inr (.inr h))
        · exact .inr (by omega))
  have e4w : w1.cell? ⟨g, j * 5 + 4, none⟩ = some (.slice B ql.length cp) := e4
  have c0w : w1.cell? ⟨pr, 0, none⟩ = some (.slice (some ⟨g, 0, none⟩) rs.length cap) := c0
  clear hF hF0 h4
  go_region_law (refine step_append_at rfl _ _ 37 rfl 0 3 i0 (.int .i64 0) 1 8 Try.underlying37 hi0 hz0 hz1 hz2 rfl (by decide) (.slice B ql.length cp) ql.length (intsV ql) rfl Hown.out ⟨w1.heap.size, 0, none⟩ 1 1 [.int .i64 c] rfl rfl Hnews.out (by simp [Value.oneCell']) (by simp [maxLen]; omega) (by omega) (Nat.zero_le _) ?_; intro v1 w5 hown5 hgr hloc; obtain ⟨cw5, dw5, fw5⟩ := Tnext.out w5 hgr; obtain ⟨A1, cp1, rfl⟩ := own_slice' hown5)
  all_goals
    have hfin := Hfin.out A1 cp1 w5 hgr hown5 (by simpa using hloc)
    go_wp2
    go_ret2
    exact ⟨rfl, hfin⟩
end Go.Proofs.Ytjmgookpmngmaab
