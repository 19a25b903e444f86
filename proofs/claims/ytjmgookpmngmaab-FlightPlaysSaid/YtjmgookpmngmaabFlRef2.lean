/- The document's board (ref14): what turns it. -/
import Derived.Test.YtjmgookpmngmaabFlRef
import Derived.Maps.AppendAt
import Derived.Deep.RegionLaw
namespace Go.Proofs.Ytjmgookpmngmaab
open Go Go.RowKit Go.Maps

/-- What a call leaves of the document's board. -/
def RMoved (w w' : World) (pr : Nat) (F : List Nat) (L' : List (Key × List Int)) : Prop := ∃ F', RBR w' pr F' L' ∧ Touch F w w' ∧ ∀ i ∈ F', i ∈ F ∨ w.heap.size ≤ i
theorem RMoved.same {w w' : World} {pr : Nat} {F : List Nat} {L : List (Key × List Int)} (h : RBR w pr F L) (t : Touch [] w w') : RMoved w w' pr F L := ⟨F, h.kept t (by simp), t.mono (by simp), fun _ hi => .inl hi⟩

theorem infoF : (Try.prog.info? 69).map (fun i => (i.zero, i.size, i.bytes)) = some (some (.agg #[.string ⟨#[]⟩, .string ⟨#[]⟩, .int .i64 0, .string ⟨#[]⟩, .slice none 0 0]), 5, 80) := by kernel_rfl

set_option maxHeartbeats 1600000 in
theorem rAsk_new {w : World} {pr : Nat} {F : List Nat} {L : List (Key × List Int)} (h : RBR w pr F L) (k : Key) (c : Int) (hc : ¬ c < 0) (hn : L.length < 1000000) (hl : ∀ p ∈ L, p.2.length < 1000000) (hno : ∀ p ∈ L, c ∉ p.2) (hk : mget L k = none) :
    Calls Try.prog 17 #[.pointer (some ⟨pr, 0, none⟩), .agg #[.string k.db, .string k.role, .int .i64 k.format, .string k.norm], .int .i64 c] w fun e w' =>
      e = .returned (.tuple #[.bool true, .int .i64 0]) ∧ RMoved w w' pr F (L ++ [(k, [c])]) := by
  have tb : Touch [] w (boxR w k) := (Touch.refl _ _).alloc _
  have hb := h.kept tb (by simp)
  obtain ⟨k0, k1, k2, k3⟩ := boxR_cells w k
  have hkk : w.heap.size < (boxR w k).heap.size := by simp [boxR]
  unfold boxR at tb hb k0 k1 k2 k3 hkk
  have Hno := Lib.hid hno; have Hk := Lib.hid hk
  clear hno hk h
  go_enter Try.func17, Try.ntmps17
  go_wp2_with fail
  generalize w.heap.size = kk at k0 k1 k2 k3 hkk ⊢
  generalize w.alloc (.cells #[.string k.db, .string k.role, .int .i64 k.format, .string k.norm] 53) = V at *
  refine (of_any hb c hn hl).mono ?_
  rintro e w1 ⟨r, rfl, hr, rfl⟩
  have hr0 : r = -1 := by
    rcases hr with ⟨h, _⟩ | ⟨j, p, _, hj, hp⟩
    · exact h
    · exact absurd hp (Hno.out p (List.mem_of_getElem? hj))
  subst hr0
  go_wp2_with fail
  refine (find_any hb k hn).mono ?_
  rintro e w1 ⟨r, rfl, hr2, t1⟩
  have hr0 : r = -1 := by
    rcases hr2 with ⟨h, _⟩ | ⟨j, p, _, hj, hp⟩
    · exact h
    · exact absurd hp (mget_none.1 Hk.out p (List.mem_of_getElem? hj))
  subst hr0
  have hb1 := hb.kept t1 (by simp)
  have t2 := tb.trans t1 (by simp)
  have k0 := t1.cell k0 (by simp); have k1 := t1.cell k1 (by simp); have k2 := t1.cell k2 (by simp); have k3 := t1.cell k3 (by simp)
  obtain ⟨v, rs, h1, h2, h3, h4, hF, hnd⟩ := hb1
  have c0 : w1.cell? ⟨pr, 0, none⟩ = some v := by rw [cell_of h1]; rfl
  clear hr hr2 hb
  go_wp2_with fail
  have hb2 : RBR w1.drew pr F L := RBR.kept ⟨v, rs, h1, h2, h3, h4, hF, hnd⟩ ((Touch.refl [] w1).drew) (by simp)
  have t3 : Touch [] w w1.drew := t2.drew
  have k0 := ((Touch.refl [] w1).drew).cell k0 (by simp); have k1 := ((Touch.refl [] w1).drew).cell k1 (by simp); have k2 := ((Touch.refl [] w1).drew).cell k2 (by simp); have k3 := ((Touch.refl [] w1).drew).cell k3 (by simp)
  have c0 := ((Touch.refl [] w1).drew).cell c0 (by simp)
  have g1 : w1.drew.heap[pr]? = some (.cells #[v] 49 (0, 0)) := h1
  have g2 := own_touch h2 ((Touch.refl [] w1).drew) (by simp)
  clear h1 h2 t1 t2
  have hk1 : kk < w1.heap.size := World.block_lt_of_cell? w1.drew _ k0
  have hp1 : pr < w1.heap.size := heap_lt g1
  have fp := frozen_of g1 0
  obtain ⟨i0, hi0, hz0, hz1, hz2⟩ := info_parts infoF
  have T2 : Touch [] w1.drew ((w1.drew.alloc (.cells #[.int .i64 c] 3)).alloc (.cells #[.string k.db, .string k.role, .int .i64 k.format, .string k.norm, .slice (some ⟨w1.heap.size, 0, none⟩) 1 1] 69)) := ((Touch.refl _ _).alloc _).alloc _
  have Hown := Lib.hid (own_touch g2 T2 (by simp))
  have Hnews : Hid (∀ j u, [Value.string k.db, .string k.role, .int .i64 k.format, .string k.norm, .slice (some ⟨w1.heap.size, 0, none⟩) 1 1][j]? = some u → ((w1.drew.alloc (.cells #[.int .i64 c] 3)).alloc (.cells #[.string k.db, .string k.role, .int .i64 k.format, .string k.norm, .slice (some ⟨w1.heap.size, 0, none⟩) 1 1] 69)).cell? ((⟨w1.heap.size + 1, 0, none⟩ : Addr).add j) = some u) := Lib.hid (news_of (cs := #[.string k.db, .string k.role, .int .i64 k.format, .string k.norm, .slice (some ⟨w1.heap.size, 0, none⟩) 1 1]) (t := 69) (fr := (0, 0)) (by
      have := heap_alloc_new (w1.drew.alloc (.cells #[.int .i64 c] 3)) (.cells #[.string k.db, .string k.role, .int .i64 k.format, .string k.norm, .slice (some ⟨w1.heap.size, 0, none⟩) 1 1] 69)
      simpa using this))
  have Hone : Hid (∀ u ∈ [Value.string k.db, .string k.role, .int .i64 k.format, .string k.norm, .slice (some ⟨w1.heap.size, 0, none⟩) 1 1], u.oneCell' = true) := Lib.hid (by simp [Value.oneCell'])
  have hlrs : rs.length < 1000000 := by rw [h4] at hn; simpa using hn
  have Tnext : Hid (∀ w5 : World, ((w1.drew.alloc (.cells #[.int .i64 c] 3)).alloc (.cells #[.string k.db, .string k.role, .int .i64 k.format, .string k.norm, .slice (some ⟨w1.heap.size, 0, none⟩) 1 1] 69)).grownBy w5 v.ownBlock → w5.cell? ⟨pr, 0, none⟩ = some v ∧ w5.frozen? ⟨pr, 0, none⟩ = false) := Lib.hid (fun w5 hg => by
    have hT := T2.mono (S' := v.ownBlock.toList) (by simp)
    have hT2 := hT.grownBy hg (fun i hi => .inl (by simp [hi]))
    have hprv : pr ∉ v.ownBlock.toList := by
      rw [hF] at hnd
      simp only [List.nodup_cons, List.mem_append, not_or] at hnd
      exact hnd.1.1
    have hb := hT2.block pr hp1 hprv
    exact ⟨(World.cell?_of_block (w' := w5) (w := w1.drew) hb).trans c0, (World.frozen?_of_block (w' := w5) (w := w1.drew) hb).trans fp⟩)
  have Hfin : Hid (∀ (A1 : Option Addr) (cp1 : Nat) (w5 : World), ((w1.alloc (.cells #[.int .i64 c] 3)).alloc (.cells #[.string k.db, .string k.role, .int .i64 k.format, .string k.norm, .slice (some ⟨w1.heap.size, 0, none⟩) 1 1] 69)).drew.grownBy w5 v.ownBlock →
      w5.ownsRow 0 69 5 (.slice A1 (rs.length + 1) cp1) (rs.length + 1) (rs.flatMap flC ++ [.string k.db, .string k.role, .int .i64 k.format, .string k.norm, .slice (some ⟨w1.heap.size, 0, none⟩) 1 1]) →
      ((Value.slice A1 (rs.length + 1) cp1).ownBlock = v.ownBlock ∨ (Value.slice A1 (rs.length + 1) cp1).ownBlock = some (w1.heap.size + 2)) →
      RMoved w (w5.setCell ⟨pr, 0, none⟩ (.slice A1 (rs.length + 1) cp1)) pr F (L ++ [(k, [c])])) := Lib.hid (fun A1 cp1 w5 hgr hown5 hloc => by
    have hF0 := hF
    rw [hF] at hnd
    have hrb := hnd
    simp only [List.nodup_cons, List.mem_append, Option.mem_toList, not_or, List.nodup_append] at hrb
    obtain ⟨⟨n1, n2⟩, n3, n4, n5⟩ := hrb
    have hlt := hb2.lt
    rw [hF] at hlt
    have hvlt : ∀ i, v.ownBlock = some i → i < w1.heap.size := fun i hi => hlt i (by simp [hi])
    have hrlt : ∀ i ∈ rowBlocks rs, i < w1.heap.size := fun i hi => hlt i (by simp [hi])
    have T4 : Touch [] w1.drew ((w1.alloc (.cells #[.int .i64 c] 3)).alloc (.cells #[.string k.db, .string k.role, .int .i64 k.format, .string k.norm, .slice (some ⟨w1.heap.size, 0, none⟩) 1 1] 69)).drew := T2
    have T5 : Touch v.ownBlock.toList w1.drew w5 := (T4.mono (by simp)).grownBy hgr (fun i hi => .inl (by simp [hi]))
    have T6 : Touch (pr :: v.ownBlock.toList) w1.drew (w5.setCell ⟨pr, 0, none⟩ (.slice A1 (rs.length + 1) cp1)) := (T5.mono (by intro i hi; simp [hi])).setCell _ (.inl (by simp))
    have T6w : Touch (pr :: v.ownBlock.toList) w1 (w5.setCell ⟨pr, 0, none⟩ (.slice A1 (rs.length + 1) cp1)) := ((Touch.refl _ w1).drew).trans T6 (fun i hi => .inl hi)
    have b5 : w5.heap[pr]? = some (.cells #[v] 49 (0, 0)) := (T5.block pr hp1 (by simpa using n1)).trans g1
    have hv1 : ∀ i, (Value.slice A1 (rs.length + 1) cp1).ownBlock = some i → v.ownBlock = some i ∨ i = w1.heap.size + 2 := fun i hi => by
      rcases hloc with h | h
      · exact .inl (by rw [← h, hi])
      · rw [hi] at h; cases h; exact .inr rfl
    have hnew : ((w1.alloc (.cells #[.int .i64 c] 3)).alloc (.cells #[.string k.db, .string k.role, .int .i64 k.format, .string k.norm, .slice (some ⟨w1.heap.size, 0, none⟩) 1 1] 69)).heap[w1.heap.size]? = some (.cells #[.int .i64 c] 3 (0, 0)) :=
      (RowKit.Below.heap_alloc _ _ _ (by simp)).trans (heap_alloc_new w1 _)
    have hnew6 : (w5.setCell ⟨pr, 0, none⟩ (.slice A1 (rs.length + 1) cp1)).heap[w1.heap.size]? = some (.cells #[.int .i64 c] 3 (0, 0)) := by
      rw [RowKit.Below.heap_setCell _ _ _ _ (by simp; omega)]
      exact (hgr.block w1.heap.size (by simp; omega) (fun e => by have := hvlt _ e.symm; omega)).trans hnew
    refine ⟨pr :: ((Value.slice A1 (rs.length + 1) cp1).ownBlock.toList ++ rowBlocks (rs ++ [(k, (.slice (some ⟨w1.heap.size, 0, none⟩) 1 1, [c]))])), ⟨.slice A1 (rs.length + 1) cp1, rs ++ [(k, (.slice (some ⟨w1.heap.size, 0, none⟩) 1 1, [c]))], ?_, ?_, ?_, ?_, rfl, ?_⟩, ?_, ?_⟩
    · exact block_set b5 _
    · have := own_touch hown5 ((Touch.refl [pr] w5).setCell (a := ⟨pr, 0, none⟩) (.slice A1 (rs.length + 1) cp1) (.inl (by simp))) (fun i hi => by
        simp only [List.mem_singleton]
        rcases hv1 i hi with h | h
        · exact fun e => n1 (by rw [← e]; exact h)
        · omega)
      simpa [flC] using this
    · intro r hr
      rcases List.mem_append.1 hr with hr | hr
      · exact own_touch (h3 r hr) T6w (fun i hi => by
          have hm : i ∈ rowBlocks rs := mem_rowBlocks.2 ⟨r, hr, hi⟩
          simp only [List.mem_cons, Option.mem_toList, not_or]
          exact ⟨fun e => n2 (e ▸ hm), fun e => n5 i e i hm rfl⟩)
      · simp only [List.mem_singleton] at hr
        subst hr
        exact ⟨rfl, .inr ⟨w1.heap.size, 1, #[.int .i64 c], rfl, Nat.zero_le _, hnew6, Nat.le_refl _, by decide, rfl, rfl⟩⟩
    · simp [h4]
    · have hrows : rowBlocks (rs ++ [(k, (.slice (some ⟨w1.heap.size, 0, none⟩) 1 1, [c]))]) = rowBlocks rs ++ [w1.heap.size] := by
        simp [rowBlocks, List.filterMap_append, Value.ownBlock]
      rw [hrows]
      simp only [List.nodup_cons, List.mem_append, Option.mem_toList, not_or, List.nodup_append, List.mem_singleton]
      refine ⟨⟨fun h => ?_, n2, by omega⟩, ?_, ⟨n4, by simp, fun a ha b hb e => by subst hb; subst e; have := hrlt _ ha; omega⟩, fun a ha b hb e => ?_⟩
      · rcases hv1 _ h with h | h
        · exact n1 h
        · omega
      · cases (Value.slice A1 (rs.length + 1) cp1).ownBlock <;> simp
      · subst e
        rcases hv1 a ha with h | h
        · rcases hb with hb | hb
          · exact n5 a h a hb rfl
          · have := hvlt a h; omega
        · rcases hb with hb | hb
          · have := hrlt a hb; omega
          · omega
    · rw [hF0]
      have t3' : Touch (pr :: (v.ownBlock.toList ++ rowBlocks rs)) w w1.drew := t3.mono (by simp)
      exact t3'.trans T6 (fun i hi => .inl (by simp only [List.mem_cons, List.mem_append] at hi ⊢; rcases hi with h | h; exact .inl h; exact .inr (.inl h)))
    · intro i hi
      rw [hF0]
      have hrows : rowBlocks (rs ++ [(k, (.slice (some ⟨w1.heap.size, 0, none⟩) 1 1, [c]))]) = rowBlocks rs ++ [w1.heap.size] := by
        simp [rowBlocks, List.filterMap_append, Value.ownBlock]
      rw [hrows] at hi
      simp only [List.mem_cons, List.mem_append, Option.mem_toList, List.not_mem_nil, or_false] at hi ⊢
      have hsz : w.heap.size ≤ w1.heap.size := t3.size
      rcases hi with h | h | h | h
      · exact .inl (.inl h)
      · rcases hv1 i h with h | h
        · exact .inl (.inr (.inl h))
        · exact .inr (by omega)
      · exact .inl (.inr (.inr h))
      · exact .inr (by omega))
  go_region_law (refine step_append_at rfl _ _ 47 rfl 0 69 i0 _ 5 80 Try.underlying47 hi0 hz0 hz1 hz2 rfl (by decide) v rs.length (rs.flatMap flC) rfl Hown.out ⟨w1.heap.size + 1, 0, none⟩ 1 1 [.string k.db, .string k.role, .int .i64 k.format, .string k.norm, .slice (some ⟨w1.heap.size, 0, none⟩) 1 1] rfl rfl Hnews.out Hone.out (by simp [maxLen]; omega) (by omega) (Nat.zero_le _) ?_; intro v1 w5 hown5 hgr hloc; obtain ⟨cw5, fw5⟩ := Tnext.out w5 hgr; obtain ⟨A1, cp1, rfl⟩ := own_slice' hown5)
  all_goals
    have hfin := Hfin.out A1 cp1 w5 hgr hown5 (by simpa using hloc)
    go_wp2
    go_ret2
    exact ⟨rfl, hfin⟩
end Go.Proofs.Ytjmgookpmngmaab
