/- The document's board (ref14): drop, Land, Leave. -/
import Derived.Test.YtjmgookpmngmaabFlRef3
namespace Go.Proofs.Ytjmgookpmngmaab
open Go Go.RowKit Go.Maps

theorem map_eraseIdx' {α β : Type} (f : α → β) : ∀ (l : List α) (i : Nat), (l.map f).eraseIdx i = (l.eraseIdx i).map f
  | [], _ => rfl
  | _ :: _, 0 => rfl
  | a :: l, i + 1 => by simp [map_eraseIdx' f l i]
theorem flat_append (a b : List (Key × (Value × List Int))) : (a ++ b).flatMap flC = a.flatMap flC ++ b.flatMap flC := List.flatMap_append
theorem flat_take {rs : List (Key × (Value × List Int))} {i j : Nat} {u : Value} (h : ((rs.take i).flatMap flC)[j]? = some u) : (rs.flatMap flC)[j]? = some u := by
  have e : rs.flatMap flC = (rs.take i).flatMap flC ++ (rs.drop i).flatMap flC := by rw [← flat_append, List.take_append_drop]
  rw [e, List.getElem?_append_left (List.getElem?_eq_some_iff.1 h).1, h]
theorem flat_drop {rs : List (Key × (Value × List Int))} {i j : Nat} {u : Value} (hi : i ≤ rs.length) (h : ((rs.drop i).flatMap flC)[j]? = some u) : (rs.flatMap flC)[i * 5 + j]? = some u := by
  have e : rs.flatMap flC = (rs.take i).flatMap flC ++ (rs.drop i).flatMap flC := by rw [← flat_append, List.take_append_drop]
  have hl : ((rs.take i).flatMap flC).length = i * 5 := by rw [flat_length, List.length_take, Nat.min_eq_left hi]
  rw [e, List.getElem?_append_right (by rw [hl]; omega), hl]
  rw [show i * 5 + j - i * 5 = j by omega, h]
theorem flat_one {w : World} {rs : List (Key × (Value × List Int))} (h : ∀ r ∈ rs, w.ownsRow 0 3 1 r.2.1 r.2.2.length (intsV r.2.2)) : ∀ u ∈ rs.flatMap flC, u.oneCell' = true := by
  intro u hu
  obtain ⟨r, hr, hur⟩ := List.mem_flatMap.1 hu
  obtain ⟨A, c, hv⟩ := own_slice' (h r hr)
  simp only [flC, List.mem_cons, List.not_mem_nil, or_false] at hur
  rcases hur with rfl | rfl | rfl | rfl | rfl
  · rfl
  · rfl
  · rfl
  · rfl
  · rw [hv]; rfl

set_option maxHeartbeats 1600000 in
theorem drop_any {w : World} {pr : Nat} {F : List Nat} {L : List (Key × List Int)} (h : RBR w pr F L) (i : Nat) (hi : i < L.length) (hn : L.length < 1000000) :
    Calls Try.prog 28 #[.pointer (some ⟨pr, 0, none⟩), .int .i64 i] w fun e w' => e = .returned (.tuple #[]) ∧ ∃ F', RBR w' pr F' (L.eraseIdx i) ∧ Touch [pr] w w' ∧ ∀ j ∈ F', j ∈ F ∨ w.heap.size ≤ j := by
  have hb := h
  obtain ⟨v, rs, h1, h2, h3, h4, hF, hnd⟩ := h
  have c0 : w.cell? ⟨pr, 0, none⟩ = some v := by rw [cell_of h1]; rfl
  have hir : i < rs.length := by rw [h4] at hi; simpa using hi
  obtain ⟨r, hr⟩ : ∃ r, rs[i]? = some r := ⟨_, List.getElem?_eq_getElem hir⟩
  obtain ⟨g, cap, rfl, _⟩ := flat_cells h2 hr
  have hcap : rs.length ≤ cap := by
    rcases h2.2 with ⟨h0, _⟩ | ⟨g', cap', cur, h0, _, _, h5, _⟩
    · cases h0
    · cases h0; exact h5
  have hlrs : rs.length < 1000000 := by rw [h4] at hn; simpa using hn
  have fp := frozen_of h1 0
  obtain ⟨i0, hi0, hz0, hz1, hz2⟩ := info_parts infoF
  have hcells : Hid (∀ w', Touch [] w w' → ∀ j u, (rs.flatMap flC)[j]? = some u → w'.cell? ⟨g, j, none⟩ = some u) := Lib.hid (fun w' t j u hu => by
    have := h2.cells (g := g) rfl j u hu
    have hadd : (⟨g, 0, none⟩ : Addr).add j = ⟨g, j, none⟩ := by unfold Addr.add; split <;> simp_all
    rw [hadd] at this
    exact t.cell this (by simp))
  have hone := Lib.hid (flat_one h3)
  have hl1 : ((rs.take i).flatMap flC).length = i * 5 := by rw [flat_length, List.length_take, Nat.min_eq_left (by omega)]
  have hl2 : ((rs.drop (i + 1)).flatMap flC).length = (rs.length - (i + 1)) * 5 := by rw [flat_length, List.length_drop]
  have H1 : Hid (∀ j u, ((rs.take i).flatMap flC)[j]? = some u → w.cell? ((⟨g, 0, none⟩ : Addr).add j) = some u) := Lib.hid (fun j u hu => by
    have hadd : (⟨g, 0, none⟩ : Addr).add j = ⟨g, j, none⟩ := by unfold Addr.add; split <;> simp_all
    rw [hadd]; exact hcells.out w (Touch.refl _ _) j u (flat_take hu))
  have H1o : Hid (∀ u ∈ (rs.take i).flatMap flC, u.oneCell' = true) := Lib.hid (fun u hu => by
    obtain ⟨j, hj1, hj2⟩ := List.getElem_of_mem hu
    exact hone.out u (List.mem_of_getElem? (flat_take (by rw [List.getElem?_eq_getElem hj1, hj2] : ((rs.take i).flatMap flC)[j]? = some u))))
  have H2o : Hid (∀ u ∈ (rs.drop (i + 1)).flatMap flC, u.oneCell' = true) := Lib.hid (fun u hu => by
    obtain ⟨j, hj1, hj2⟩ := List.getElem_of_mem hu
    exact hone.out u (List.mem_of_getElem? (flat_drop (by omega) (by rw [List.getElem?_eq_getElem hj1, hj2] : ((rs.drop (i + 1)).flatMap flC)[j]? = some u))))
  have q1 : (i : Int) ≤ (cap : Int) := by omega
  have q2 : (i : Int) + 1 ≤ (rs.length : Int) := by omega
  have HB := Lib.hid (And.intro h1 (And.intro h3 (And.intro h4 (And.intro hF hnd))))
  have hpr := heap_lt h1
  have hgl : g < w.heap.size := (h2.lt g rfl).2
  clear h1 h3 h4 hF hnd hb hr
  have Hfin : Hid (∀ (v2 : Value) (w2 : World), Touch [] w w2 → w2.ownsRow 0 69 5 v2 (i + (rs.length - (i + 1))) ((rs.take i).flatMap flC ++ (rs.drop (i + 1)).flatMap flC) → (∀ j, v2.ownBlock = some j → w.heap.size ≤ j) →
      ∃ F', RBR (w2.setCell ⟨pr, 0, none⟩ v2) pr F' (L.eraseIdx i) ∧ Touch [pr] w (w2.setCell ⟨pr, 0, none⟩ v2) ∧ ∀ j ∈ F', j ∈ F ∨ w.heap.size ≤ j) := Lib.hid (fun v2 w2 t2 hown2 hv2 => by
    obtain ⟨h1, h3, h4, hF, hnd⟩ := HB.out
    have t3 : Touch [pr] w (w2.setCell ⟨pr, 0, none⟩ v2) := (t2.mono (by simp)).setCell _ (.inl (by simp))
    have he : rs.eraseIdx i = rs.take i ++ rs.drop (i + 1) := List.eraseIdx_eq_take_drop_succ _ _
    have hlen : (rs.eraseIdx i).length = i + (rs.length - (i + 1)) := by rw [List.length_eraseIdx]; simp [hir]; omega
    have hsub : (rowBlocks (rs.eraseIdx i)).Sublist (rowBlocks rs) := List.Sublist.filterMap _ (List.eraseIdx_sublist _ _)
    rw [hF] at hnd
    simp only [Value.ownBlock, List.nodup_cons, List.mem_append, Option.mem_toList, not_or, List.nodup_append, Option.some.injEq] at hnd
    obtain ⟨⟨n1, n2⟩, n3, n4, n5⟩ := hnd
    have hrlt : ∀ j ∈ rowBlocks rs, j < w.heap.size := fun j hj => by
      obtain ⟨r, hr, hb⟩ := mem_rowBlocks.1 hj
      exact ((h3 r hr).lt j hb).2
    refine ⟨pr :: (v2.ownBlock.toList ++ rowBlocks (rs.eraseIdx i)), ⟨v2, rs.eraseIdx i, ?_, ?_, ?_, ?_, rfl, ?_⟩, t3, ?_⟩
    · exact block_set ((t2.block pr hpr (by simp)).trans h1) v2
    · rw [hlen, he, flat_append]
      exact own_touch hown2 ((Touch.refl [pr] w2).setCell (a := ⟨pr, 0, none⟩) v2 (.inl (by simp))) (fun j hj => by have := hv2 j hj; simp; omega)
    · intro r hr
      have hr' : r ∈ rs := List.mem_of_mem_eraseIdx hr
      exact own_touch (h3 r hr') t3 (fun j hj => by
        simp only [List.mem_singleton]
        exact fun e => n2 (by rw [← e]; exact mem_rowBlocks.2 ⟨r, hr', hj⟩))
    · rw [h4]
      exact map_eraseIdx' _ _ _
    · simp only [List.nodup_cons, List.mem_append, Option.mem_toList, not_or, List.nodup_append]
      refine ⟨⟨fun h => by have := hv2 _ h; omega, fun h => n2 (hsub.subset h)⟩, ?_, hsub.nodup n4, fun a ha b hb e => ?_⟩
      · cases v2.ownBlock <;> simp
      · have := hv2 a ha; have := hrlt b (hsub.subset hb); omega
    · intro j hj
      rw [hF]
      simp only [List.mem_cons, List.mem_append, Option.mem_toList] at hj ⊢
      rcases hj with h | h | h
      · exact .inl (.inl h)
      · exact .inr (hv2 j h)
      · exact .inl (.inr (.inr (hsub.subset h))))
  have H2 : Hid (∀ w', Touch [] w w' → ∀ j u, ((rs.drop (i + 1)).flatMap flC)[j]? = some u → w'.cell? ((⟨g, (i + 1) * 5, none⟩ : Addr).add j) = some u) := Lib.hid (fun w' t j u hu => by
    have hadd : (⟨g, (i + 1) * 5, none⟩ : Addr).add j = ⟨g, (i + 1) * 5 + j, none⟩ := by unfold Addr.add; split <;> simp_all
    rw [hadd]; exact hcells.out w' t _ u (flat_drop (by omega) hu))
  by_cases hce : cap = i + 1
  · subst hce
    have hrl : rs.length = i + 1 := by omega
    go_enter Try.func28, Try.ntmps28
    go_wp2_with (first | (at_builtin; refine wpList_append_own_at _ rfl _ _ 47 rfl 0 69 i0 _ 5 80 Try.underlying47 hi0 hz0 hz1 hz2 rfl (by decide) (.slice none 0 0) 0 [] rfl (World.ownsRow_nil _ _ _ _) ⟨g, 0, none⟩ i (i + 1) ((rs.take i).flatMap flC) rfl hl1 H1.out H1o.out (by simp [maxLen]; omega) (by omega) (Nat.zero_le _) ?_; intro v1 w1 hown1 hg1 _ hloc1; have t1 : Touch [] w w1 := (Touch.refl [] w).grownBy hg1 (fun i hi => by simp [Value.ownBlock] at hi); have c1 := t1.cell c0 (by simp); have f1 : w1.frozen? ⟨pr, 0, none⟩ = false := (World.frozen?_of_block (w' := w1) (w := w) (t1.block pr hpr (by simp))).trans fp; rw [Nat.zero_add, List.nil_append] at hown1; obtain ⟨A1, cp1, rfl⟩ := own_slice' hown1) | (at_builtin; refine wpList_append_own_at _ rfl _ _ 47 rfl 0 69 i0 _ 5 80 Try.underlying47 hi0 hz0 hz1 hz2 rfl (by decide) (.slice A1 i cp1) i ((rs.take i).flatMap flC) rfl hown1 ⟨g, 0, none⟩ 0 0 [] rfl rfl (by simp) (by simp) (by simp [maxLen]; omega) (by omega) (Nat.zero_le _) ?_; intro v2 w2 hown2 hg2 _ hloc2; have t2 : Touch [] w w2 := t1.grownBy hg2 (fun j hj => by rcases hloc1 with h | h; (rw [h] at hj; simp [Value.ownBlock] at hj); (rw [h] at hj; cases hj; exact .inr (Nat.le_refl _))); have c2 := t2.cell c0 (by simp); have f2 : w2.frozen? ⟨pr, 0, none⟩ = false := (World.frozen?_of_block (w' := w2) (w := w) (t2.block pr hpr (by simp))).trans fp; obtain ⟨A2, cp2, rfl⟩ := own_slice' hown2))
    have hv : ∀ j, (Value.slice A2 (i + 0) cp2).ownBlock = some j → w.heap.size ≤ j := fun j hj => by
      rcases hloc2 with h | h
      · rcases hloc1 with h' | h'
        · rw [hj, h'] at h; simp [Value.ownBlock] at h
        · rw [hj, h'] at h; cases h; exact Nat.le_refl _
      · rw [hj] at h; cases h; exact t1.size
    have e0 : i + (rs.length - (i + 1)) = i + 0 := by omega
    have e1 : rs.drop (i + 1) = [] := List.drop_eq_nil_of_le (by omega)
    have hfin := Hfin.out (.slice A2 (i + 0) cp2) w2 t2 (by rw [e0, e1]; exact hown2) hv
    go_end0
    exact ⟨rfl, hfin⟩
  · go_enter Try.func28, Try.ntmps28
    go_wp2_with (first | (at_builtin; refine wpList_append_own_at _ rfl _ _ 47 rfl 0 69 i0 _ 5 80 Try.underlying47 hi0 hz0 hz1 hz2 rfl (by decide) (.slice none 0 0) 0 [] rfl (World.ownsRow_nil _ _ _ _) ⟨g, 0, none⟩ i cap ((rs.take i).flatMap flC) rfl hl1 H1.out H1o.out (by simp [maxLen]; omega) (by omega) (Nat.zero_le _) ?_; intro v1 w1 hown1 hg1 _ hloc1; have t1 : Touch [] w w1 := (Touch.refl [] w).grownBy hg1 (fun i hi => by simp [Value.ownBlock] at hi); have c1 := t1.cell c0 (by simp); have f1 : w1.frozen? ⟨pr, 0, none⟩ = false := (World.frozen?_of_block (w' := w1) (w := w) (t1.block pr hpr (by simp))).trans fp; rw [Nat.zero_add, List.nil_append] at hown1; obtain ⟨A1, cp1, rfl⟩ := own_slice' hown1) | (at_builtin; refine wpList_append_own_at _ rfl _ _ 47 rfl 0 69 i0 _ 5 80 Try.underlying47 hi0 hz0 hz1 hz2 rfl (by decide) (.slice A1 i cp1) i ((rs.take i).flatMap flC) rfl hown1 ⟨g, (i + 1) * 5, none⟩ (rs.length - (i + 1)) (cap - (i + 1)) ((rs.drop (i + 1)).flatMap flC) rfl hl2 (H2.out _ t1) H2o.out (by simp [maxLen]; omega) (by omega) (Nat.zero_le _) ?_; intro v2 w2 hown2 hg2 _ hloc2; have t2 : Touch [] w w2 := t1.grownBy hg2 (fun j hj => by rcases hloc1 with h | h; (rw [h] at hj; simp [Value.ownBlock] at hj); (rw [h] at hj; cases hj; exact .inr (Nat.le_refl _))); have c2 := t2.cell c0 (by simp); have f2 : w2.frozen? ⟨pr, 0, none⟩ = false := (World.frozen?_of_block (w' := w2) (w := w) (t2.block pr hpr (by simp))).trans fp; obtain ⟨A2, cp2, rfl⟩ := own_slice' hown2))
    have hv : ∀ j, (Value.slice A2 (i + (rs.length - (i + 1))) cp2).ownBlock = some j → w.heap.size ≤ j := fun j hj => by
      rcases hloc2 with h | h
      · rcases hloc1 with h' | h'
        · rw [hj, h'] at h; simp [Value.ownBlock] at h
        · rw [hj, h'] at h; cases h; exact Nat.le_refl _
      · rw [hj] at h; cases h; exact t1.size
    have hfin := Hfin.out (.slice A2 (i + (rs.length - (i + 1))) cp2) w2 t2 (hown2) hv
    go_end0
    exact ⟨rfl, hfin⟩
end Go.Proofs.Ytjmgookpmngmaab
