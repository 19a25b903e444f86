/- flight's Land. -/
import Derived.Test.YtjmgookpmngmaabFl2
namespace Go.Proofs.Ytjmgookpmngmaab
open Go Go.RowKit Go.Maps

def dropAll (cl : List (Int × Key)) (l : List Int) : List (Int × Key) := l.foldl mdel cl
def BM.land (M : BM) (k : Key) : Int × List Int × Bool × BM :=
  match mget M.fl k with
  | none => (0, [], false, M)
  | some l => (l.headD 0, l.tail, true, ⟨mdel M.fl k, dropAll M.cl l⟩)

theorem Land_none {w : World} {pb : Nat} {F : List Nat} {M : BM} (h : BoardR w pb F M) (k : Key) (hk : goodK k) (hm : mget M.fl k = none) :
    Calls Try.prog 15 #[.pointer (some ⟨pb, 0, none⟩), .agg #[.string k.db, .string k.role, .int .i64 k.format, .string k.norm]] w fun e w' => e = .returned (.tuple #[.int .i64 0, .slice none 0 0, .bool false]) ∧ Touch [] w w' := by
  obtain ⟨bf, bc, rs, h1, h2, h3, h4, h5, _⟩ := h
  have c0 : w.cell? ⟨pb, 0, none⟩ = some (.map (some bf)) := by rw [cell_of h1]; rfl
  have hpb := heap_lt h1
  have hg2 : mget rs k = none := by
    have : mget M.fl k = (mget rs k).map (·.2) := by rw [h4]; exact mget_map _ rs k
    rw [hm] at this
    cases hq : mget rs k <;> simp [hq] at this ⊢
  have h2' := h2.of_block (w' := boxK w k) (RowKit.Below.heap_alloc _ _ _ h2.lt)
  have hl := fun nq => (h2'.of_block (w' := (boxK w k).drewN nq) rfl).look_miss encK Try.underlying61 (zeroL _) hk (by rw [mget_map, hg2]; rfl) true
  simp only [keyV, boxK, if_true] at hl
  clear h1 h2 h2' h3 h4 h5 hg2 hm
  go_enter Try.func15, Try.ntmps15
  go_wp2_with fail
  refine (there_cell (bf := bf) (((Touch.refl [] _).alloc _).cell c0 (by simp))).mono ?_
  rintro e w1 ⟨rfl, rfl⟩
  go_wp2_with fail
  go_quiet (fail)
  go_wp2
  go_ret3
  exact ⟨rfl, ((Touch.refl _ _).alloc _).drewN _⟩

/-- What Land leaves beside the board: the list that it hands out, in memory of its own. -/
def Handed (w w' : World) (F' : List Nat) (v : Value) (l : List Int) : Prop := w'.ownsRow 0 3 1 v l.length (intsV l) ∧ ∀ i, v.ownBlock = some i → w.heap.size ≤ i ∧ i ∉ F'

theorem rowBlocks_mdel (rs : List (Key × (Value × List Int))) (k : Key) : (rowBlocks (mdel rs k)).Sublist (rowBlocks rs) := by
  unfold rowBlocks mdel
  exact List.Sublist.filterMap _ List.filter_sublist
theorem land_close {w W2 W5 : World} {pb bf bc : Nat} {F : List Nat} {M : BM} {rs : List (Key × (Value × List Int))} {k : Key} {cl' : List (Int × Key)} {v : Value} {l : List Int}
    (HB : w.heap[pb]? = some (.cells #[.map (some bf), .map (some bc)] 64 (0, 0)) ∧ MapT w bf keyV goodK (rs.map fun r => (r.1, r.2.1)) ∧ MapT w bc intV goodI (M.cl.map fun c => (c.1, keyV c.2)) ∧ ∀ r ∈ rs, w.ownsRow 0 3 1 r.2.1 r.2.2.length (intsV r.2.2))
    (h4 : M.fl = rs.map (fun r => (r.1, r.2.2))) (hF : F = pb :: bf :: bc :: rowBlocks rs) (hnd : F.Nodup)
    (T2 : Touch [bf] w W2) (h2b : MapT W2 bf keyV goodK (mdel (rs.map fun r => (r.1, r.2.1)) k)) (T5 : Touch [bc] W2 W5) (HM : MapT W5 bc intV goodI (cl'.map fun c => (c.1, keyV c.2)))
    (hown : W5.ownsRow 0 3 1 v l.length (intsV l)) (hv : ∀ i, v.ownBlock = some i → w.heap.size ≤ i) :
    ∃ F', BoardR W5 pb F' ⟨mdel M.fl k, cl'⟩ ∧ Touch F w W5 ∧ (∀ i ∈ F', i ∈ F) ∧ Handed w W5 F' v l := by
  obtain ⟨h1, h2, h3, h5⟩ := HB
  have hnd' := hnd
  rw [hF] at hnd'
  simp only [List.nodup_cons, List.mem_cons, not_or, mem_rowBlocks, not_exists, not_and] at hnd'
  obtain ⟨⟨n1, n2, n3⟩, ⟨n4, n5⟩, n6, n7⟩ := hnd'
  have TT : Touch [bf, bc] w W5 := (T2.mono (by simp)).trans T5 (by simp)
  have hsub := rowBlocks_mdel rs k
  have hFlt : ∀ i ∈ F, i < w.heap.size := (show BoardR w pb F M from ⟨bf, bc, rs, h1, h2, h3, h4, h5, hF, hnd⟩).lt
  have hF' : ∀ i ∈ pb :: bf :: bc :: rowBlocks (mdel rs k), i ∈ F := by
    rw [hF]
    intro i hi
    simp only [List.mem_cons] at hi ⊢
    rcases hi with h | h | h | h
    · exact .inl h
    · exact .inr (.inl h)
    · exact .inr (.inr (.inl h))
    · exact .inr (.inr (.inr (hsub.subset h)))
  refine ⟨_, ⟨bf, bc, mdel rs k, (TT.block pb (heap_lt h1) (by simp; exact ⟨n1, n2⟩)).trans h1, ?_, HM, ?_, ?_, rfl, ?_⟩, TT.mono (by rw [hF]; simp), hF', hown, fun i hi => ⟨hv i hi, fun hm => ?_⟩⟩
  · refine (h2b.of_block (T5.block bf h2b.lt (by simp; exact n4))).of_eq ?_
    exact mdel_map (fun r : Value × List Int => r.1) rs k
  · show mdel M.fl k = _
    rw [h4]
    exact mdel_map (fun r : Value × List Int => r.2) rs k
  · intro r hr
    have hr' : r ∈ rs := (List.mem_filter.1 hr).1
    refine own_touch (h5 r hr') TT (fun i hi => ?_)
    simp only [List.mem_cons, List.not_mem_nil, or_false, not_or]
    exact ⟨fun e => n5 r hr' (by rw [← e]; exact hi), fun e => n6 r hr' (by rw [← e]; exact hi)⟩
  · rw [hF] at hnd
    exact hnd.sublist (List.Sublist.cons_cons _ (List.Sublist.cons_cons _ (List.Sublist.cons_cons _ hsub)))
  · have := hFlt i (hF' i hm)
    have := hv i hi
    omega
set_option maxHeartbeats 1600000 in
theorem Land_some {w : World} {pb : Nat} {F : List Nat} {M : BM} (h : BoardR w pb F M) (k : Key) (hk : goodK k) (c : Int) (l : List Int) (hm : mget M.fl k = some (c :: l)) (hcs : ∀ x ∈ c :: l, goodI x) (hll : l.length < 1000000) :
    Calls Try.prog 15 #[.pointer (some ⟨pb, 0, none⟩), .agg #[.string k.db, .string k.role, .int .i64 k.format, .string k.norm]] w fun e w' => ∃ v F', e = .returned (.tuple #[.int .i64 c, v, .bool true]) ∧
      BoardR w' pb F' ⟨mdel M.fl k, dropAll M.cl (c :: l)⟩ ∧ Touch F w w' ∧ (∀ i ∈ F', i ∈ F) ∧ Handed w w' F' v l := by
  obtain ⟨bf, bc, rs, h1, h2, h3, h4, h5, hF, hnd⟩ := h
  have c0 : w.cell? ⟨pb, 0, none⟩ = some (.map (some bf)) := by rw [cell_of h1]; rfl
  have c1 : w.cell? ⟨pb, 1, none⟩ = some (.map (some bc)) := by rw [cell_of h1]; rfl
  have hpb := heap_lt h1
  have h2lt := h2.lt
  have h3lt := h3.lt
  have hnd' := hnd
  rw [hF] at hnd'
  simp only [List.nodup_cons, List.mem_cons, not_or, mem_rowBlocks, not_exists, not_and] at hnd'
  obtain ⟨⟨n1, n2, n3⟩, ⟨n4, n5⟩, n6, n7⟩ := hnd'
  obtain ⟨v0, hr⟩ : ∃ v0, mget rs k = some (v0, c :: l) := by
    have : mget M.fl k = (mget rs k).map (·.2) := by rw [h4]; exact mget_map _ rs k
    rw [hm] at this
    cases hq : mget rs k with
    | none => simp [hq] at this
    | some r => rw [hq] at this; simp at this; exact ⟨r.1, by rw [this]⟩
  have hown : w.ownsRow 0 3 1 v0 (l.length + 1) (intsV (c :: l)) := h5 (k, (v0, c :: l)) (mget_mem hr)
  obtain ⟨g, cap, rfl, hcl⟩ := own_cells hown
  have hgF : g ≠ pb ∧ g ≠ bf ∧ g ≠ bc := ⟨fun e => n3 _ (mget_mem hr) (by rw [← e]; rfl), fun e => n5 _ (mget_mem hr) (by rw [← e]; rfl), fun e => n6 _ (mget_mem hr) (by rw [← e]; rfl)⟩
  have hcl' : ∀ j, j < l.length + 1 → w.cell? ⟨g, j, none⟩ = some (.int .i64 ((c :: l).getD j 0)) := fun j hj => hcl j _ (by
    have : (c :: l)[j]? = some ((c :: l).getD j 0) := by simp [List.getD_eq_getElem?_getD, List.getElem?_eq_getElem (show j < (c :: l).length by simpa using hj)]
    show (intsV (c :: l))[j]? = _
    simp only [intsV, List.getElem?_map, this, Option.map_some])
  have hg0 := hcl' 0 (by omega)
  have hgl := World.block_lt_of_cell? w _ hg0
  have hcapl : l.length + 1 ≤ cap := by
    rcases hown.2 with ⟨e, _⟩ | ⟨g', cap', cur, e, _, _, e2, _⟩
    · cases e
    · cases e; exact e2
  have h2' := h2.of_block (w' := boxK w k) (RowKit.Below.heap_alloc _ _ _ h2.lt)
  have hl := fun nq => (h2'.of_block (w' := (boxK w k).drewN nq) rfl).look_hit encK Try.underlying61 hk (by rw [mget_map, hr]; rfl) true
  simp only [keyV, boxK, if_true] at hl
  have e0 : (boxK w k).heap[w.heap.size]? = some (.cells #[.string k.db, .string k.role, .int .i64 k.format, .string k.norm] 28 (0, 0)) := heap_alloc_new w _
  have HB := Lib.hid (And.intro h1 (And.intro h2 (And.intro h3 h5)))
  have Hcl := Lib.hid hcl'
  clear h1 h2 h2' h3 h5 hown hcl hcl'
  go_enter Try.func15, Try.ntmps15
  go_wp2_with fail
  refine (there_cell (bf := bf) (((Touch.refl [] _).alloc _).cell c0 (by simp))).mono ?_
  rintro e w1 ⟨rfl, rfl⟩
  go_wp2_with fail
  go_quiet (fail)
  have hT : Touch [] w ((boxK w k).drewN nq) := ((Touch.refl _ _).alloc _).drewN _
  have hKb : ((boxK w k).drewN nq).heap[w.heap.size]? = some (.cells #[.string k.db, .string k.role, .int .i64 k.format, .string k.norm] 28 (0, 0)) := e0
  unfold boxK at hT hKb
  generalize (w.alloc (.cells #[.string k.db, .string k.role, .int .i64 k.format, .string k.norm] 28)).drewN nq = W at hT hKb ⊢
  have d0 := hT.cell c0 (by simp)
  have d1 := hT.cell c1 (by simp)
  have hk0 : W.cell? ⟨w.heap.size, 0, none⟩ = some (.string k.db) := by rw [cell_of hKb]; rfl
  have hk1 : W.cell? ⟨w.heap.size, 1, none⟩ = some (.string k.role) := by rw [cell_of hKb]; rfl
  have hk2 : W.cell? ⟨w.heap.size, 2, none⟩ = some (.int .i64 k.format) := by rw [cell_of hKb]; rfl
  have hk3 : W.cell? ⟨w.heap.size, 3, none⟩ = some (.string k.norm) := by rw [cell_of hKb]; rfl
  have hsz : w.heap.size < W.heap.size := heap_lt hKb
  clear hl e0 c0 c1 hg0
  go_wp2_with fail
  go_still_tail 5, (by kernel_rfl)
  change wpList _ _ _ _ _ W.drew
  have h2W : MapT W.drew bf keyV goodK (rs.map fun r => (r.1, r.2.1)) := HB.out.2.1.of_block (hT.block bf h2lt (by simp))
  refine wpList_mt_delete W.drew rfl _ _ 61 37 rfl encK Try.underlying61 h2W hk rfl rfl ?_
  intro W2 h2b hT2
  go_wp2_with fail
  have T2 : Touch [bf] w W2 := ((hT.mono (by simp)).drew).trans hT2 (fun i hi => .inl hi)
  have h3W : MapT W2 bc intV goodI (M.cl.map fun c => (c.1, keyV c.2)) := HB.out.2.2.1.of_block (T2.block bc h3lt (by simp; exact fun e => n4 e.symm))
  have Hcl2 : Hid (∀ j, j < l.length + 1 → W2.cell? ⟨g, j, none⟩ = some (.int .i64 ((c :: l).getD j 0))) := Lib.hid (fun j hj => T2.cell (Hcl.out j hj) (by simp; exact hgF.2.1))
  have hbcg : g ≠ bc := hgF.2.2
  have d1' : W2.cell? ⟨pb, 1, none⟩ = some (.map (some bc)) := hT2.cell (w := W.drew) d1 (by simp; exact n1)
  have hcs' := Lib.hid hcs
  have HT2 := Lib.hid T2
  clear hk0 hk1 hk2 hk3 d0 d1 hT hT2 hKb h2W T2 hcs
  go_loopw [10, 32] (fun _ i wr => ∃ j : Nat, j ≤ l.length + 1 ∧ i = .int .i64 j ∧ MapT wr bc intV goodI ((dropAll M.cl ((c :: l).take j)).map fun c => (c.1, keyV c.2)) ∧ Touch [bc] W2 wr) (fun _ i _ => l.length + 1 - (intOf i).toNat)
  case atStart => exact ⟨0, Nat.zero_le _, rfl, h3W, Touch.refl _ _⟩
  case round =>
    obtain ⟨j, hj, rfl, hMr, hTr⟩ := hrel
    by_cases hlt : j < l.length + 1
    · have hcj := hTr.cell (Hcl2.out j hlt) (by simp; exact hbcg)
      have hgood : goodI ((c :: l).getD j 0) := hcs'.out _ (by
        rw [List.getD_eq_getElem?_getD, List.getElem?_eq_getElem (show j < (c :: l).length by simpa using hlt)]
        exact List.getElem_mem _)
      have d1r := hTr.cell d1' (by simp; exact n2)
      have hstep : Hid (dropAll M.cl ((c :: l).take (j + 1)) = mdel (dropAll M.cl ((c :: l).take j)) ((c :: l).getD j 0)) := Lib.hid (by
        have hjl : j < (c :: l).length := by simpa using hlt
        rw [List.take_succ_eq_append_getElem hjl, List.getD_eq_getElem?_getD, List.getElem?_eq_getElem hjl]
        simp only [dropAll, List.foldl_append, List.foldl_cons, List.foldl_nil, Option.getD_some])
      generalize (c :: l).getD j 0 = x at hcj hgood hstep
      go_wp2_with (at_delete; refine wpList_mt_delete _ rfl _ _ 62 28 rfl encI Try.underlying62 hMr hgood rfl rfl ?_; intro w3 hM3 hT3)
      go_roundw
      case rel => exact ⟨j + 1, by omega, by go_num, hM3.of_eq (by rw [hstep.out]; exact mdel_map keyV _ _), hTr.trans hT3 (fun i hi => .inl hi)⟩
      case measure => simp [intOf]; omega
    · have hjl : j = l.length + 1 := by omega
      have hall : (c :: l).take j = c :: l := List.take_of_length_le (by simp; omega)
      rw [hall] at hMr
      have HM := Lib.hid hMr
      have HTr := Lib.hid hTr
      have q0 := hTr.cell (Hcl2.out 0 (by omega)) (by simp; exact hbcg)
      rw [show (c :: l).getD 0 0 = c from rfl] at q0
      clear hMr hTr hall
      obtain ⟨i0, hi0, hz0, hz1, hz2⟩ := info_parts infoI
      have Hnews : Hid (∀ W' : World, W'.heap = wr.heap → ∀ j u, (intsV l)[j]? = some u → W'.cell? ((⟨g, 1, none⟩ : Addr).add j) = some u) := Lib.hid (fun W' hW' j u hu => by
        have hj : j < l.length := by have := (List.getElem?_eq_some_iff.1 hu).1; simpa [intsV] using this
        have hadd : (⟨g, 1, none⟩ : Addr).add j = ⟨g, j + 1, none⟩ := by unfold Addr.add; simp [Nat.add_comm]
        have h1 := HTr.out.cell (Hcl2.out (j + 1) (by omega)) (by simp; exact hbcg)
        have h2 : (c :: l).getD (j + 1) 0 = l.getD j 0 := rfl
        rw [hadd, show W'.cell? ⟨g, j + 1, none⟩ = wr.cell? ⟨g, j + 1, none⟩ from World.cell?_of_block (by rw [hW']), h1, h2]
        have h3 : (intsV l)[j]? = some (.int .i64 (l.getD j 0)) := by
          simp only [intsV, List.getElem?_map, List.getElem?_eq_getElem hj, Option.map_some, List.getD_eq_getElem?_getD, Option.getD_some]
        rw [h3] at hu
        exact hu)
      have Hno : Hid (∀ W' : World, ∀ j u, ([] : List Value)[j]? = some u → W'.cell? ((⟨g, 0, none⟩ : Addr).add j) = some u) := Lib.hid (fun W' j u hu => by simp at hu)
      have Hone : Hid (∀ u ∈ intsV l, u.oneCell' = true) := Lib.hid (fun u hu => by
        obtain ⟨x, _, rfl⟩ := List.mem_map.1 hu
        rfl)
      have hlen0 : 0 < l.length + 1 := by omega
      have Hfin : Hid (∀ (v : Value) (W5 : World), Touch [] wr W5 → W5.ownsRow 0 3 1 v l.length (intsV l) → (∀ i, v.ownBlock = some i → wr.heap.size ≤ i) → ∃ F', BoardR W5 pb F' ⟨mdel M.fl k, dropAll M.cl (c :: l)⟩ ∧ Touch F w W5 ∧ (∀ i ∈ F', i ∈ F) ∧ Handed w W5 F' v l) := Lib.hid (fun v W5 h1 h2 h3 =>
        land_close HB.out h4 hF hnd HT2.out h2b (HTr.out.trans h1 (by simp)) (HM.out.of_block (h1.block bc HM.out.lt (by simp))) h2 (fun i hi => Nat.le_trans (Nat.le_trans HT2.out.size HTr.out.size) (h3 i hi)))
      have hgl2 : g < wr.heap.size := World.block_lt_of_cell? wr _ q0
      clear hcs' HB h2b h3W d1' HT2 HTr HM Hcl Hcl2 hr hnd hF h4 hm
      cases l with
      | nil =>
        by_cases hcap : cap = 1
        · subst hcap
          go_wp2_with fail
          go_region_held3 (fun W' => W'.cell? ⟨g, 0, none⟩ = some (.int .i64 c)) (first | (go_keep; done)) (fail)
          go_wp2
          go_ret3
          obtain ⟨F', r1, r2, r3, r4⟩ := Hfin.out (.slice none 0 0) _ ((Touch.refl _ _).drew) (World.ownsRow_nil _ _ _ _) (fun i hi => by simp [Value.ownBlock] at hi)
          exact ⟨_, F', rfl, r1, r2, r3, r4⟩
        · go_wp2_with fail
          go_region_held3 (fun W' => W'.cell? ⟨g, 0, none⟩ = some (.int .i64 c)) (first | (go_keep; done)) (fail)
          go_wp2
          go_ret3
          obtain ⟨F', r1, r2, r3, r4⟩ := Hfin.out (.slice none 0 0) _ ((Touch.refl _ _).drew) (World.ownsRow_nil _ _ _ _) (fun i hi => by simp [Value.ownBlock] at hi)
          exact ⟨_, F', rfl, r1, r2, r3, r4⟩
      | cons y l =>
        have hcap : ¬ cap = 1 := by intro e; simp at hcapl; omega
        have hcap2 : l.length + 2 ≤ cap := by simp at hcapl; omega
        have hll2 : l.length + 1 < 1000000 := by simpa using hll
        have p1 : (0 : Int) < (l.length : Int) + 1 + 1 := by omega
        have p2 : (1 : Int) ≤ (l.length : Int) + 1 + 1 := by omega
        go_wp2_with fail
        go_region_held3 (fun W' => W'.cell? ⟨g, 0, none⟩ = some (.int .i64 c)) (first | (go_keep; done) | exact (World.cell?_of_block (hgr.block g hgl2 (by simp [Value.ownBlock]))).trans q0)
          ((refine step_append_at rfl _ _ 37 rfl 0 3 i0 (.int .i64 0) 1 8 Try.underlying37 hi0 hz0 hz1 hz2 rfl (by decide) (.slice none 0 0) 0 [] rfl (World.ownsRow_nil _ _ _ _) ⟨g, 1, none⟩ (l.length + 1) (cap - 1) (intsV (y :: l)) rfl (by simp [intsV]) (Hnews.out _ rfl) Hone.out (by simp [maxLen]; omega) (by omega) (Nat.zero_le _) ?_; intro v1 w5 hown5 hgr hloc))
        go_wp2
        go_ret3
        obtain ⟨F', r1, r2, r3, r4⟩ := Hfin.out v1 w5 ((Touch.refl [] wr).drew.grownBy hgr (fun i hi => by simp [Value.ownBlock] at hi)) (by simpa using hown5) (fun i hi => by
          rcases hloc with h | h
          · rw [hi] at h; simp [Value.ownBlock] at h
          · rw [hi] at h; cases h; exact Nat.le_refl _)
        exact ⟨_, F', rfl, r1, r2, r3, r4⟩
end Go.Proofs.Ytjmgookpmngmaab
