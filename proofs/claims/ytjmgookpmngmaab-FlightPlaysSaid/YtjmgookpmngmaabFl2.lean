/- flight's Ask. -/
import Derived.Test.YtjmgookpmngmaabFl1
namespace Go.Proofs.Ytjmgookpmngmaab
open Go Go.RowKit Go.Maps

def BM.ask (M : BM) (k : Key) (c : Int) : Bool × Int × BM :=
  if c < 0 then (false, 1, M) else if (mget M.cl c).isSome then (false, 10, M)
  else (((mget M.fl k).getD []).isEmpty, 0, ⟨mput M.fl k ((mget M.fl k).getD [] ++ [c]), mput M.cl c k⟩)

def boxK (w : World) (k : Key) : World := w.alloc (.cells #[.string k.db, .string k.role, .int .i64 k.format, .string k.norm] 28)

theorem Moved.same {w w' : World} {pb : Nat} {F : List Nat} {M : BM} (h : BoardR w pb F M) (ht : Touch [] w w') : Moved w w' pb F M :=
  ⟨F, h.kept ht (by simp), ht.mono (by simp), fun i hi => .inl hi⟩

set_option maxHeartbeats 800000 in
theorem Ask_neg {w : World} {pb : Nat} {F : List Nat} {M : BM} (h : BoardR w pb F M) (k : Key) (c : Int) (hc : c < 0) :
    Calls Try.prog 12 #[.pointer (some ⟨pb, 0, none⟩), .agg #[.string k.db, .string k.role, .int .i64 k.format, .string k.norm], .int .i64 c] w fun e w' => e = .returned (.tuple #[.bool false, .int .i64 1]) ∧ Touch [] w w' := by
  obtain ⟨bf, bc, rs, h1, _⟩ := h
  have c0 : w.cell? ⟨pb, 0, none⟩ = some (.map (some bf)) := by rw [cell_of h1]; rfl
  clear h1
  go_enter Try.func12, Try.ntmps12
  go_wp2_with fail
  refine (there_cell (bf := bf) (((Touch.refl [] _).alloc _).cell c0 (by simp))).mono ?_
  rintro e w1 ⟨rfl, rfl⟩
  go_wp2
  go_ret2
  exact ⟨rfl, (Touch.refl _ _).alloc _⟩
set_option maxHeartbeats 800000 in
theorem Ask_in {w : World} {pb : Nat} {F : List Nat} {M : BM} (h : BoardR w pb F M) (k : Key) (c : Int) (hc : ¬ c < 0) (hg : goodI c) {k0 : Key} (hm : mget M.cl c = some k0) :
    Calls Try.prog 12 #[.pointer (some ⟨pb, 0, none⟩), .agg #[.string k.db, .string k.role, .int .i64 k.format, .string k.norm], .int .i64 c] w fun e w' => e = .returned (.tuple #[.bool false, .int .i64 10]) ∧ Touch [] w w' := by
  obtain ⟨bf, bc, rs, h1, h2, h3, _⟩ := h
  have c0 : w.cell? ⟨pb, 0, none⟩ = some (.map (some bf)) := by rw [cell_of h1]; rfl
  have c1 : w.cell? ⟨pb, 1, none⟩ = some (.map (some bc)) := by rw [cell_of h1]; rfl
  have hpb := heap_lt h1
  have h3' := h3.of_block (w' := boxK w k) (RowKit.Below.heap_alloc _ _ _ h3.lt)
  have hl := h3'.look_hit encI Try.underlying62 hg (by rw [mget_map keyV, hm]; rfl) true
  simp only [if_true, intV, keyV, boxK] at hl
  clear h1 h2 h3 h3' hm
  go_enter Try.func12, Try.ntmps12
  go_wp2_with fail
  refine (there_cell (bf := bf) (((Touch.refl [] _).alloc _).cell c0 (by simp))).mono ?_
  rintro e w1 ⟨rfl, rfl⟩
  go_wp2
  go_ret2
  exact ⟨rfl, ((Touch.refl _ _).alloc _).alloc _⟩

/-- What the region reads. -/
def SK (pb bf kb : Nat) (k : Key) (W' : World) : Prop := W'.cell? ⟨pb, 0, none⟩ = some (.map (some bf)) ∧ W'.cell? ⟨kb, 0, none⟩ = some (.string k.db) ∧ W'.cell? ⟨kb, 1, none⟩ = some (.string k.role) ∧ W'.cell? ⟨kb, 2, none⟩ = some (.int .i64 k.format) ∧ W'.cell? ⟨kb, 3, none⟩ = some (.string k.norm)
set_option maxHeartbeats 1600000 in
theorem Ask_new {w : World} {pb : Nat} {F : List Nat} {M : BM} (h : BoardR w pb F M) (k : Key) (c : Int) (hc : ¬ c < 0) (hg : goodI c) (hk : goodK k) (hm : mget M.cl c = none) (hn : M.cl.length < 1000000) (hn2 : M.fl.length < 1000000) (hn3 : ((mget M.fl k).getD []).length < 1000000) :
    Calls Try.prog 12 #[.pointer (some ⟨pb, 0, none⟩), .agg #[.string k.db, .string k.role, .int .i64 k.format, .string k.norm], .int .i64 c] w fun e w' => e = .returned (.tuple #[.bool ((mget M.fl k).getD []).isEmpty, .int .i64 0]) ∧
      Moved w w' pb F ⟨mput M.fl k ((mget M.fl k).getD [] ++ [c]), mput M.cl c k⟩ := by
  have hB := h
  obtain ⟨bf, bc, rs, h1, h2, h3, h4, h5, hF, hnd⟩ := h
  have c0 : w.cell? ⟨pb, 0, none⟩ = some (.map (some bf)) := by rw [cell_of h1]; rfl
  have c1 : w.cell? ⟨pb, 1, none⟩ = some (.map (some bc)) := by rw [cell_of h1]; rfl
  have hpb := heap_lt h1
  have h3' := h3.of_block (w' := boxK w k) (RowKit.Below.heap_alloc _ _ _ h3.lt)
  have hl := h3'.look_miss encI Try.underlying62 (zeroK _) hg (by rw [mget_map keyV, hm]; rfl) true
  simp only [if_true, intV, boxK] at hl
  go_enter Try.func12, Try.ntmps12
  go_wp2_with fail
  refine (there_cell (bf := bf) (((Touch.refl [] _).alloc _).cell c0 (by simp))).mono ?_
  rintro e w1 ⟨rfl, rfl⟩
  clear hm
  go_wp2_with fail
  -- the world ahead of the two stores
  have e0 : (boxK w k).heap[w.heap.size]? = some (.cells #[.string k.db, .string k.role, .int .i64 k.format, .string k.norm] 28 (0, 0)) := heap_alloc_new w _
  have hT : Touch [] w ((boxK w k).alloc (.cells #[.string ⟨#[]⟩, .string ⟨#[]⟩, .int .i64 0, .string ⟨#[]⟩] 28)) := ((Touch.refl _ _).alloc _).alloc _
  have hKb : ((boxK w k).alloc (.cells #[.string ⟨#[]⟩, .string ⟨#[]⟩, .int .i64 0, .string ⟨#[]⟩] 28)).heap[w.heap.size]? = some (.cells #[.string k.db, .string k.role, .int .i64 k.format, .string k.norm] 28 (0, 0)) :=
    (RowKit.Below.heap_alloc _ _ _ (heap_lt e0)).trans e0
  unfold boxK at hT hKb
  generalize (w.alloc (.cells #[.string k.db, .string k.role, .int .i64 k.format, .string k.norm] 28)).alloc (.cells #[.string ⟨#[]⟩, .string ⟨#[]⟩, .int .i64 0, .string ⟨#[]⟩] 28) = W at hT hKb ⊢
  have hB' := hB.kept hT (by simp)
  have d0 := hT.cell c0 (by simp)
  have d1 := hT.cell c1 (by simp)
  have hk0 : W.cell? ⟨w.heap.size, 0, none⟩ = some (.string k.db) := by rw [cell_of hKb]; rfl
  have hk1 : W.cell? ⟨w.heap.size, 1, none⟩ = some (.string k.role) := by rw [cell_of hKb]; rfl
  have hk2 : W.cell? ⟨w.heap.size, 2, none⟩ = some (.int .i64 k.format) := by rw [cell_of hKb]; rfl
  have hk3 : W.cell? ⟨w.heap.size, 3, none⟩ = some (.string k.norm) := by rw [cell_of hKb]; rfl
  have hsz : w.heap.size < W.heap.size := heap_lt hKb
  clear hl e0 c0 c1
  go_still_tail 6, (by kernel_rfl)
  change wpList _ _ _ _ _ W.drew
  have h3W : MapT W.drew bc intV goodI (M.cl.map fun c => (c.1, keyV c.2)) := h3.of_block (hT.block bc h3.lt (by simp))
  refine wpList_mt_store W.drew rfl _ _ _ 62 28 rfl encI Try.underlying62 h3W (by simp [maxLen]; omega) hg rfl rfl (keyV k) rfl ?_
  intro W2 h3b hT2
  go_wp2_with fail
  have hnd' := hnd
  rw [hF] at hnd'
  simp only [List.nodup_cons, List.mem_cons, not_or, mem_rowBlocks, not_exists, not_and] at hnd'
  obtain ⟨⟨n1, n2, n3⟩, ⟨n4, n5⟩, n6, n7⟩ := hnd'
  have b2 : bf < W.heap.size := Nat.lt_of_lt_of_le h2.lt hT.size
  have h2' := h2.lt
  have h3lt := h3.lt
  have Hpb := Lib.hid h1
  have b0 : pb < W.heap.size := Nat.lt_of_lt_of_le hpb hT.size
  have hkbc : w.heap.size ≠ bc := fun e => by have := h3.lt; omega
  have hT2' : Touch [bc] W W2 := ((Touch.refl [bc] W).drew).trans hT2 (fun i hi => .inl hi)
  have g0 : W2.cell? ⟨pb, 0, none⟩ = some (.map (some bf)) := hT2'.cell d0 (by simp; exact n2)
  have gk : W2.heap[w.heap.size]? = some (.cells #[.string k.db, .string k.role, .int .i64 k.format, .string k.norm] 28 (0, 0)) := (hT2'.block _ hsz (by simp; exact hkbc)).trans hKb
  have gk0 : W2.cell? ⟨w.heap.size, 0, none⟩ = some (.string k.db) := by rw [cell_of gk]; rfl
  have gk1 : W2.cell? ⟨w.heap.size, 1, none⟩ = some (.string k.role) := by rw [cell_of gk]; rfl
  have gk2 : W2.cell? ⟨w.heap.size, 2, none⟩ = some (.int .i64 k.format) := by rw [cell_of gk]; rfl
  have gk3 : W2.cell? ⟨w.heap.size, 3, none⟩ = some (.string k.norm) := by rw [cell_of gk]; rfl
  have h2W : MapT W2 bf keyV goodK (rs.map fun r => (r.1, r.2.1)) := (h2.of_block (hT.block bf h2.lt (by simp))).of_block (hT2'.block bf b2 (by simp; exact n4))
  have hTw : Touch [bc] w W2 := (hT.mono (by simp)).trans hT2' (fun i hi => .inl hi)
  -- what lies at the key
  obtain ⟨r0, hr0, hown0, hblk0⟩ : ∃ r0 : Value × List Int, (mget rs k).getD (.slice none 0 0, []) = r0 ∧ W2.ownsRow 0 3 1 r0.1 r0.2.length (intsV r0.2) ∧ (∀ i, r0.1.ownBlock = some i → ∃ r ∈ rs, r.1 = k ∧ r.2.1.ownBlock = some i) := by
    cases hm : mget rs k with
    | none => exact ⟨(.slice none 0 0, []), rfl, World.ownsRow_nil _ _ _ _, fun i hi => by simp [Value.ownBlock] at hi⟩
    | some r => exact ⟨r, rfl, own_touch (h5 (k, r) (mget_mem hm)) hTw (fun i hi => by simp; exact fun e => n6 (k, r) (mget_mem hm) (by rw [← e]; exact hi)), fun i hi => ⟨(k, r), mget_mem hm, rfl, hi⟩⟩
  have hv0 : (mget (rs.map fun r => (r.1, r.2.1)) k).getD (.slice none 0 0) = r0.1 := by
    rw [mget_map, ← hr0]; cases mget rs k <;> rfl
  have hl0 : (mget M.fl k).getD [] = r0.2 := by
    rw [h4, mget_map, ← hr0]; cases mget rs k <;> rfl
  have hl0' := hl0
  obtain ⟨v0, l0⟩ := r0
  simp only at hown0 hblk0 hv0 hl0
  have hfl : rs.length < 1000000 ∧ l0.length < 1000000 := ⟨by rw [h4] at hn2; simpa using hn2, by rw [← hl0]; exact hn3⟩
  obtain ⟨st, es1, clock1, hent, hst⟩ := h2W.entry encK Try.underlying61 zeroL (by simp [maxLen]; omega) hk
  rw [hv0] at hent
  have E1 := hent W2.drew rfl
  have E2 := fun o => hent (W2.alloc o).drew (RowKit.Below.heap_alloc _ _ _ h2W.lt)
  simp only [keyV, goInt] at E1 E2
  have Hown := Lib.hid hown0
  have hcf : ∀ i, i < 4 → True := fun _ _ => trivial
  clear h1 h2 h3 h3' h3W hB' d0 d1 hk0 hk1 hk2 hk3 hT hKb hT2 gk hent
  obtain ⟨i0, hi0, hz0, hz1, hz2⟩ := info_parts infoI
  -- the entry, the append, the store at the entry
  have q0 : (ChangeMaps.setBlock (W2.alloc (Obj.cells #[.int .i64 c] 3)).drew bf (Obj.map es1 clock1)).heap.size = W2.heap.size + 1 := by simp [ChangeMaps.setBlock]
  have hbf2 : bf < W2.heap.size := h2W.lt
  have hTB : Touch [bf] W2 (ChangeMaps.setBlock (W2.alloc (Obj.cells #[.int .i64 c] 3)).drew bf (Obj.map es1 clock1)) := (((Touch.refl [bf] W2).alloc _).drew).setBlock bf _ (by simp)
  have hnb : ∀ i, v0.ownBlock = some i → i ≠ bf := fun i hi e => by
    obtain ⟨r, hr, _, hrb⟩ := hblk0 i hi
    exact n5 r hr (by rw [hrb, e])
  have Hown2 := Lib.hid (own_touch hown0 hTB (fun i hi => by simp; exact hnb i hi))
  have Hbf := Lib.hid (heap_setBlock_eq (w := (W2.alloc (Obj.cells #[.int .i64 c] 3)).drew) (Obj.map es1 clock1) (b := bf) (by simp; omega))
  have Hnew : Hid (∀ j u, [Value.int .i64 c][j]? = some u → (ChangeMaps.setBlock (W2.alloc (Obj.cells #[.int .i64 c] 3)).drew bf (Obj.map es1 clock1)).cell? ((⟨W2.heap.size, 0, none⟩ : Addr).add j) = some u) := Lib.hid (news_of (cs := #[.int .i64 c]) (t := 3) (fr := (0, 0)) (by
    unfold ChangeMaps.setBlock
    rw [Array.getElem?_setIfInBounds_ne (by omega)]
    exact heap_alloc_new W2 _))
  have HTB := Lib.hid hTB
  have hkbf : w.heap.size ≠ bf := fun e => by have := h2'; omega
  have keep : ∀ (S : List Nat) (W' : World), Touch S W2 W' → pb ∉ S → w.heap.size ∉ S → SK pb bf w.heap.size k W' := fun S W' h p1 p2 => ⟨h.cell g0 p1, h.cell gk0 p2, h.cell gk1 p2, h.cell gk2 p2, h.cell gk3 p2⟩
  have S2 := Lib.hid (keep [bf] _ hTB (by simpa using n1) (by simpa using hkbf))
  have Hkeep := Lib.hid keep
  have Hst := Lib.hid hst
  have hnk : ∀ i, v0.ownBlock = some i → i < w.heap.size ∧ i ≠ pb := fun i hi => by
    obtain ⟨r, hr, _, hrb⟩ := hblk0 i hi
    exact ⟨((h5 r hr).lt i hrb).2, fun e => n3 r hr (by rw [← e, hrb])⟩
  have hnext : ∀ w5 : World, (ChangeMaps.setBlock (W2.alloc (Obj.cells #[.int .i64 c] 3)).drew bf (Obj.map es1 clock1)).grownBy w5 v0.ownBlock → ∀ es2 clock2,
      Touch (bf :: v0.ownBlock.toList) W2 w5 ∧ w5.heap[bf]? = some (Obj.map es1 clock1) ∧ SK pb bf w.heap.size k w5 ∧ SK pb bf w.heap.size k (ChangeMaps.setBlock w5 bf (Obj.map es2 clock2)) := by
    intro w5 hg5 es2 clock2
    have T5 : Touch (bf :: v0.ownBlock.toList) W2 w5 := (hTB.mono (by simp)).grownBy hg5 (fun i hi => .inl (by simp [hi]))
    have p1 : pb ∉ bf :: v0.ownBlock.toList := by
      simp only [List.mem_cons, Option.mem_toList, not_or]
      exact ⟨n1, fun e => (hnk pb e).2 rfl⟩
    have p2 : w.heap.size ∉ bf :: v0.ownBlock.toList := by
      simp only [List.mem_cons, Option.mem_toList, not_or]
      exact ⟨hkbf, fun e => by have := (hnk _ e).1; omega⟩
    exact ⟨T5, (hg5.block bf (by rw [q0]; omega) (fun e => hnb bf e.symm rfl)).trans Hbf.out, keep _ w5 T5 p1 p2, keep _ _ (T5.setBlock bf _ (by simp)) p1 p2⟩
  have Hnext := Lib.hid hnext
  clear hown0 hTB keep hst hnext
  go_region_held3 (fun W' => W'.cell? ⟨pb, 0, none⟩ = some (.map (some bf)) ∧ W'.cell? ⟨w.heap.size, 0, none⟩ = some (.string k.db) ∧ W'.cell? ⟨w.heap.size, 1, none⟩ = some (.string k.role) ∧ W'.cell? ⟨w.heap.size, 2, none⟩ = some (.int .i64 k.format) ∧ W'.cell? ⟨w.heap.size, 3, none⟩ = some (.string k.norm)) (first | (go_keep; done) | exact S2.out | exact S5 | exact S6)
    ((refine step_append_at rfl _ _ 37 rfl 0 3 i0 (.int .i64 0) 1 8 Try.underlying37 hi0 hz0 hz1 hz2 rfl (by decide) v0 l0.length (intsV l0) rfl Hown2.out ⟨W2.heap.size, 0, none⟩ 1 1 [.int .i64 c] rfl rfl Hnew.out (by simp [Value.oneCell']) (by simp [maxLen]; omega) (by omega) (Nat.zero_le _) ?_; intro v1 w5 hown5 hg5 hloc; obtain ⟨es2, clock2, es_run, es_st, es_sz, es_good, es_map⟩ := Hst.out v1; obtain ⟨T5, B5, S5, S6⟩ := Hnext.out w5 hg5 es2 clock2; have es5 := es_run w5 B5; simp only [goInt] at es5; clear es_run))
  -- behind the stores
  have hb6 : bf < w5.heap.size := heap_lt B5
  have hM6 : MapT (ChangeMaps.setBlock w5 bf (Obj.map es2 clock2)) bf keyV goodK (mput (rs.map fun r => (r.1, r.2.1)) k v1) := ⟨es2, clock2, heap_setBlock_eq _ hb6, es_st, es_sz, es_good, es_map⟩
  have T6 : Touch (bf :: v0.ownBlock.toList) W2 (ChangeMaps.setBlock w5 bf (Obj.map es2 clock2)) := T5.setBlock bf _ (by simp)
  have hv1b : ∀ i, v1.ownBlock = some i → v0.ownBlock = some i ∨ W2.heap.size ≤ i := fun i hi => by
    rcases hloc with hl | hl
    · exact .inl (by rw [← hl, hi])
    · rw [hi] at hl; cases hl; exact .inr (by rw [q0]; omega)
  have hown6 : (ChangeMaps.setBlock w5 bf (Obj.map es2 clock2)).ownsRow 0 3 1 v1 (l0.length + 1) (intsV l0 ++ [.int .i64 c]) :=
    own_touch hown5 ((Touch.refl [bf] w5).setBlock bf _ (by simp)) (fun i hi => by
      simp only [List.mem_singleton]
      rcases hv1b i hi with h | h
      · exact hnb i h
      · omega)
  generalize ChangeMaps.setBlock w5 bf (Obj.map es2 clock2) = W6 at hM6 T6 hown6 S6 ⊢
  obtain ⟨z0, z1, z2, z3, z4⟩ := S6
  have hgv : mget (mput (rs.map fun r => (r.1, r.2.1)) k v1) k = some v1 := by rw [mget_mput]; simp
  have hl6 := fun nq => (hM6.of_block (w' := W6.drewN nq) rfl).look_hit encK Try.underlying61 hk hgv false
  simp only [Bool.false_eq_true, if_false, keyV] at hl6
  obtain ⟨A1, cap1, hv1⟩ := own_slice' hown6
  rw [hv1] at hl6
  have hlen : (((l0.length + 1 : Nat) : Int) == 1) = l0.isEmpty := by
    cases l0 with
    | nil => rfl
    | cons x l => simp; omega
  clear E1 E2 Hst Hnext Hkeep Hnew Hown2 Hown HTB Hbf es5 S2 S5 hgv
  go_wp2_with fail
  go_quiet (fail)
  go_wp2
  go_ret2
  have hrkn : (rs.map (·.1)).Nodup := by
    have := h2W.nodup
    simpa [List.map_map, Function.comp_def] using this
  have hTW2 : Touch [bc] w W2 := hTw
  have hlt0 : ∀ i ∈ rowBlocks rs, i < w.heap.size := fun i hi => by
    obtain ⟨r, hr, hb⟩ := mem_rowBlocks.1 hi
    exact ((h5 r hr).lt i hb).2
  have hv0' : ((mget rs k).getD (.slice none 0 0, [])).1 = v0 := by rw [hr0]
  obtain ⟨m1, m2⟩ := rowBlocks_mput (N := w.heap.size) k v1 (l0 ++ [c]) rs n7 hlt0 (fun i hi => by
    rw [hv0']
    rcases hv1b i hi with h | h
    · exact .inl h
    · exact .inr (Nat.le_trans hTW2.size h))
  have hbcW2 : bc < W2.heap.size := h3b.lt
  have hbc0 : ∀ i, v0.ownBlock = some i → i ≠ bc := fun i hi e => by
    obtain ⟨r, hr, _, hrb⟩ := hblk0 i hi
    exact n6 r hr (by rw [hrb, e])
  have hbcS : bc ∉ bf :: v0.ownBlock.toList := by
    simp only [List.mem_cons, Option.mem_toList, not_or]
    exact ⟨fun e => n4 e.symm, fun e => hbc0 bc e rfl⟩
  have hpbS : pb ∉ bf :: v0.ownBlock.toList := by
    simp only [List.mem_cons, Option.mem_toList, not_or]
    exact ⟨n1, fun e => (hnk pb e).2 rfl⟩
  have hpbc : pb ∉ [bc] := by simpa using n2
  have TT : Touch (bc :: bf :: v0.ownBlock.toList) w W6 := (hTW2.mono (by simp)).trans T6 (fun i hi => .inl (List.mem_cons_of_mem _ hi))
  have hpb6 : W6.heap[pb]? = some (.cells #[.map (some bf), .map (some bc)] 64 (0, 0)) := by
    refine (TT.block pb hpb ?_).trans Hpb.out
    simp only [List.mem_cons, not_or] at hpbS ⊢
    exact ⟨n2, hpbS⟩
  refine ⟨?_, pb :: bf :: bc :: rowBlocks (mput rs k (v1, l0 ++ [c])), ⟨bf, bc, mput rs k (v1, l0 ++ [c]), hpb6, ?_, ?_, ?_, ?_, rfl, ?_⟩, ?_, ?_⟩
  · rw [hl0]
    exact congrArg (fun b => Ending.returned (.tuple #[.bool b, .int .i64 0])) hlen
  · rw [← mput_map (fun r : Value × List Int => r.1)]
    exact hM6
  · refine (h3b.of_block (T6.block bc hbcW2 hbcS)).of_eq ?_
    exact mput_map keyV M.cl c k
  · show mput M.fl k ((mget M.fl k).getD [] ++ [c]) = _
    rw [hl0', h4]
    exact mput_map (fun r : Value × List Int => r.2) rs k (v1, l0 ++ [c])
  · intro r hr
    rcases mput_mem' hrkn hr with rfl | ⟨hr', hne⟩
    · exact (show W6.ownsRow 0 3 1 v1 (l0 ++ [c]).length (intsV (l0 ++ [c])) by simpa [intsV] using hown6)
    · refine own_touch (h5 r hr') (TT.drewN _) (fun i hi => ?_)
      simp only [List.mem_cons, Option.mem_toList, not_or]
      refine ⟨fun e => n6 r hr' (by rw [← e]; exact hi), fun e => n5 r hr' (by rw [← e]; exact hi), fun e => ?_⟩
      obtain ⟨r2, hr2, hk2, hb2⟩ := hblk0 i e
      exact hne (rowBlocks_inj n7 hr' hr2 hi hb2 ▸ hk2)
  · simp only [List.nodup_cons, List.mem_cons, not_or]
    have hnew : ∀ j, j < w.heap.size → j ∉ rowBlocks rs → j ∉ rowBlocks (mput rs k (v1, l0 ++ [c])) := fun j hj hn hm => by
      rcases m2 j hm with h | ⟨_, h⟩
      · exact hn h
      · omega
    refine ⟨⟨n1, n2, hnew pb hpb ?_⟩, ⟨n4, hnew bf h2' ?_⟩, hnew bc h3lt ?_, m1⟩
    · intro hm; obtain ⟨r, hr, hb⟩ := mem_rowBlocks.1 hm; exact n3 r hr hb
    · intro hm; obtain ⟨r, hr, hb⟩ := mem_rowBlocks.1 hm; exact n5 r hr hb
    · intro hm; obtain ⟨r, hr, hb⟩ := mem_rowBlocks.1 hm; exact n6 r hr hb
  · refine (TT.mono ?_).drewN _
    rw [hF]
    intro i hi
    simp only [List.mem_cons, Option.mem_toList] at hi ⊢
    rcases hi with rfl | rfl | hi
    · simp
    · simp
    · obtain ⟨r, hr, _, hrb⟩ := hblk0 i hi
      exact .inr (.inr (.inr (mem_rowBlocks.2 ⟨r, hr, hrb⟩)))
  · rw [hF]
    intro i hi
    simp only [List.mem_cons] at hi ⊢
    rcases hi with rfl | rfl | rfl | hi
    · simp
    · simp
    · simp
    · rcases m2 i hi with h | ⟨_, h⟩
      · exact .inl (.inr (.inr (.inr h)))
      · exact .inr h

/-- Ask, whatever it comes to. -/
theorem Ask_any {w : World} {pb : Nat} {F : List Nat} {M : BM} (h : BoardR w pb F M) (k : Key) (c : Int) (hg : goodI c) (hk : goodK k) (hn : M.cl.length < 1000000) (hn2 : M.fl.length < 1000000) (hn3 : ((mget M.fl k).getD []).length < 1000000) :
    Calls Try.prog 12 #[.pointer (some ⟨pb, 0, none⟩), .agg #[.string k.db, .string k.role, .int .i64 k.format, .string k.norm], .int .i64 c] w fun e w' => e = .returned (.tuple #[.bool (M.ask k c).1, .int .i64 (M.ask k c).2.1]) ∧ Moved w w' pb F (M.ask k c).2.2 := by
  unfold BM.ask
  by_cases hc : c < 0
  · rw [if_pos hc]
    exact (Ask_neg h k c hc).mono fun e w' ⟨he, ht⟩ => ⟨he, Moved.same h ht⟩
  · rw [if_neg hc]
    cases hm : mget M.cl c with
    | some k0 =>
      rw [if_pos (by rfl)]
      exact (Ask_in h k c hc hg hm).mono fun e w' ⟨he, ht⟩ => ⟨he, Moved.same h ht⟩
    | none =>
      rw [if_neg (by simp)]
      exact Ask_new h k c hc hg hk hm hn hn2 hn3
end Go.Proofs.Ytjmgookpmngmaab
