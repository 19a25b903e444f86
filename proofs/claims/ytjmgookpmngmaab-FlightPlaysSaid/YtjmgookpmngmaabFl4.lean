/- flight's Leave. -/
import Derived.Test.YtjmgookpmngmaabFl3
namespace Go.Proofs.Ytjmgookpmngmaab
open Go Go.RowKit Go.Maps

def BM.leave (M : BM) (c : Int) : List Int × Bool × BM :=
  match mget M.cl c with
  | none => ([], false, M)
  | some k => match mget M.fl k with
    | some (x :: l) => if x = c then (l, true, ⟨mdel M.fl k, dropAll M.cl (x :: l)⟩) else ([], true, ⟨mput M.fl k ((x :: l).filter fun y => decide (y ≠ c)), mdel M.cl c⟩)
    | _ => ([], false, M)

set_option maxHeartbeats 800000 in
theorem Leave_none {w : World} {pb : Nat} {F : List Nat} {M : BM} (h : BoardR w pb F M) (c : Int) (hc : goodI c) (hm : mget M.cl c = none) :
    Calls Try.prog 16 #[.pointer (some ⟨pb, 0, none⟩), .int .i64 c] w fun e w' => e = .returned (.tuple #[.slice none 0 0, .bool false]) ∧ Touch [] w w' := by
  have Hr : Hid (M.waits c = (⟨⟨#[]⟩, ⟨#[]⟩, 0, ⟨#[]⟩⟩, false)) := Lib.hid (by simp [BM.waits, hm])
  clear hm
  go_enter Try.func16, Try.ntmps16
  go_wp2_with fail
  refine (Waits_any h c hc).mono ?_
  rintro e w1 ⟨rfl, ht⟩
  rw [Hr.out]; simp only [keyV]
  go_wp2
  go_ret2
  exact ⟨rfl, ht.alloc _⟩

theorem good_key {w : World} {pb : Nat} {F : List Nat} {M : BM} (h : BoardR w pb F M) {k : Key} {l : List Int} (hm : mget M.fl k = some l) : goodK k := by
  obtain ⟨bf, bc, rs, h1, ⟨es, cl, _, _, _, hg, _⟩, h3, h4, _⟩ := h
  rw [h4, mget_map] at hm
  cases hq : mget rs k with
  | none => simp [hq] at hm
  | some r => exact hg (k, r.1) (List.mem_map.2 ⟨(k, r), mget_mem hq, rfl⟩)

/-- A look at a flight that is there. -/
theorem board_look {W : World} {pb : Nat} {F : List Nat} {M : BM} (h : BoardR W pb F M) (k : Key) (hk : goodK k) (x : Int) (l : List Int) (hm : mget M.fl k = some (x :: l)) :
    ∃ bf g cap, W.cell? ⟨pb, 0, none⟩ = some (.map (some bf)) ∧ W.cell? ⟨g, 0, none⟩ = some (.int .i64 x) ∧
      (∀ nq, (Instr.lookup 61 (.map (some bf)) (.agg #[.string k.db, .string k.role, .int .i64 k.format, .string k.norm]) false).run Try.prog (W.drewN nq) = .ok (.slice (some ⟨g, 0, none⟩) (l.length + 1) cap) (W.drewN nq)) ∧
      (∀ j, j < l.length + 1 → W.cell? ⟨g, j, none⟩ = some (.int .i64 ((x :: l).getD j 0))) ∧ l.length + 1 ≤ cap ∧ (∃ rs' : List Nat, F = F.take 3 ++ rs' ∧ g ∈ rs' ∧ g ∉ F.take 3) := by
  obtain ⟨bf, bc, rs, h1, h2, h3, h4, h5, hF, hnd⟩ := h
  have c0 : W.cell? ⟨pb, 0, none⟩ = some (.map (some bf)) := by rw [cell_of h1]; rfl
  obtain ⟨v0, hr⟩ : ∃ v0, mget rs k = some (v0, x :: l) := by
    have : mget M.fl k = (mget rs k).map (·.2) := by rw [h4]; exact mget_map _ rs k
    rw [hm] at this
    cases hq : mget rs k with
    | none => simp [hq] at this
    | some r => rw [hq] at this; simp at this; exact ⟨r.1, by rw [this]⟩
  have hown : W.ownsRow 0 3 1 v0 (l.length + 1) (intsV (x :: l)) := h5 (k, (v0, x :: l)) (mget_mem hr)
  obtain ⟨g, cap, rfl, hcl⟩ := own_cells hown
  have hcl' : ∀ j, j < l.length + 1 → W.cell? ⟨g, j, none⟩ = some (.int .i64 ((x :: l).getD j 0)) := fun j hj => hcl j _ (by
    have : (x :: l)[j]? = some ((x :: l).getD j 0) := by simp [List.getD_eq_getElem?_getD, List.getElem?_eq_getElem (show j < (x :: l).length by simpa using hj)]
    show (intsV (x :: l))[j]? = _
    simp only [intsV, List.getElem?_map, this, Option.map_some])
  have hcapl : l.length + 1 ≤ cap := by
    rcases hown.2 with ⟨e, _⟩ | ⟨g', cap', cur, e, _, _, e2, _⟩
    · cases e
    · cases e; exact e2
  have hl := fun nq => (h2.of_block (w' := W.drewN nq) rfl).look_hit encK Try.underlying61 hk (by rw [mget_map, hr]; rfl) false
  simp only [keyV, Bool.false_eq_true, if_false] at hl
  have hgm : g ∈ rowBlocks rs := mem_rowBlocks.2 ⟨_, mget_mem hr, rfl⟩
  refine ⟨bf, g, cap, c0, hcl' 0 (by omega), hl, hcl', hcapl, rowBlocks rs, by rw [hF]; rfl, hgm, fun hm => ?_⟩
  rw [hF] at hnd hm
  simp only [List.nodup_cons, List.mem_cons, not_or] at hnd
  simp only [List.take_succ_cons, List.take_zero, List.mem_cons, List.not_mem_nil, or_false] at hm
  rcases hm with e | e | e
  · exact hnd.1.2.2 (e ▸ hgm)
  · exact hnd.2.1.2 (e ▸ hgm)
  · exact hnd.2.2.1 (e ▸ hgm)

set_option maxHeartbeats 1600000 in
theorem Leave_head {w : World} {pb : Nat} {F : List Nat} {M : BM} (h : BoardR w pb F M) (c : Int) (hc : goodI c) (k : Key) (l : List Int) (hm : mget M.cl c = some k) (hm2 : mget M.fl k = some (c :: l)) (hcs : ∀ x ∈ c :: l, goodI x) (hll : l.length < 1000000) :
    Calls Try.prog 16 #[.pointer (some ⟨pb, 0, none⟩), .int .i64 c] w fun e w' => ∃ v F', e = .returned (.tuple #[v, .bool true]) ∧
      BoardR w' pb F' ⟨mdel M.fl k, dropAll M.cl (c :: l)⟩ ∧ Touch F w w' ∧ (∀ i ∈ F', i ∈ F) ∧ Handed w w' F' v l := by
  have Hr : Hid (M.waits c = (k, true)) := Lib.hid (by simp [BM.waits, hm])
  have hk := good_key h hm2
  have Hm := Lib.hid hm2
  have Hcs := Lib.hid hcs
  clear hm hm2 hcs
  go_enter Try.func16, Try.ntmps16
  go_wp2_with fail
  refine (Waits_any h c hc).mono ?_
  rintro e w1 ⟨rfl, ht⟩
  rw [Hr.out]; simp only [keyV]
  go_wp2_with fail
  -- the key's box
  have e0 : (boxK w1 k).heap[w1.heap.size]? = some (.cells #[.string k.db, .string k.role, .int .i64 k.format, .string k.norm] 28 (0, 0)) := heap_alloc_new w1 _
  have hT : Touch [] w (boxK w1 k) := ht.alloc _
  unfold boxK at e0 hT
  generalize w1.alloc (.cells #[.string k.db, .string k.role, .int .i64 k.format, .string k.norm] 28) = W at e0 hT ⊢
  have hB := h.kept hT (by simp)
  have hk0 : W.cell? ⟨w1.heap.size, 0, none⟩ = some (.string k.db) := by rw [cell_of e0]; rfl
  have hk1 : W.cell? ⟨w1.heap.size, 1, none⟩ = some (.string k.role) := by rw [cell_of e0]; rfl
  have hk2 : W.cell? ⟨w1.heap.size, 2, none⟩ = some (.int .i64 k.format) := by rw [cell_of e0]; rfl
  have hk3 : W.cell? ⟨w1.heap.size, 3, none⟩ = some (.string k.norm) := by rw [cell_of e0]; rfl
  obtain ⟨bf, g, cap, hc0, hg0, hl, _⟩ := board_look hB k hk c l Hm.out
  go_quiet (fail)
  have hB2 : BoardR (W.drewN nq) pb F M := hB.kept ((Touch.refl [] W).drewN nq) (by simp)
  have hT2 : Touch [] w (W.drewN nq) := hT.drewN nq
  generalize hW : W.drewN nq = W2 at hB2 hT2 ⊢
  have k0 : W2.cell? ⟨w1.heap.size, 0, none⟩ = some (.string k.db) := by rw [← hW]; exact hk0
  have k1 : W2.cell? ⟨w1.heap.size, 1, none⟩ = some (.string k.role) := by rw [← hW]; exact hk1
  have k2 : W2.cell? ⟨w1.heap.size, 2, none⟩ = some (.int .i64 k.format) := by rw [← hW]; exact hk2
  have k3 : W2.cell? ⟨w1.heap.size, 3, none⟩ = some (.string k.norm) := by rw [← hW]; exact hk3
  clear hW hk0 hk1 hk2 hk3 hc0 hg0 hl hB e0 hT
  go_wp2_with fail
  refine (Land_some hB2 k hk c l Hm.out Hcs.out hll).mono ?_
  rintro e w3 ⟨v, F', rfl, r1, r2, r3, r4⟩
  obtain ⟨A, cp, hv⟩ := own_slice' r4.1
  have Hv := Lib.hid hv
  rw [hv]
  clear hv
  have R1 := Lib.hid r1; have R4 := Lib.hid r4
  clear r1 r4
  go_wp2
  go_ret2
  exact ⟨v, F', by rw [Hv.out]; rfl, R1.out, (hT2.mono (by simp)).trans r2 (fun i hi => .inl hi), r3, R4.out.1, fun i hi => ⟨Nat.le_trans hT2.size (R4.out.2 i hi).1, (R4.out.2 i hi).2⟩⟩

theorem leave_close {w W2 W5 : World} {pb bf bc : Nat} {F : List Nat} {M : BM} {rs : List (Key × (Value × List Int))} {k : Key} {cl' : List (Int × Key)} {v : Value} {l : List Int}
    (h1 : w.heap[pb]? = some (.cells #[.map (some bf), .map (some bc)] 64 (0, 0))) (h2 : MapT w bf keyV goodK (rs.map fun r => (r.1, r.2.1))) (h3 : MapT w bc intV goodI (M.cl.map fun c => (c.1, keyV c.2))) (h5 : ∀ r ∈ rs, w.ownsRow 0 3 1 r.2.1 r.2.2.length (intsV r.2.2))
    (h4 : M.fl = rs.map (fun r => (r.1, r.2.2))) (hF : F = pb :: bf :: bc :: rowBlocks rs) (hnd : F.Nodup)
    (T2 : Touch [bc] w W2) (h3b : MapT W2 bc intV goodI (cl'.map fun c => (c.1, keyV c.2))) (T5 : Touch [bf] W2 W5) (HM : MapT W5 bf keyV goodK (mput (rs.map fun r => (r.1, r.2.1)) k v))
    (hown : W5.ownsRow 0 3 1 v l.length (intsV l)) (hv : ∀ i, v.ownBlock = some i → w.heap.size ≤ i) :
    Moved w W5 pb F ⟨mput M.fl k l, cl'⟩ := by
  have hnd' := hnd
  rw [hF] at hnd'
  simp only [List.nodup_cons, List.mem_cons, not_or, mem_rowBlocks, not_exists, not_and] at hnd'
  obtain ⟨⟨n1, n2, n3⟩, ⟨n4, n5⟩, n6, n7⟩ := hnd'
  have TT : Touch [bc, bf] w W5 := (T2.mono (by simp)).trans T5 (by simp)
  have hFlt : ∀ i ∈ F, i < w.heap.size := (show BoardR w pb F M from ⟨bf, bc, rs, h1, h2, h3, h4, h5, hF, hnd⟩).lt
  have hrkn : (rs.map (·.1)).Nodup := by
    have := h2.nodup
    simpa [List.map_map, Function.comp_def] using this
  obtain ⟨m1, m2⟩ := rowBlocks_mput (N := w.heap.size) k v l rs n7 (fun i hi => hFlt i (by rw [hF]; simp [hi])) (fun i hi => .inr (hv i hi))
  have hnew : ∀ j, j < w.heap.size → j ∉ rowBlocks rs → j ∉ rowBlocks (mput rs k (v, l)) := fun j hj hn hm => by
    rcases m2 j hm with h | ⟨_, h⟩
    · exact hn h
    · omega
  refine ⟨pb :: bf :: bc :: rowBlocks (mput rs k (v, l)), ⟨bf, bc, mput rs k (v, l), (TT.block pb (heap_lt h1) (by simp; exact ⟨n2, n1⟩)).trans h1, ?_, ?_, ?_, ?_, rfl, ?_⟩, TT.mono (by rw [hF]; simp), ?_⟩
  · refine HM.of_eq ?_
    exact mput_map (fun r : Value × List Int => r.1) rs k (v, l)
  · exact h3b.of_block (T5.block bc h3b.lt (by simp; exact fun e => n4 e.symm))
  · show mput M.fl k l = _
    rw [h4]
    exact mput_map (fun r : Value × List Int => r.2) rs k (v, l)
  · intro r hr
    rcases mput_mem' hrkn hr with rfl | ⟨hr', _⟩
    · exact hown
    · refine own_touch (h5 r hr') TT (fun i hi => ?_)
      simp only [List.mem_cons, List.not_mem_nil, or_false, not_or]
      exact ⟨fun e => n6 r hr' (by rw [← e]; exact hi), fun e => n5 r hr' (by rw [← e]; exact hi)⟩
  · simp only [List.nodup_cons, List.mem_cons, not_or]
    refine ⟨⟨n1, n2, hnew pb (heap_lt h1) ?_⟩, ⟨n4, hnew bf h2.lt ?_⟩, hnew bc h3.lt ?_, m1⟩
    · intro hm; obtain ⟨r, hr, hb⟩ := mem_rowBlocks.1 hm; exact n3 r hr hb
    · intro hm; obtain ⟨r, hr, hb⟩ := mem_rowBlocks.1 hm; exact n5 r hr hb
    · intro hm; obtain ⟨r, hr, hb⟩ := mem_rowBlocks.1 hm; exact n6 r hr hb
  · rw [hF]
    intro i hi
    simp only [List.mem_cons] at hi ⊢
    rcases hi with rfl | rfl | rfl | hi
    · simp
    · simp
    · simp
    · rcases m2 i hi with h | ⟨_, h⟩
      · exact .inl (.inr (.inr (.inr h)))
      · exact .inr h

set_option maxHeartbeats 1600000 in
theorem Leave_tail {w : World} {pb : Nat} {F : List Nat} {M : BM} (h : BoardR w pb F M) (c : Int) (hc : goodI c) (k : Key) (x : Int) (l : List Int) (hm : mget M.cl c = some k) (hm2 : mget M.fl k = some (x :: l)) (hx : x ≠ c) (hll : l.length < 1000000) (hn : M.fl.length < 1000000) :
    Calls Try.prog 16 #[.pointer (some ⟨pb, 0, none⟩), .int .i64 c] w fun e w' => e = .returned (.tuple #[.slice none 0 0, .bool true]) ∧ Moved w w' pb F ⟨mput M.fl k ((x :: l).filter fun y => decide (y ≠ c)), mdel M.cl c⟩ := by
  have Hr : Hid (M.waits c = (k, true)) := Lib.hid (by simp [BM.waits, hm])
  have hk := good_key h hm2
  have Hm := Lib.hid hm2
  have hxc : (x == c) = false := by rw [beq_eq_false_iff_ne]; exact hx
  clear hm hm2
  go_enter Try.func16, Try.ntmps16
  go_wp2_with fail
  refine (Waits_any h c hc).mono ?_
  rintro e w1 ⟨rfl, ht⟩
  rw [Hr.out]; simp only [keyV]
  go_wp2_with fail
  -- the key's box
  have e0 : (boxK w1 k).heap[w1.heap.size]? = some (.cells #[.string k.db, .string k.role, .int .i64 k.format, .string k.norm] 28 (0, 0)) := heap_alloc_new w1 _
  have hT : Touch [] w (boxK w1 k) := ht.alloc _
  unfold boxK at e0 hT
  generalize w1.alloc (.cells #[.string k.db, .string k.role, .int .i64 k.format, .string k.norm] 28) = W at e0 hT ⊢
  have hB := h.kept hT (by simp)
  have hk0 : W.cell? ⟨w1.heap.size, 0, none⟩ = some (.string k.db) := by rw [cell_of e0]; rfl
  have hk1 : W.cell? ⟨w1.heap.size, 1, none⟩ = some (.string k.role) := by rw [cell_of e0]; rfl
  have hk2 : W.cell? ⟨w1.heap.size, 2, none⟩ = some (.int .i64 k.format) := by rw [cell_of e0]; rfl
  have hk3 : W.cell? ⟨w1.heap.size, 3, none⟩ = some (.string k.norm) := by rw [cell_of e0]; rfl
  obtain ⟨bf, g, cap, hc0, hg0, hl, hcl, hcapl, rs', hFt, hgm, hgn⟩ := board_look hB k hk x l Hm.out
  obtain ⟨bf', bc, rs, h1, h2, h3, h4, h5, hF, hnd⟩ := h
  have c0 : w.cell? ⟨pb, 0, none⟩ = some (.map (some bf')) := by rw [cell_of h1]; rfl
  have c1 : w.cell? ⟨pb, 1, none⟩ = some (.map (some bc)) := by rw [cell_of h1]; rfl
  obtain rfl : bf' = bf := by
    have := hT.cell c0 (by simp)
    rw [hc0] at this
    simpa using this.symm
  have d1 := hT.cell c1 (by simp)
  have hnd' := hnd
  rw [hF] at hnd'
  simp only [List.nodup_cons, List.mem_cons, not_or, mem_rowBlocks, not_exists, not_and] at hnd'
  obtain ⟨⟨n1, n2, n3⟩, ⟨n4, n5⟩, n6, n7⟩ := hnd'
  have hgbf : g ≠ pb ∧ g ≠ bf' ∧ g ≠ bc := by
    rw [hF] at hgn
    simpa using hgn
  have Hcl := Lib.hid hcl
  have hsz : w1.heap.size < W.heap.size := heap_lt e0
  clear c0 c1 hcl
  go_quiet (fail)
  have h3W : MapT (W.drewN nq) bc intV goodI (M.cl.map fun c => (c.1, keyV c.2)) := h3.of_block (hT.block bc h3.lt (by simp))
  have hT1 : Touch [] w (W.drewN nq) := hT.drewN nq
  go_wp2_with (at_delete; refine wpList_mt_delete _ rfl _ _ 62 28 rfl encI Try.underlying62 h3W hc rfl rfl ?_; intro W2 h3b hT2)
  have T2 : Touch [bc] w W2 := (hT1.mono (by simp)).trans hT2 (by simp)
  have w1bc : w1.heap.size ≠ bc := fun e => by have := h3.lt; have := ht.size; omega
  have TW : Touch [bc] W W2 := ((Touch.refl [bc] W).drewN nq).trans hT2 (by simp)
  have p0 := TW.cell hc0 (by simp; exact n2)
  have p1 := TW.cell hk0 (by simp; exact w1bc)
  have p2 := TW.cell hk1 (by simp; exact w1bc)
  have p3 := TW.cell hk2 (by simp; exact w1bc)
  have p4 := TW.cell hk3 (by simp; exact w1bc)
  have h2W : MapT W2 bf' keyV goodK (rs.map fun r => (r.1, r.2.1)) := h2.of_block (T2.block bf' h2.lt (by simp; exact n4))
  obtain ⟨v0, hr⟩ : ∃ v0, mget rs k = some (v0, x :: l) := by
    have : mget M.fl k = (mget rs k).map (·.2) := by rw [h4]; exact mget_map _ rs k
    rw [Hm.out] at this
    cases hq : mget rs k with
    | none => simp [hq] at this
    | some r => rw [hq] at this; simp at this; exact ⟨r.1, by rw [this]⟩
  have hl2 : ∀ nq, (Instr.lookup 61 (.map (some bf')) (.agg #[.string k.db, .string k.role, .int .i64 k.format, .string k.norm]) false).run Try.prog (W2.drewN nq) = .ok (.slice (some ⟨g, 0, none⟩) (l.length + 1) cap) (W2.drewN nq) := by
    intro nq
    have a1 := (h2W.of_block (w' := W2.drewN nq) rfl).look_hit encK Try.underlying61 hk (by rw [mget_map, hr]; rfl) false
    have a2 := ((h2.of_block (hT.block bf' h2.lt (by simp))).of_block (w' := W.drewN 0) rfl).look_hit encK Try.underlying61 hk (by rw [mget_map, hr]; rfl) false
    have a3 := hl 0
    simp only [keyV, Bool.false_eq_true, if_false] at a1 a2
    rw [a2] at a3
    simp only [Result.ok.injEq, and_true] at a3
    rw [a1, a3]
  have Hcl2 : Hid (∀ j, j < l.length + 1 → W2.cell? ⟨g, j, none⟩ = some (.int .i64 ((x :: l).getD j 0))) := Lib.hid (fun j hj => TW.cell (Hcl.out j hj) (by simp; exact hgbf.2.2))
  have H5 := Lib.hid (And.intro h1 (And.intro h2 (And.intro h3 (And.intro h5 (And.intro h4 (And.intro hF hnd))))))
  have HT2 := Lib.hid T2
  clear hl hc0 hk0 hk1 hk2 hk3 d1 h3W h1 h2 h3 h5 h4 hF hnd hFt hgm hgn hT2 TW T2 hT1 e0 hg0
  go_quiet (fail)
  go_wp2_with fail
  have Hst := Lib.hid (fun (v : Value) (W5 : World) h1 h2 h3 h4 => leave_close (v := v) (W5 := W5) (l := (x :: l).filter fun y => decide (y ≠ c)) (cl' := mdel M.cl c) H5.out.1 H5.out.2.1 H5.out.2.2.1 H5.out.2.2.2.1 H5.out.2.2.2.2.1 H5.out.2.2.2.2.2.1 H5.out.2.2.2.2.2.2 HT2.out (h3b.of_eq (mdel_map keyV _ _)) (h1 : Touch [bf'] W2 W5) (h2 : MapT W5 bf' keyV goodK (mput (rs.map fun r => (r.1, r.2.1)) k v)) h3 h4)
  obtain ⟨i0, hi0, hz0, hz1, hz2⟩ := info_parts infoI
  have hTq : Touch [] W2 (W2.drewN nq) := (Touch.refl [] W2).drewN nq
  have hW2lt := h2W.lt
  have hglt : g < W2.heap.size := World.block_lt_of_cell? W2 _ (Hcl2.out 0 (by omega))
  have hkw : w1.heap.size < W2.heap.size := World.block_lt_of_cell? W2 _ p1
  have hpw : pb < W2.heap.size := World.block_lt_of_cell? W2 _ p0
  have hww : w.heap.size ≤ W2.heap.size := HT2.out.size
  clear hcapl hr hl2
  generalize W2.drewN nq = Wq at hTq ⊢
  go_loopw [11, 52] (fun v i wr => ∃ j : Nat, j ≤ l.length + 1 ∧ i = .int .i64 j ∧ Touch [] W2 wr ∧ wr.ownsRow 0 3 1 v (((x :: l).take j).filter fun y => decide (y ≠ c)).length (intsV (((x :: l).take j).filter fun y => decide (y ≠ c))) ∧ ∀ i, v.ownBlock = some i → W2.heap.size ≤ i) (fun _ i _ => l.length + 1 - (intOf i).toNat)
  case atStart => exact ⟨0, Nat.zero_le _, rfl, hTq, World.ownsRow_nil _ _ _ _, fun i hi => by simp [Value.ownBlock] at hi⟩
  case round =>
    obtain ⟨j, hj, rfl, hTr, hOr, hBr⟩ := hrel
    by_cases hlt : j < l.length + 1
    · have hcj := hTr.cell (Hcl2.out j hlt) (by simp)
      have hjl : j < (x :: l).length := by simpa using hlt
      have htake : Hid (((x :: l).take (j + 1)).filter (fun y => decide (y ≠ c)) = ((x :: l).take j).filter (fun y => decide (y ≠ c)) ++ if (x :: l).getD j 0 = c then [] else [(x :: l).getD j 0]) := Lib.hid (by
        rw [List.take_succ_eq_append_getElem hjl, List.filter_append, List.getD_eq_getElem?_getD, List.getElem?_eq_getElem hjl]
        congr 1
        simp only [Option.getD_some, List.filter_cons, List.filter_nil]
        by_cases h : (x :: l)[j] = c <;> simp [h])
      have hlen : (((x :: l).take j).filter fun y => decide (y ≠ c)).length ≤ j := Nat.le_trans (List.length_filter_le _ _) (List.length_take_le _ _)
      generalize (x :: l).getD j 0 = y at hcj htake
      generalize hr : ((x :: l).take j).filter (fun y => decide (y ≠ c)) = r at hOr htake hlen
      by_cases hy : y = c
      · have hyc : (y == c) = true := by rw [beq_iff_eq]; exact hy
        have Htake := Lib.hid (show ((x :: l).take (j + 1)).filter (fun y => decide (y ≠ c)) = r by rw [htake.out, if_pos hy, List.append_nil])
        clear htake hy
        go_wp2_with fail
        go_roundw
        case rel => exact ⟨j + 1, by omega, by go_num, hTr, by rw [Htake.out]; exact hOr, hBr⟩
        case measure => simp [intOf]; omega
      · have hyc : (y == c) = false := by rw [beq_eq_false_iff_ne]; exact hy
        have Htake := Lib.hid (show ((x :: l).take (j + 1)).filter (fun y => decide (y ≠ c)) = r ++ [y] by rw [htake.out, if_neg hy])
        clear htake hy
        have Hnew : Hid (∀ j u, [Value.int .i64 y][j]? = some u → (wr.alloc (Obj.cells #[.int .i64 y] 3)).cell? ((⟨wr.heap.size, 0, none⟩ : Addr).add j) = some u) := Lib.hid (news_of (cs := #[.int .i64 y]) (t := 3) (fr := (0, 0)) (heap_alloc_new wr _))
        have hOa := Lib.hid (own_touch hOr (((Touch.refl [] wr).alloc (Obj.cells #[.int .i64 y] 3))) (fun i hi => by simp))
        go_wp2_with (at_builtin; go_loud (refine wpList_append_own_at _ rfl _ _ 37 rfl 0 3 i0 (.int .i64 0) 1 8 Try.underlying37 hi0 hz0 hz1 hz2 rfl (by decide) _ r.length (intsV r) rfl hOa.out ⟨wr.heap.size, 0, none⟩ 1 1 [.int .i64 y] rfl rfl Hnew.out (by simp [Value.oneCell']) (by simp [maxLen]; omega) (by omega) (Nat.zero_le _) ?_); intro v' w2 hown2 hg2 _ hloc)
        have hT2 : Touch [] W2 w2 := (hTr.alloc _).grownBy hg2 (fun i hi => .inr (hBr i hi))
        go_roundw
        case rel => exact ⟨j + 1, by omega, by go_num, hT2, by rw [Htake.out]; simpa [intsV] using hown2, fun i hi => by
          rcases hloc with h | h
          · exact hBr i (h.symm.trans hi)
          · rw [hi] at h; cases h; have := hTr.size; simp; omega⟩
        case measure => simp [intOf]; omega
    · have hjl : j = l.length + 1 := by omega
      have hall : (x :: l).take j = x :: l := List.take_of_length_le (by simp; omega)
      rw [hall] at hOr
      have hlen : ((x :: l).filter fun y => decide (y ≠ c)).length < 1000001 := Nat.lt_of_le_of_lt (List.length_filter_le _ _) (by simp; omega)
      generalize hreq : (x :: l).filter (fun y => decide (y ≠ c)) = r at hOr Hst hlen
      have Hreq := Lib.hid hreq
      clear hreq
      have q0 := hTr.cell p0 (by simp)
      have q1 := hTr.cell p1 (by simp)
      have q2 := hTr.cell p2 (by simp)
      have q3 := hTr.cell p3 (by simp)
      have q4 := hTr.cell p4 (by simp)
      have h2r := h2W.of_block (hTr.block bf' hW2lt (by simp))
      have hrl : (rs.map fun r => (r.1, r.2.1)).length < maxLen := by
        have := H5.out.2.2.2.2.1
        rw [this] at hn
        simp [maxLen] at hn ⊢; omega
      obtain ⟨A, cp, hv⟩ := own_slice' hOr
      clear p0 p1 p2 p3 p4 hall
      subst hv
      go_wp2_with fail
      go_still_tail 6, (by kernel_rfl)
      change wpList _ _ _ _ _ wr.drew
      refine wpList_mt_store wr.drew rfl _ _ _ 61 37 rfl encK Try.underlying61 (h2r.of_block (w' := wr.drew) rfl) hrl hk rfl rfl (.slice A r.length cp) rfl ?_
      intro W5 h5b hT5
      have T5 : Touch [bf'] W2 W5 := ((hTr.mono (by simp)).drew).trans hT5 (fun i hi => .inl hi)
      have hO5 : W5.ownsRow 0 3 1 (.slice A r.length cp) r.length (intsV r) := own_touch hOr (((Touch.refl [bf'] wr).drew).trans hT5 (fun i hi => .inl hi)) (fun i hi => by
        have := hBr i hi
        simp; omega)
      have hM := Hst.out _ W5 T5 h5b hO5 (fun i hi => Nat.le_trans hww (hBr i hi))
      clear h5b hT5 hO5 hOr h2r
      go_wp2
      go_ret2
      rw [Hreq.out]
      exact ⟨rfl, hM⟩

/-- Leave, where the board's lists are as they ought to be. -/
theorem Leave_any {w : World} {pb : Nat} {F : List Nat} {M : BM} (h : BoardR w pb F M) (c : Int) (hc : goodI c) (hcs : ∀ k l, mget M.fl k = some l → ∀ x ∈ l, goodI x) (hll : ∀ k l, mget M.fl k = some l → l.length < 1000000) (hn : M.fl.length < 1000000)
    (hw : ∀ k, mget M.cl c = some k → ∃ x l, mget M.fl k = some (x :: l)) :
    Calls Try.prog 16 #[.pointer (some ⟨pb, 0, none⟩), .int .i64 c] w fun e w' => ∃ v F', e = .returned (.tuple #[v, .bool (M.leave c).2.1]) ∧
      BoardR w' pb F' (M.leave c).2.2 ∧ Touch F w w' ∧ (∀ i ∈ F', i ∈ F ∨ w.heap.size ≤ i) ∧ Handed w w' F' v (M.leave c).1 := by
  have hnil : ∀ (w' : World) F', Handed w w' F' (.slice none 0 0) [] := fun w' F' => ⟨World.ownsRow_nil _ _ _ _, fun i hi => by simp [Value.ownBlock] at hi⟩
  unfold BM.leave
  cases hm : mget M.cl c with
  | none => exact (Leave_none h c hc hm).mono fun e w' ⟨he, ht⟩ => ⟨_, F, he, h.kept ht (by simp), ht.mono (by simp), fun i hi => .inl hi, hnil _ _⟩
  | some k =>
    obtain ⟨x, l, hxl⟩ := hw k hm
    have hl := hll k _ hxl
    simp only [hxl]
    by_cases hx : x = c
    · subst hx
      rw [if_pos rfl]
      exact (Leave_head h x hc k l hm hxl (hcs k _ hxl) (by simp at hl; omega)).mono fun e w' ⟨v, F', he, r1, r2, r3, r4⟩ => ⟨v, F', he, r1, r2, fun i hi => .inl (r3 i hi), r4⟩
    · rw [if_neg hx]
      exact (Leave_tail h c hc k x l hm hxl hx (by simp at hl; omega) hn).mono fun e w' ⟨he, F', r1, r2, r3⟩ => ⟨_, F', he, r1, r2, r3, hnil _ _⟩
end Go.Proofs.Ytjmgookpmngmaab
