/- The cells of a row whose mark lies behind its capacity (a row that a conversion of a text has made): what append of one cell does to it. -/
import Derived.Laws.AppendOwn
import Derived.Laws.NewBlocks
import Derived.Lib.ConvBytes
import Derived.Below
import Derived.OwnWalk
namespace Go.Proofs.Ytgfppniifjabdaa
open Go

/-- A row of one-cell elements of the call's own; its mark, if it has one, lies behind its cells. -/
def OwnB (w : World) (base : Nat) (e : TypeId) (v : Value) (xs : List Value) : Prop :=
  ∃ g cap cur fr, v = .slice (some ⟨g, 0, none⟩) xs.length cap ∧ base ≤ g ∧ w.heap[g]? = some (.cells cur e fr) ∧ (fr.2 = 0 ∨ cur.size ≤ fr.1) ∧
    xs.length ≤ cap ∧ cap ≤ maxLen ∧ cur.size = cap ∧ cur.toList.take xs.length = xs

theorem run_storeCells_one_mark (P : Program) (g o : Nat) (t : TypeId) (v : Value) (cur : Array Value) (fr : Nat × Nat) (w : World) (hg : w.heap[g]? = some (.cells cur t fr)) (hf : fr.2 = 0 ∨ cur.size ≤ fr.1)
    (hl : o < cur.size) (h1 : v.oneCell' = true) :
    (storeCells ⟨g, o, none⟩ [v] 0).run P w = .ok () (w.setRow g (cur.toList.take o ++ [v] ++ cur.toList.drop (o + 1)).toArray) := by
  have hadd : (⟨g, o, none⟩ : Addr).add 0 = ⟨g, o, none⟩ := by unfold Addr.add; split <;> simp_all
  have hcell : w.cell? ⟨g, o, none⟩ = some cur[o] := by simp [World.cell?, hg, hl]
  have hfro : w.frozen? ⟨g, o, none⟩ = false := by
    simp only [World.frozen?, hg]
    rcases hf with hf | hf
    · simp [hf]
    · have : ¬ fr.1 ≤ o := by omega
      simp [this]
  have hst : (store ((⟨g, o, none⟩ : Addr).add 0) v).run P w = .ok () (w.setRow g (cur.setIfInBounds o v)) := by
    rw [hadd, run_store P w _ v _ h1, hcell]
    simp [hfro, setCell_eq_setRow w g o cur t fr v hg]
  have e := list_seg_step cur.toList o v [] (by simp; omega)
  simp only [storeCells, Sem.run_bind, hst, Result.andThen_ok]
  have e2 : (cur.setIfInBounds o v) = (cur.toList.take o ++ [v] ++ cur.toList.drop (o + 1)).toArray := by
    apply Array.toList_inj.1
    simp only [List.append_nil, List.length_nil, Nat.add_zero] at e
    simpa [Array.toList_setIfInBounds] using e
  rw [e2]
  rfl

section
variable {P : Program} (w : World)

theorem run_append_ownB (base : Nat) (t ty e : TypeId) (i : TypeInfo) (z : Value) (bytes : Nat) (ht : P.underlying t = some (.slice e)) (hi : P.info? e = some i) (hz : i.zero = some z)
    (hsize : i.size = 1) (hby : i.bytes = bytes) (hzs : z.cells.size = 1)
    (v : Value) (xs : List Value) (hown : OwnB w base e v xs)
    (a : Addr) (c : Nat) (y : Value) (hnews : w.cell? a = some y) (h1 : y.oneCell' = true)
    (hbytes : (xs.length + 1) * bytes ≤ 140737488355328) (hb0 : 0 < bytes) (hbase : base ≤ w.heap.size) :
    ∃ v' w', (Builtin.append_ #[t, t] ty #[v, .slice (some a) 1 c]).run P w = .ok v' w' ∧ OwnB w' base e v' (xs ++ [y]) ∧ w.grownBy w' v.ownBlock ∧
      (v'.ownBlock = v.ownBlock ∨ v'.ownBlock = some w.heap.size) := by
  have hxl : xs.length + 1 ≤ 140737488355328 := Nat.le_trans (Nat.le_mul_of_pos_right _ hb0) hbytes
  subst hby
  have hnews' : ∀ j u, [y][j]? = some u → w.cell? (a.add j) = some u := by
    intro j u hu
    cases j with
    | zero => simp at hu; subst hu; have : a.add 0 = a := by cases a; unfold Addr.add; split <;> simp_all
              rw [this]; exact hnews
    | succ j => simp at hu
  obtain ⟨g, cap, cur, fr, rfl, hbg, hg, hfr, hnc, hcm, hcs, htake⟩ := hown
  have hfn := run_firstCells_some (P := P) w i.size 1 a 1 c [y] (by simp [hsize]) hnews'
  by_cases hroom : xs.length + 1 ≤ cap
  · have hst := run_storeCells_one_mark P g xs.length e y cur fr w hg hfr (by omega) h1
    have hadd : (⟨g, 0, none⟩ : Addr).add xs.length = ⟨g, xs.length, none⟩ := by unfold Addr.add; split <;> simp_all
    refine ⟨.slice (some ⟨g, 0, none⟩) (xs.length + 1) cap, w.setRow g (cur.toList.take xs.length ++ [y] ++ cur.toList.drop (xs.length + 1)).toArray, ?_, ⟨g, cap, _, fr, ?_, hbg, setRow_heap w g cur _ e _ hg, ?_, ?_, hcm, ?_, ?_⟩, ⟨rfl, rfl, rfl, by simp, fun k _ hk => setRow_other w g k _ (fun e => hk (by simp [Value.ownBlock, e]))⟩, .inl rfl⟩
    · rw [hsize] at hfn
      simp [Builtin.append_, run_underlying ht, sizeOf, typeInfo, hi, Builtin.lenOf, hroom, hfn, hsize, hadd, hst]
    · simp
    · rcases hfr with hfr | hfr
      · exact .inl hfr
      · refine .inr ?_
        simp
        omega
    · simp; omega
    · simp; omega
    · simp only [List.length_append, List.length_cons, List.length_nil]
      rw [htake]
      have : (xs ++ [y] ++ cur.toList.drop (xs.length + 1)).take (xs.length + (0 + 1)) = xs ++ [y] := by
        have h := List.take_left (l₁ := xs ++ [y]) (l₂ := cur.toList.drop (xs.length + 1))
        simpa using h
      simpa using this
  · have holds : ∀ j u, xs[j]? = some u → w.cell? ((⟨g, 0, none⟩ : Addr).add j) = some u := by
      intro j u hu
      have hadd : (⟨g, 0, none⟩ : Addr).add j = ⟨g, j, none⟩ := by unfold Addr.add; split <;> simp_all
      rw [hadd, cell_of_row w g j cur e fr hg]
      rw [← htake, List.getElem?_take] at hu
      split at hu
      · simpa using hu
      · cases hu
    have hge := grownCap_ge w (xs.length + 1) cap e
    have hcmx : grownCap w (xs.length + 1) cap e ≤ maxLen := grownCap_le_maxLen w (xs.length + 1) cap e (by unfold maxLen; omega)
    have hr := run_append_grow (P := P) w t ty e i z ht hi hz ⟨g, 0, none⟩ xs.length cap xs (by simp [hsize]) holds a 1 c [y] (by simp [hsize]) hnews' (by omega) (by omega) (growslice_fits (by omega) hbytes)
    refine ⟨_, _, hr, ⟨w.heap.size, _, _, (0, 0), ?_, hbase, heap_alloc_new w.drew _, .inl rfl, ?_, hcmx, ?_, ?_⟩, ⟨rfl, rfl, rfl, by simp, fun k hk _ => heap_alloc_old w.drew _ k hk⟩, .inr rfl⟩
    · simp
    · simpa using hge
    · simp only [Array.size_append, List.size_toArray, size_zeroCells, hzs]
      simp
      omega
    · simp only [Array.toList_append, List.append_assoc]
      have h := List.take_left (l₁ := xs ++ [y]) (l₂ := (Builtin.zeroCells z.cells (grownCap w (xs.length + 1) cap e - (xs.length + 1))).toList)
      simpa using h

theorem wpList_append_ownB {ops : Array Oper} {rest : List Oper} {o : Oper} {a : Act} {Q : Exit → Act → World → Prop} (hgd : o.guard = none) (s x : Operand) (t : TypeId)
    (ho : o.op = .call { callee := .builtin .append, args := #[s, x], argTypes := #[t, t] })
    (base : Nat) (e : TypeId) (i : TypeInfo) (z : Value) (bytes : Nat) (ht : P.underlying t = some (.slice e)) (hi : P.info? e = some i) (hz : i.zero = some z)
    (hsize : i.size = 1) (hby : i.bytes = bytes) (hzs : z.cells.size = 1)
    (v : Value) (xs : List Value) (hs : a.eval s = v) (hown : OwnB w base e v xs)
    (ad : Addr) (c : Nat) (y : Value) (hx : a.eval x = .slice (some ad) 1 c) (hnews : w.cell? ad = some y) (h1 : y.oneCell' = true)
    (hbytes : (xs.length + 1) * bytes ≤ 140737488355328) (hb0 : 0 < bytes) (hbase : base ≤ w.heap.size)
    (h : ∀ v' w', OwnB w' base e v' (xs ++ [y]) → w.grownBy w' v.ownBlock → (v'.ownBlock = v.ownBlock ∨ v'.ownBlock = some w.heap.size) → wpList P ops Q rest (a.put o.dst v') w') : wpList P ops Q (o :: rest) a w := by
  refine wpList_plain hgd fun _ hK => ?_
  obtain ⟨v', w', hr, h2, h3, h4⟩ := run_append_ownB (P := P) w base t o.type e i z bytes ht hi hz hsize hby hzs v xs hown ad c y hnews h1 hbytes hb0 hbase
  unfold Oper.wp execOp
  simp only [ho, resolve, invoke, builtin, Sem.run_bind, Sem.run_pure, Result.andThen_ok, List.map_toArray, List.map_cons, List.map_nil, hs, hx, hr]
  exact hK _ _ (h v' w' h2 h3 h4)
end

theorem OwnB.lt {w : World} {base : Nat} {e : TypeId} {v : Value} {xs : List Value} (h : OwnB w base e v xs) : ∀ k, v.ownBlock = some k → base ≤ k ∧ k < w.heap.size := by
  obtain ⟨g, cap, cur, fr, rfl, hbg, hg, _⟩ := h
  intro k hk
  simp [Value.ownBlock] at hk
  subst hk
  exact ⟨hbg, (Array.getElem?_eq_some_iff.1 hg).1⟩

theorem OwnB.kept {w w' : World} {row : Option Nat} {base : Nat} {e : TypeId} {v : Value} {xs : List Value} (h : OwnB w base e v xs) (hg : w.grownBy w' row) (hne : v.ownBlock ≠ row) : OwnB w' base e v xs := by
  obtain ⟨g, cap, cur, fr, rfl, hbg, hgg, rest⟩ := h
  refine ⟨g, cap, cur, fr, rfl, hbg, ?_, rest⟩
  rw [hg.block g (Array.getElem?_eq_some_iff.1 hgg).1 (by simpa [Value.ownBlock] using hne)]
  exact hgg

theorem OwnB.alloc {w : World} {base : Nat} {e : TypeId} {v : Value} {xs : List Value} (h : OwnB w base e v xs) (o : Obj) : OwnB (w.alloc o) base e v xs :=
  h.kept (World.grownBy_alloc w o none) (by obtain ⟨g, cap, cur, fr, rfl, _⟩ := h; simp [Value.ownBlock])

theorem OwnB.cells {w : World} {base : Nat} {e : TypeId} {v : Value} {xs : List Value} (h : OwnB w base e v xs) {g : Nat} (hg : v.ownBlock = some g) : ∀ j u, xs[j]? = some u → w.cell? ((⟨g, 0, none⟩ : Addr).add j) = some u := by
  obtain ⟨g', cap, cur, fr, rfl, hbg, hgg, _, _, _, _, htake⟩ := h
  simp [Value.ownBlock] at hg
  subst hg
  intro j u hu
  have hadd : (⟨g', 0, none⟩ : Addr).add j = ⟨g', j, none⟩ := by unfold Addr.add; split <;> simp_all
  rw [hadd, cell_of_row w g' j cur e fr hgg]
  rw [← htake, List.getElem?_take] at hu
  split at hu
  · simpa using hu
  · cases hu

/-- The row that a conversion of a text to bytes makes. -/
theorem OwnB_bytes (w : World) (base : Nat) (e : TypeId) (s : ByteArray) (hb : base ≤ w.heap.size) (hs : s.size ≤ maxLen) :
    OwnB (Lib.bytesWorld w e s) base e (.slice (some ⟨w.heap.size, 0, none⟩) s.size (grownCap w s.size 0 e)) (s.data.toList.map fun b => Value.int .u8 b.toNat) := by
  have hge := grownCap_ge w s.size 0 e
  have hcm := grownCap_le_maxLen w s.size 0 e hs
  have hsz : (Lib.bytesCells w e s).size = grownCap w s.size 0 e := by
    simp only [Lib.bytesCells, Array.size_append, Array.size_map, Array.size_replicate]
    change s.size + (grownCap w s.size 0 e - s.size) = _
    omega
  refine ⟨w.heap.size, grownCap w s.size 0 e, Lib.bytesCells w e s, _, ?_, hb, Lib.bytesWorld_at_new w e s, .inr (Nat.le_refl _), ?_, hcm, hsz, ?_⟩
  · simp
  · simp only [List.length_map, Array.length_toList]; exact hge
  · simp only [Lib.bytesCells, Array.toList_append, Array.toList_map, List.length_map]
    exact List.take_left' (by simp)

theorem grownBy_bytes (w : World) (e : TypeId) (s : ByteArray) (row : Option Nat) : w.grownBy (Lib.bytesWorld w e s) row := by
  refine ⟨?_, ?_, ?_, by rw [Lib.bytesWorld_size]; omega, fun k hk _ => Lib.bytesWorld_at_old w e s k hk⟩ <;> rfl

end Go.Proofs.Ytgfppniifjabdaa
