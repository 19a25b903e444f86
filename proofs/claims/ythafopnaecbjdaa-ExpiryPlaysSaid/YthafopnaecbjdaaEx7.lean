/- A queue's remove. -/
import Derived.Test.YthafopnaecbjdaaEx6
namespace Go.Proofs.Ythafopnaecbjdaa
open Go Go.RowKit Go.Maps Go.Proofs.YthafopnaecbjdaaW.PrintWords Go.Proofs.YthafopnaecbjdaaW.PrintLast

section
variable {w w' : World} {p mb : Nat} {hv : Value} {H : List It} {P : List (ByteArray × Value)} {sets : Int}
theorem results_c1 {P : Program} {fn : Func} {p : Tmp} {ty : TypeId} (h : fn.results = #[.cell p ty]) (tmps : Array Value) (w : World) (g : Nat) (t : TypeId) (cs : Array Value) (fr : Nat × Nat) (d : TypeDesc)
    (hp : tmps.getD p undef = .pointer (some ⟨g, 0, none⟩)) (hg : w.heap[g]? = some (.cells cs t fr))
    (hu : P.underlying ty = some d) (hd : (match d with | .struct _ | .array _ _ => true | _ => false) = true) (hi : (P.info? ty).map (·.size) = some cs.size) :
    (results fn tmps).run P w = .ok (.agg cs) w := by
  have hp' : tmps[p]?.getD undef = .pointer (some ⟨g, 0, none⟩) := by simpa using hp
  simp [results, h, hp', asAddr, run_loadVar_row w g t ty cs fr d hg hu hd hi]
def BoxS (w : World) (g : Nat) (x : It) : Prop := w.heap[g]? = some (.cells #[.string x.key, .int .i64 x.at_, .int .i64 x.num] 52 (0, 0))
theorem BoxS.cells {g : Nat} {x : It} (h : BoxS w g x) : w.cell? ⟨g, 0, none⟩ = some (.string x.key) ∧ w.cell? ⟨g, 1, none⟩ = some (.int .i64 x.at_) ∧ w.cell? ⟨g, 2, none⟩ = some (.int .i64 x.num) ∧ w.frozen? ⟨g, 0, none⟩ = false ∧ w.frozen? ⟨g, 1, none⟩ = false ∧ w.frozen? ⟨g, 2, none⟩ = false :=
  ⟨(cell_of h 0).trans rfl, (cell_of h 1).trans rfl, (cell_of h 2).trans rfl, frozen_of h 0, frozen_of h 1, frozen_of h 2⟩
theorem BoxS.touch {g : Nat} {x : It} (h : BoxS w g x) {S : List Nat} (t : Touch S w w') (hs : g ∉ S) : BoxS w' g x := (t.block g (heap_lt h) hs).trans h
theorem BoxS.put {g : Nat} {x : It} (h : BoxS w g x) (y : It) : BoxS (((w.setCell ⟨g, 0, none⟩ (.string y.key)).setCell ⟨g, 1, none⟩ (.int .i64 y.at_)).setCell ⟨g, 2, none⟩ (.int .i64 y.num)) g y :=
  (block_set (block_set (block_set h _) _) _).trans rfl
def xz : It := ⟨⟨#[]⟩, 0, 0⟩
theorem Places.cut {L : List It} {x : It} (h : Places P (L ++ [x])) : Places (mdel P x.key) L := by
  have hn := h.nodup
  rw [List.map_append, List.nodup_append] at hn
  refine ⟨hn.1, fun j y hj => ?_, fun k hk => ?_⟩
  · have hne : x.key ≠ y.key := fun e => hn.2.2 y.key (List.mem_map.2 ⟨y, List.mem_of_getElem? hj, rfl⟩) x.key (by simp) e.symm
    rw [mget_mdel, if_neg hne]
    exact h.hit j y (by rw [List.getElem?_append_left (List.getElem?_eq_some_iff.1 hj).1]; exact hj)
  · rw [mget_mdel]
    split
    · rfl
    · rename_i hne
      refine h.miss k fun y hy => ?_
      rcases List.mem_append.1 hy with hy | hy
      · exact hk y hy
      · simp only [List.mem_singleton] at hy
        subst hy
        exact hne
theorem cutI_eq (H : List It) (i : Nat) (hi : i < H.length) : swI H i (H.length - 1) = Hp.cutL z0 H i ++ [atI H i] := by
  have hl : (swI H i (H.length - 1)).length = H.length := Hp.sw_len z0 H i (H.length - 1)
  have hlt : H.length - 1 < (swI H i (H.length - 1)).length := by rw [hl]; omega
  conv => lhs; rw [← List.take_append_drop (H.length - 1) (swI H i (H.length - 1))]
  unfold Hp.cutL
  congr 1
  rw [List.drop_eq_getElem_cons hlt, List.drop_of_length_le (by rw [hl]; omega), ← Hp.at_lt z0 _ _ hlt]
  have := at_swI H i (H.length - 1) (H.length - 1) hi (by omega) (by omega)
  rw [if_pos rfl] at this
  exact congrArg (fun q => [q]) this
/-- The row, its last one let go. -/
theorem RowI.cut {hb n m cp : Nat} {L : List It} {x : It} (h : RowI w (.slice (some ⟨hb, 0, none⟩) n cp) (L ++ [x])) (hm : L.length = m) : RowI w (.slice (some ⟨hb, 0, none⟩) m cp) L ∧ m < cp ∧ cp ≤ maxLen := by
  subst hm
  rcases h with ⟨h1, _⟩ | ⟨hb', cp', C, e, hh, hs, hl, hm, hx⟩
  · cases h1
  · cases e
    rw [List.length_append, List.length_singleton] at hl
    refine ⟨.inr ⟨hb, cp, C, rfl, hh, hs, by omega, hm, fun j y hj => hx j y ?_⟩, by omega, hm⟩
    rw [List.getElem?_append_left (List.getElem?_eq_some_iff.1 hj).1]
    exact hj
theorem QA.cutS {hb n m cp : Nat} {L : List It} {x : It} (h : QA w p mb (.slice (some ⟨hb, 0, none⟩) n cp) (L ++ [x]) P sets) (hm : L.length = m) : QA (w.setCell ⟨p, 0, none⟩ (.slice (some ⟨hb, 0, none⟩) m cp)) p mb (.slice (some ⟨hb, 0, none⟩) m cp) L P sets := by
  have hp : p ≠ hb := by
    rintro rfl
    rcases h.row with ⟨e, _⟩ | ⟨hb, cp, C, e, hh, _⟩
    · cases e
    · cases e
      have := h.blk
      rw [hh] at this
      cases this
  have hm2 : mb ≠ p := by
    rintro rfl
    obtain ⟨es, cl, hmm, _⟩ := h.map
    have := h.blk
    rw [hmm] at this
    cases this
  have t : Touch [p] w (w.setCell ⟨p, 0, none⟩ (.slice (some ⟨hb, 0, none⟩) m cp)) := (Touch.refl _ _).setCell _ (.inl (by simp))
  refine ⟨(block_set h.blk _).trans rfl, (h.row.cut hm).1.touch t (by simp [Value.ownBlock]; exact Ne.symm hp), h.map.of_block (t.block mb h.map.lt (by simpa using hm2)), fun y hy => h.keys y (by simp [hy])⟩
theorem QA.mapS (h : QA w p mb hv H P sets) {P' : List (ByteArray × Value)} (t : Touch [mb] w w') (m : MapT w' mb strV goodS P') : QA w' p mb hv H P' sets := by
  obtain ⟨es, cl, hmm, _⟩ := h.map
  refine ⟨(t.block p (heap_lt h.blk) (fun e => ?_)).trans h.blk, h.row.touch t (fun i hi e => ?_), m, h.keys⟩
  · simp only [List.mem_singleton] at e
    subst e
    have := h.blk
    rw [hmm] at this
    cases this
  · simp only [List.mem_singleton] at e
    subst e
    rcases h.row with ⟨e, _⟩ | ⟨hb, cp, C, e, hh, _⟩
    · subst e; cases hi
    · subst e
      simp only [Value.ownBlock, Option.some.injEq] at hi
      subst hi
      rw [hh] at hmm
      cases hmm
theorem downF_len (f : Nat) : ∀ (H : List It) (i : Nat), (Hp.downF z0 ltI f H i).length = H.length := by
  induction f with
  | zero => intro H i; rfl
  | succ f ih =>
    intro H i
    unfold Hp.downF
    split
    · rfl
    · rw [ih, Hp.sw_len]
theorem remI_lt {H : List It} {i m : Nat} (hn : H.length = m + 1) (h : i < m) : upI (m + 1) (downI (m + 1) (Hp.cutL z0 H i) i) i = remI H i := by
  unfold remI Hp.remF
  rw [hn, Nat.add_sub_cancel, if_pos h]
  rfl
theorem remI_ge {H : List It} {i m : Nat} (hn : H.length = m + 1) (h : ¬ i < m) : Hp.cutL z0 H i = remI H i := by
  unfold remI Hp.remF
  rw [hn, Nat.add_sub_cancel, if_neg h]
set_option maxHeartbeats 4000000 in
theorem remove_any {hb n cp : Nat} (h : QP w p mb (.slice (some ⟨hb, 0, none⟩) n cp) H sets) (hn : H.length = n) (hsm : n ≤ 100) (i : Nat) (hi : i < n) : Calls Try.prog 26 #[.pointer (some ⟨p, 0, none⟩), .int .i64 i] w fun e w' =>
    e = .returned (.agg #[.string (atI H i).key, .int .i64 (atI H i).at_, .int .i64 (atI H i).num]) ∧ QP w' p mb (.slice (some ⟨hb, 0, none⟩) (n - 1) cp) (remI H i) sets ∧ Touch (Foot p mb (.slice (some ⟨hb, 0, none⟩) n cp)) w w' := by
  obtain ⟨m, rfl⟩ : ∃ m, n = m + 1 := ⟨n - 1, by omega⟩
  rw [Nat.add_sub_cancel]
  have HQ := Lib.hid h
  have HN := Lib.hid hn
  obtain ⟨P, hqa, hpl⟩ := h
  obtain ⟨c0, c1, _⟩ := hqa.cells
  obtain ⟨hb', cp', e1, a0, a1, a2⟩ := hqa.at i _ (of_at (by omega))
  obtain ⟨rfl, rfl⟩ : hb = hb' ∧ cp = cp' := by injection e1 with q1 _ q3; injection q1 with q1; injection q1 with q1; exact ⟨q1, q3⟩
  clear e1
  obtain ⟨x, hx⟩ : ∃ x, x = atI H i := ⟨_, rfl⟩
  rw [← hx] at a0 a1 a2 ⊢
  have HX := Lib.hid hx
  have hui := Try.underlying52
  have hi1 : (i : Int) < m + 1 := by omega
  have hi0 : (0 : Int) ≤ i := by omega
  clear hqa hpl hx hn
  have HI := Lib.hid hi
  have HSM := Lib.hid hsm
  clear hi
  go_enter Try.func26, Try.ntmps26
  repeat ((fail_if_success (with_reducible refine gate_dst (N := 14) rfl ?_)); first | ((with_reducible refine gate_dst (N := 4) rfl ?_); refine box_event ?hg (N := 4) ?hd (cs := #[.string (⟨#[]⟩ : ByteArray), .int .i64 0, .int .i64 0]) (t := 52) ?hr ?_; (case hd => rfl); (case hg => rfl); (case hr => first | (go_simp; done) | (go_simp; rfl)); intro g4 hgb w4 hbox hb; have HB4 := Lib.hid hb; have BK4 := Lib.hid (show BoxS w4 g4 xz from hbox); have GE4 := Lib.hid hgb; have c04 := hb.cell (World.block_lt_of_cell? _ _ c0) |>.trans c0; have a04 := hb.cell (World.block_lt_of_cell? _ _ a0) |>.trans a0; have a14 := hb.cell (World.block_lt_of_cell? _ _ a1) |>.trans a1; have a24 := hb.cell (World.block_lt_of_cell? _ _ a2) |>.trans a2; clear hb hbox hgb) | ((with_reducible refine gate_dst (N := 5) rfl ?_); refine box_event ?hg (N := 5) ?hd (cs := #[.string (⟨#[]⟩ : ByteArray), .int .i64 0, .int .i64 0]) (t := 52) ?hr ?_; (case hd => rfl); (case hg => rfl); (case hr => first | (go_simp; done) | (go_simp; rfl)); intro g5 hgb w5 hbox hb; have HB5 := Lib.hid hb; have BK5 := Lib.hid (show BoxS w5 g5 xz from hbox); have hy0 := BK5.out.cells.1; have hy1 := BK5.out.cells.2.1; have hy2 := BK5.out.cells.2.2.1; have hf0 := frozen_of BK5.out 0; have hf1 := frozen_of BK5.out 1; have hf2 := frozen_of BK5.out 2; have GE5 := Lib.hid hgb; clear hb hbox hgb) | go_step3 | go_values | go_skip | go_guarded | go_step | go_upon)
  have HB6 := Lib.hid ((((HB4.out.trans (HB5.out.mono HB4.out.size)).setCell (p := ⟨g5, 0, none⟩) (by have := GE5.out; have := HB4.out.size; show _ ≤ g5; omega) (.string x.key)).setCell (p := ⟨g5, 1, none⟩) (by have := GE5.out; have := HB4.out.size; show _ ≤ g5; omega) (.int .i64 x.at_)).setCell (p := ⟨g5, 2, none⟩) (by have := GE5.out; have := HB4.out.size; show _ ≤ g5; omega) (.int .i64 x.num))
  have BK6 := Lib.hid (BK5.out.put x)
  have BX6 : Hid (BoxS (((w5.setCell ⟨g5, 0, none⟩ (.string x.key)).setCell ⟨g5, 1, none⟩ (.int .i64 x.at_)).setCell ⟨g5, 2, none⟩ (.int .i64 x.num)) g4 xz) := Lib.hid (by
    have e4 : BoxS w5 g4 xz := BK4.out.touch (Touch.of_below HB5.out) (by simp)
    have hne : g4 ≠ g5 := by have := GE5.out; have := heap_lt BK4.out; omega
    exact e4.touch (S := [g5]) ((((Touch.refl _ _).setCell _ (.inl (by simp))).setCell _ (.inl (by simp))).setCell _ (.inl (by simp))) (by simpa using hne))
  generalize (((w5.setCell ⟨g5, 0, none⟩ (.string x.key)).setCell ⟨g5, 1, none⟩ (.int .i64 x.at_)).setCell ⟨g5, 2, none⟩ (.int .i64 x.num)) = w6 at *
  have GN : Hid (w.heap.size ≤ g4 ∧ w.heap.size ≤ g5 ∧ g4 ≠ g5) := Lib.hid (by have := GE4.out; have := GE5.out; have := HB4.out.size; have := heap_lt BK4.out; omega)
  have HQ6 := Lib.hid (HQ.out.below HB6.out)
  have HFT : Hid (∀ j ∈ Foot p mb (.slice (some ⟨hb, 0, none⟩) (m + 1) cp), j ≠ g4 ∧ j ≠ g5) := Lib.hid (fun j hj => by have := HQ.out.foot_lt j hj; have := GN.out; omega)
  have c06 := HB6.out.cell (World.block_lt_of_cell? _ _ c0) |>.trans c0
  have hml : (Value.int .i64 ((m : Int) + 1 - 1)) = .int .i64 m := by congr 1; omega
  have HS := Lib.hid (swap_qp HQ6.out (by have := HN.out; have := HSM.out; omega) i m (by have := HN.out; have := HI.out; omega) (by have := HN.out; omega))
  clear a0 a1 a2 c0 c1 c04 a04 a14 a24 hy0 hy1 hy2 hf0 hf1 hf2
  repeat (first | go_step3 | go_values | go_skip | go_guarded | go_step | go_upon)
  (go_at_call 28; refine HS.out.mono ?_; rintro e w7 ⟨rfl, q7, t7⟩; have HQ7 := Lib.hid q7; have HT7 := Lib.hid t7; clear q7 t7; dsimp only)
  obtain ⟨L, hL⟩ : ∃ L, L = Hp.cutL z0 H i := ⟨_, rfl⟩
  have HL := Lib.hid hL
  have HLL : Hid (L.length = m) := Lib.hid (by rw [hL, Hp.cut_len, HN.out]; rfl)
  have HSW : Hid (swI H i m = L ++ [x]) := Lib.hid (by
    have := cutI_eq H i (by rw [HN.out]; exact HI.out)
    rw [HN.out, Nat.add_sub_cancel] at this
    rw [hL, HX.out]
    exact this)
  obtain ⟨P7, HQA7, HPL7⟩ : ∃ P7, Hid (QA w7 p mb (.slice (some ⟨hb, 0, none⟩) (m + 1) cp) (L ++ [x]) P7 sets) ∧ Hid (Places P7 (L ++ [x])) := by
    obtain ⟨P7, a, b⟩ := HQ7.out
    rw [HSW.out] at a b
    exact ⟨P7, Lib.hid a, Lib.hid b⟩
  clear hL
  obtain ⟨c07, c17, _, f07, _⟩ := HQA7.out.cells
  have hmc : (m : Int) ≤ cp := by have := (HQA7.out.row.cut HLL.out).2.1; omega
  have hm0 : (0 : Int) ≤ m := by omega
  have HMX : Hid (cp ≤ maxLen) := Lib.hid (HQA7.out.row.cut HLL.out).2.2
  repeat (first | go_step3 | go_values | go_skip | go_guarded | go_step | go_upon)
  have HQA8 := Lib.hid (HQA7.out.cutS HLL.out)
  have t8 : Touch (Foot p mb (.slice (some ⟨hb, 0, none⟩) (m + 1) cp)) w6 (w7.setCell ⟨p, 0, none⟩ (.slice (some ⟨hb, 0, none⟩) m cp)) := HT7.out.setCell _ (.inl (by simp [Foot]))
  have HX8 : Hid (BoxS (w7.setCell ⟨p, 0, none⟩ (.slice (some ⟨hb, 0, none⟩) m cp)) g5 x ∧ BoxS (w7.setCell ⟨p, 0, none⟩ (.slice (some ⟨hb, 0, none⟩) m cp)) g4 xz) := Lib.hid ⟨BK6.out.touch t8 (fun hh => (HFT.out _ hh).2 rfl), BX6.out.touch t8 (fun hh => (HFT.out _ hh).1 rfl)⟩
  have HT8 := Lib.hid ((Touch.of_below HB6.out |>.mono (S' := Foot p mb (.slice (some ⟨hb, 0, none⟩) (m + 1) cp)) (by simp)).trans t8 (fun _ h => .inl h))
  clear t8 c07 c17 f07 hmc
  generalize (w7.setCell ⟨p, 0, none⟩ (.slice (some ⟨hb, 0, none⟩) m cp)) = w8 at *
  obtain ⟨c08, c18, _⟩ := HQA8.out.cells
  obtain ⟨x0, _⟩ := HX8.out.1.cells
  have HGK : Hid (goodS x.key) := Lib.hid (HQA7.out.keys x (by simp))
  clear c06
  go_still_tail 6, (by kernel_rfl)
  refine wpList_mt_delete _ rfl _ _ _ _ rfl encS Try.underlying47 (HQA8.out.map.of_block rfl) HGK.out rfl rfl fun w9 m9 t9 => ?_
  have HQ9 : Hid (QP w9 p mb (.slice (some ⟨hb, 0, none⟩) m cp) L sets) := Lib.hid ⟨_, HQA8.out.mapS t9.undrew m9, HPL7.out.cut⟩
  have t9 := t9.undrew
  have HT9 := Lib.hid (HT8.out.trans t9 (fun j hj => .inl (by simp only [List.mem_singleton] at hj; subst hj; simp [Foot])))
  have HX9 : Hid (BoxS w9 g5 x ∧ BoxS w9 g4 xz) := Lib.hid ⟨HX8.out.1.touch t9 (fun hh => (HFT.out mb (by simp [Foot])).2 (List.mem_singleton.1 hh).symm), HX8.out.2.touch t9 (fun hh => (HFT.out mb (by simp [Foot])).1 (List.mem_singleton.1 hh).symm)⟩
  clear m9 t9 c08 c18 x0
  dsimp only
  by_cases him : i < m
  case neg =>
    have himi : ¬ (i : Int) < m := by omega
    have HRE : Hid (L = remI H i) := Lib.hid (by rw [HL.out]; exact remI_ge HN.out him)
    have HR9 := HQ9
    clear him
    have z := HX9.out.1.cells
    have y := HX9.out.2.cells
    obtain ⟨y0, y1, y2, _⟩ := HX9.out.1.cells
    obtain ⟨x0, x1, x2, fx0, fx1, fx2⟩ := HX9.out.2.cells
    clear z y
    repeat (first | go_step3 | go_values | go_skip | go_guarded | go_step | go_upon)
    refine bodyPost_ret (results_c1 rfl _ _ g4 52 _ (0, 0) _ rfl (HX9.out.2.put x) Try.underlying52 rfl (by kernel_rfl)) rfl ?_
    have tz : Touch [g4] w9 (((w9.setCell ⟨g4, 0, none⟩ (.string x.key)).setCell ⟨g4, 1, none⟩ (.int .i64 x.at_)).setCell ⟨g4, 2, none⟩ (.int .i64 x.num)) := ((((Touch.refl _ _).setCell _ (.inl (by simp))).setCell _ (.inl (by simp))).setCell _ (.inl (by simp)))
    exact ⟨rfl, by rw [← HRE.out]; exact HR9.out.kept tz (fun j hj => by have := (HFT.out j hj).1; simpa using this), HT9.out.trans tz (fun j hj => .inr (by simp only [List.mem_singleton] at hj; subst hj; exact GN.out.1))⟩
  case pos =>
    have himi : (i : Int) < m := by omega
    have HD := Lib.hid (down_any HQ9.out (by rw [HLL.out]; have := HSM.out; omega) i (m + 1) (by rw [HLL.out]; exact him) (by rw [HLL.out]; omega))
    have HIM := Lib.hid him
    clear him
    repeat (first | go_step3 | go_values | go_skip | go_guarded | go_step | go_upon)
    (go_at_call 29; refine HD.out.mono ?_; rintro e w10 ⟨rfl, q10, t10⟩; have HQ10 := Lib.hid q10; have HT10 := Lib.hid t10; clear q10 t10; dsimp only)
    have HDL : Hid ((downI (m + 1) L i).length = m) := Lib.hid ((downF_len _ _ _).trans HLL.out)
    have HU := Lib.hid (up_any HQ10.out (by rw [HDL.out]; have := HSM.out; omega) i (m + 1) (by rw [HDL.out]; exact HIM.out) (by have := HIM.out; omega))
    repeat (first | go_step3 | go_values | go_skip | go_guarded | go_step | go_upon)
    (go_at_call 25; refine HU.out.mono ?_; rintro e w11 ⟨rfl, q11, t11⟩; have HR9' := Lib.hid q11; have HT11 := Lib.hid (HT10.out.trans t11 (fun _ h => .inl h)); clear q11 t11; dsimp only)
    have HRE : Hid (upI (m + 1) (downI (m + 1) L i) i = remI H i) := Lib.hid (by rw [HL.out]; exact remI_lt HN.out HIM.out)
    have HX9' : Hid (BoxS w11 g5 x ∧ BoxS w11 g4 xz) := Lib.hid ⟨HX9.out.1.touch HT11.out (fun hh => (HFT.out _ hh).2 rfl), HX9.out.2.touch HT11.out (fun hh => (HFT.out _ hh).1 rfl)⟩
    have HT9' := Lib.hid (HT9.out.trans HT11.out (fun _ h => .inl h))
    have z := HX9'.out.1.cells
    have y := HX9'.out.2.cells
    obtain ⟨y0, y1, y2, _⟩ := HX9'.out.1.cells
    obtain ⟨x0, x1, x2, fx0, fx1, fx2⟩ := HX9'.out.2.cells
    clear z y
    repeat (first | go_step3 | go_values | go_skip | go_guarded | go_step | go_upon)
    refine bodyPost_ret (results_c1 rfl _ _ g4 52 _ (0, 0) _ rfl (HX9'.out.2.put x) Try.underlying52 rfl (by kernel_rfl)) rfl ?_
    have tz : Touch [g4] w11 (((w11.setCell ⟨g4, 0, none⟩ (.string x.key)).setCell ⟨g4, 1, none⟩ (.int .i64 x.at_)).setCell ⟨g4, 2, none⟩ (.int .i64 x.num)) := ((((Touch.refl _ _).setCell _ (.inl (by simp))).setCell _ (.inl (by simp))).setCell _ (.inl (by simp)))
    exact ⟨rfl, by rw [← HRE.out]; exact HR9'.out.kept tz (fun j hj => by have := (HFT.out j hj).1; simpa using this), HT9'.out.trans tz (fun j hj => .inr (by simp only [List.mem_singleton] at hj; subst hj; exact GN.out.1))⟩
end
end Go.Proofs.Ythafopnaecbjdaa
