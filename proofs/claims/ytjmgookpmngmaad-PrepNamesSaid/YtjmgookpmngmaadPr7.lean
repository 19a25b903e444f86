/- A book: Need, Has, Forget. -/
import Derived.Test.YtjmgookpmngmaadPr6
namespace Go.Proofs.Ytjmgookpmngmaad
open Go Go.RowKit Go.Maps

theorem cell_one_new (w : World) (x : Value) (t : TypeId) : ∀ j u, [x][j]? = some u → (w.alloc (.cells #[x] t)).cell? ((⟨w.heap.size, 0, none⟩ : Addr).add j) = some u := fun j u h => by
  have := news_of (heap_alloc_new w (.cells #[x] t)) j u h
  exact this
theorem own_touchA {w w3 w5 : World} {own : Own} {id : Int} {t : CnT} {o : Obj} (h : w3.heap[t.pc]? = some (.cells #[.map (some t.bh), t.row] 56 (0, 0))) (k : (w3.alloc o).grownBy w5 t.row.ownBlock) (hc : CnC w own id t) :
    Touch t.row.ownBlock.toList w3 w5 ∧ w5.heap[t.pc]? = some (.cells #[.map (some t.bh), t.row] 56 (0, 0)) := by
  have T : Touch t.row.ownBlock.toList w3 w5 := ((Touch.refl _ _).alloc o).grownBy k (fun i hi => .inl (by simp [hi]))
  refine ⟨T, (T.block _ (heap_lt h) fun hm => ?_).trans h⟩
  have h1 := hc.o2 t.pc (by simpa using hm)
  have h2 := hc.o0
  rw [h2] at h1
  cases h1
def BM.name (M : BM) (q : ByteArray) : ByteArray := match mget M.nm q with | some x => x | none => nameB (M.nm.length + 1)
def BM.nmd (M : BM) (q : ByteArray) : BM := { M with nm := mput M.nm q (M.name q) }
def BM.more (M : BM) (id : Int) (x : ByteArray) : BM := { M with order := upd M.order id (M.order id ++ [x]) }
def BM.forget (M : BM) (id : Int) : BM := { M with order := upd M.order id [] }
theorem infoS : (Try.prog.info? 9).map (fun i => (i.zero, i.size, i.bytes)) = some (some (.string ⟨#[]⟩), 1, 16) := by kernel_rfl
section
variable {w w' : World} {own own' : Own} {pb bc bn bk n : Nat} {M : BM} {cl : List (Int × ClT)} {cn : List (Int × CnT)}
set_option maxRecDepth 8000 in
set_option maxHeartbeats 2000000 in
theorem Need_any (h : BkE w own pb M n) (hn : n < 1000000) {id : Int} (hid : goodI id) {q : ByteArray} (hq : goodS q) (b : Bool) (hb : (b = true ∧ M.name q ∉ M.order id) ∨ (b = false ∧ M.name q ∈ M.order id)) :
    Calls Try.prog 10 #[.pointer (some ⟨pb, 0, none⟩), .int .i64 id, .string q] w fun e w' => e = .returned (.tuple #[.string (M.name q), .bool b]) ∧ ∃ own', BkE w' own' pb (if b then (M.nmd q).more id (M.name q) else M.nmd q) (n + 3) ∧ Grow own own' w w' := by
  obtain ⟨bc, bn, bk, cl, cn, h⟩ := h
  have c0 := h.b.c1
  have hmm := @run_makeMap Try.prog
  have hmn := h.b.mn
  have H := Lib.hid h
  have HB := Lib.hid hb
  have h3 := h.s3
  clear h hb
  go_enter Try.func10, Try.ntmps10
  go_wp2_with fail
  refine (there_any H.out.b).mono ?_
  rintro e w1 ⟨rfl, rfl⟩
  obtain ⟨v, vb, hv⟩ : ∃ (v : ByteArray) (vb : Bool), (Instr.lookup 48 (.map (some bn)) (.string q) true).run Try.prog w = .ok (.tuple #[.string v, .bool vb]) w ∧ ((vb = true ∧ mget M.nm q = some v) ∨ (vb = false ∧ mget M.nm q = none)) := by
    cases hm : mget M.nm q with
    | none => exact ⟨⟨#[]⟩, false, by simpa [strV] using hmn.look_miss encS Try.underlying48 (zeroS w) hq (by rw [mget_mapS, hm]; rfl) true, .inr ⟨rfl, rfl⟩⟩
    | some x => exact ⟨x, true, by simpa [strV] using hmn.look_hit encS Try.underlying48 hq (v := strV x) (by rw [mget_mapS, hm]; rfl) true, .inl ⟨rfl, rfl⟩⟩
  obtain ⟨l1, hv⟩ := hv
  have HV := Lib.hid hv
  clear hv
  go_upto_if 24 with fail
  go_cut [8] (fun s wx => s = .string (M.name q) ∧ Hid (Bk wx own pb (M.nmd q) (n + 1) bc bn bk cl cn) ∧ Hid (Grow own own w wx))
  case first =>
    cases vb with
    | true =>
      have hx : mget M.nm q = some v := by rcases HV.out with ⟨_, h⟩ | ⟨h, _⟩; exact h; cases h
      have HE : Hid (v = M.name q ∧ M.nmd q = M) := Lib.hid (by
        have e : M.name q = v := by unfold BM.name; rw [hx]
        refine ⟨e.symm, ?_⟩
        unfold BM.nmd
        rw [e, mput_self hx])
      clear hx
      go_wp2_with fail
      go_meet
      exact ⟨by rw [HE.out.1], Lib.hid (by rw [HE.out.2]; exact ⟨H.out.b, H.out.mine, H.out.order, by have := H.out.s1; omega, by have := H.out.s2; omega, by have := H.out.s3; omega, fun r hr => by have := H.out.s4 r hr; omega, fun r hr => by have := H.out.s5 r hr; omega, H.out.s6⟩), Lib.hid (Grow.refl _ _)⟩
    | false =>
      have hx : mget M.nm q = none := by rcases HV.out with ⟨h, _⟩ | ⟨_, h⟩; cases h; exact h
      have HE : Hid (M.name q = nameB (M.nm.length + 1) ∧ mget M.nm q = none) := Lib.hid ⟨by unfold BM.name; rw [hx], hx⟩
      clear hx
      have hl : ∀ ty : TypeId, (Builtin.len_ #[48] ty #[.map (some bn)]).run Try.prog w = .ok (.int .i64 M.nm.length) w := fun ty => by
        have := hmn.len Try.underlying48 ty
        simpa [mapS] using this
      have hsz := digB_size (M.nm.length + 1)
      have hns := nameB_size (M.nm.length + 1)
      have e1 : ((M.nm.length + 1 : Nat) : Int) = (M.nm.length : Int) + 1 := by omega
      have cv := decimal_any (M.nm.length + 1) (by omega) w
      rw [e1] at cv
      have CV := Lib.hid cv
      have hgx : goodS (nameB (M.nm.length + 1)) := by unfold goodS maxLen; omega
      have HGX := Lib.hid hgx
      have hdef : nameB (M.nm.length + 1) = ⟨#[115]⟩ ++ digB (M.nm.length + 1) := rfl
      have HD := Lib.hid hdef
      clear e1 cv hgx hns hdef
      go_wp2_with fail
      refine CV.out.mono ?_
      rintro e w2 ⟨rfl, t2⟩
      have hb2 := H.out.b.kept0 t2
      have hmn2 := hb2.mn
      have c2 := hb2.c1
      have F2 := Lib.hid (And.intro hb2 t2)
      clear hb2 t2 hmn hl c0 l1
      generalize digB (M.nm.length + 1) = dg at *
      go_wp2_with (at_mapUpdate; go_must (refine wpList_mt_store _ rfl _ _ _ 48 9 rfl encS Try.underlying48 hmn2 (by simp [mapS, maxLen]; omega) hq rfl rfl (.string (⟨#[115]⟩ ++ dg)) rfl ?_); intro w3 hM3 t3)
      have hF : Bk w3 own pb (M.nmd q) (n + 1) bc bn bk cl cn ∧ Grow own own w w3 := by
        have hM4 : MapT w3 bn strV goodS (mput (mapS M.nm) q (strV (M.name q))) := by rw [HE.out.1, HD.out]; exact hM3
        refine ⟨⟨F2.out.1.newNm hM4 t3, H.out.mine, H.out.order, by have := H.out.s1; omega, by have := H.out.s2; omega, ?_, fun r hr => by have := H.out.s4 r hr; omega, fun r hr => by have := H.out.s5 r hr; omega, fun r hr => ?_⟩, (Grow.of_touch0 F2.out.2).trans (Grow.of_touch t3 (fun i hi => .inl ?_) fun _ _ h => h)⟩
        · have := mput_length M.nm q (M.name q)
          have := H.out.s3
          show (mput M.nm q (M.name q)).length ≤ n + 1
          omega
        · rcases mput_mem hr with rfl | hr'
          · show goodS (M.name q)
            rw [HE.out.1]; exact HGX.out
          · exact H.out.s6 r hr'
        · simp only [List.mem_cons, List.not_mem_nil, or_false] at hi
          subst hi; rw [H.out.b.o2]; simp
      have HF := Lib.hid hF
      clear hF hM3 t3 hmn2 c2
      go_wp2_with fail
      go_meet
      exact ⟨by rw [HE.out.1, HD.out], Lib.hid HF.out.1, Lib.hid HF.out.2⟩
  case rest =>
    obtain ⟨rfl, B1, G1⟩ := hcut
    have HG : Hid (goodS (M.name q)) := Lib.hid (by
      have : (q, M.name q) ∈ (M.nmd q).nm := mget_mem (by show mget (mput M.nm q (M.name q)) q = _; rw [mget_mput, if_pos rfl])
      exact B1.out.s6 _ this)
    have HO : Hid ((M.nmd q).order = M.order) := Lib.hid rfl
    clear HV
    have c2 := B1.out.b.c2
    have hmk := B1.out.b.mcon
    have h2 := B1.out.s2
    obtain ⟨pv, l3, hpv⟩ : ∃ pv : Option Addr, (Instr.lookup 49 (.map (some bk)) (.int .i64 id) false).run Try.prog wc = .ok (.pointer pv) wc ∧ ((mget cn id = none ∧ pv = none) ∨ ∃ t, mget cn id = some t ∧ pv = some ⟨t.pc, 0, none⟩) := by
      cases hm : mget cn id with
      | none => exact ⟨none, by simpa [intV] using hmk.look_miss encI Try.underlying49 (zeroP wc) hid (by rw [mget_mapK, hm]; rfl) false, .inl ⟨rfl, rfl⟩⟩
      | some t => exact ⟨some ⟨t.pc, 0, none⟩, by simpa [intV] using hmk.look_hit encI Try.underlying49 hid (v := .pointer (some ⟨t.pc, 0, none⟩)) (by rw [mget_mapK, hm]; rfl) false, .inr ⟨t, rfl, rfl⟩⟩
    have HPV := Lib.hid hpv
    clear hpv hmn c0 l1
    go_upto_if 46 with fail
    go_cut [10] (fun s wx => ∃ (own' : Own) (cn' : List (Int × CnT)) (t : CnT), s = .pointer (some ⟨t.pc, 0, none⟩) ∧ Hid (Bk wx own' pb (M.nmd q) (n + 2) bc bn bk cl cn' ∧ mget cn' id = some t ∧ Grow own own' w wx))
    case first =>
      rcases HPV.out with ⟨hm, rfl⟩ | ⟨t, hm, rfl⟩
      · have HM := Lib.hid hm
        clear hm
        have t1 : Touch [] wc (wc.alloc (.map #[] 0)) := (Touch.refl _ _).alloc _
        have t2 : Touch [] (wc.alloc (.map #[] 0)) ((wc.alloc (.map #[] 0)).alloc (.cells #[.map (some wc.heap.size), .slice none 0 0] 56)) := (Touch.refl _ _).alloc _
        have hb2 := B1.out.b.kept0 (t1.trans t2 (by simp))
        have hm1 := (MapT.made (enc := strV) (good := goodS) wc)
        have hm2 := hm1.of_block (t2.block _ hm1.lt (by simp))
        have b2 := heap_alloc_new (wc.alloc (.map #[] 0)) (.cells #[.map (some wc.heap.size), .slice none 0 0] 56)
        have s1 : (wc.alloc (.map #[] 0)).heap.size = wc.heap.size + 1 := by simp
        rw [s1] at b2
        have hmk2 := hb2.mcon
        have c3 := hb2.c2
        have F2 := Lib.hid (And.intro hb2 (And.intro hm2 (And.intro b2 (t1.trans t2 (by simp)))))
        clear hb2 hm1 hm2 b2 s1 t1 t2 hmk
        go_wp2_with (at_mapUpdate; go_must (refine wpList_mt_store _ rfl _ _ _ 49 53 rfl encI Try.underlying49 hmk2 (by simp [mapK, maxLen]; omega) hid rfl rfl (.pointer (some ⟨wc.heap.size + 1, 0, none⟩)) rfl ?_); intro w3 hM3 t3)
        have hF : Bk w3 (addO (addO own wc.heap.size (.conn id 1)) (wc.heap.size + 1) (.conn id 0)) pb (M.nmd q) (n + 2) bc bn bk cl (mput cn id ⟨wc.heap.size + 1, wc.heap.size, none, 0, []⟩) ∧ Grow own (addO (addO own wc.heap.size (.conn id 1)) (wc.heap.size + 1) (.conn id 0)) w w3 := by
          have none_of : ∀ i, wc.heap.size ≤ i → own i = none := fun i hi => by
            cases ho : own i with
            | none => rfl
            | some tg => have := B1.out.b.lt _ _ ho; omega
          have hbk := B1.out.b.o3
          have hlt := B1.out.b.mcon.lt
          refine ⟨⟨F2.out.1.newCn (none_of _ (Nat.le_refl _)) (none_of _ (by omega)) (by omega) (F2.out.2.1.of_block (t3.block _ F2.out.2.1.lt (by simp; omega))) ((t3.block _ (heap_lt F2.out.2.2.1) (by simp; omega)).trans F2.out.2.2.1) hM3 t3, B1.out.mine, ?_, by have := B1.out.s1; omega, by have := mput_length cn id ⟨wc.heap.size + 1, wc.heap.size, none, 0, []⟩; have := B1.out.s2; omega, by have := B1.out.s3; omega, fun r hr => by have := B1.out.s4 r hr; omega, fun r hr => ?_, B1.out.s6⟩, ?_⟩
          · rw [orderOf_put, ← B1.out.order]
            funext y
            unfold upd
            by_cases e : id = y
            · subst e; unfold orderOf; rw [HM.out]; simp
            · rw [if_neg e]
          · rcases mput_mem hr with rfl | hr'
            · simp
            · have := B1.out.s5 r hr'; omega
          · refine G1.out.trans ((Grow.of_touch (own' := addO (addO own wc.heap.size (.conn id 1)) (wc.heap.size + 1) (.conn id 0)) F2.out.2.2.2 (by simp) fun i hi hn => by rw [addO_old (by omega), addO_old (by omega)]; exact hn).trans (Grow.of_touch t3 (fun i hi => .inl ?_) fun _ _ h => h))
            simp only [List.mem_cons, List.not_mem_nil, or_false] at hi
            subst hi
            rw [addO_old (by omega), addO_old (by omega), hbk]; simp
        have HF := Lib.hid (And.intro hF.1 (And.intro (show mget (mput cn id (⟨wc.heap.size + 1, wc.heap.size, none, 0, []⟩ : CnT)) id = some ⟨wc.heap.size + 1, wc.heap.size, none, 0, []⟩ by rw [mget_mput, if_pos rfl]) hF.2))
        clear hF hM3 t3 hmk2 c3 c2 l3
        go_wp2_with fail
        go_meet
        exact ⟨_, _, _, rfl, HF⟩
      · have HF : Hid (Bk wc own pb (M.nmd q) (n + 2) bc bn bk cl cn ∧ mget cn id = some t ∧ Grow own own w wc) := Lib.hid ⟨⟨B1.out.b, B1.out.mine, B1.out.order, by have := B1.out.s1; omega, by have := B1.out.s2; omega, by have := B1.out.s3; omega, fun r hr => by have := B1.out.s4 r hr; omega, fun r hr => by have := B1.out.s5 r hr; omega, B1.out.s6⟩, hm, G1.out⟩
        clear hm
        go_wp2_with fail
        go_meet
        exact ⟨_, _, t, rfl, HF⟩
    case rest =>
      obtain ⟨own', cn', t, rfl, HX⟩ := hcut
      clear B1 G1 HPV l3 c2 hmk h2
      obtain ⟨hB, hm, hG⟩ := HX.out
      have ht := hB.b.cns _ (mget_mem hm)
      have p0 : wc.cell? ⟨t.pc, 0, none⟩ = some (.map (some t.bh)) := by rw [cell_of ht.cells]; rfl
      have p1 : wc.cell? ⟨t.pc, 1, none⟩ = some t.row := by rw [cell_of ht.cells]; rfl
      have hord : t.order = M.order id := by
        have h1 : orderOf cn' id = M.order id := by rw [hB.order]; rfl
        rw [← h1]; unfold orderOf; rw [hm]
      have h5 : t.order.length ≤ n + 2 := hB.s5 _ (mget_mem hm)
      have hmap := ht.map
      have HT := Lib.hid (And.intro ht hord)
      clear hB hm hG ht hord
      rcases HB.out with ⟨hb, hx⟩ | ⟨hb, hx⟩
      · subst hb
        rw [← HT.out.2] at hx
        have l4 := hmap.look_miss encS Try.underlying54 (zeroI wc) HG.out (mget_mapH_no hx) false
        simp only [Bool.false_eq_true, if_false, strV] at l4
        have hpb : t.pc ≠ t.bh := fun e => by have h1 := HT.out.1.o0; have h2 := HT.out.1.o1; rw [e, h2] at h1; cases h1
        have HXX := Lib.hid hx
        clear hx
        go_upto_region 14 with (at_mapUpdate; go_must (refine wpList_mt_store _ rfl _ _ _ 54 3 rfl encS Try.underlying54 hmap (by simp [mapH, maxLen]; omega) HG.out rfl rfl (.int .i64 1) rfl ?_); intro w3 hM3 t3)
        have e3 : mput (mapH t.order) (M.name q) (.int .i64 1) = mapH (t.order ++ [M.name q]) := by
          rw [mput_new (mget_none.1 (mget_mapH_no HXX.out))]
          simp [mapH, intV]
        have hcell3 := (t3.block _ (heap_lt HT.out.1.cells) (by simpa using hpb)).trans HT.out.1.cells
        have hrow3 := own_touch' HT.out.1.rowo t3 (fun i hi hm => by
          simp only [List.mem_cons, List.not_mem_nil, or_false] at hm
          have h1 := HT.out.1.o2 i hi
          have h2 := HT.out.1.o1
          rw [hm, h2] at h1; cases h1)
        have M3 := Lib.hid (And.intro hM3 (And.intro e3 (And.intro hcell3 (And.intro hrow3 t3))))
        have p1 : w3.cell? ⟨t.pc, 1, none⟩ = some t.row := by rw [cell_of hcell3]; rfl
        have f1 := frozen_of hcell3 1
        clear hM3 e3 hcell3 hrow3 t3 l4 hmap p0
        have hown2 := Lib.hid (M3.out.2.2.2.1.alloc (.cells #[.string (M.name q)] 9))
        have hsrc : Hid (Src (w3.alloc (.cells #[.string (M.name q)] 9)) (some ⟨w3.heap.size, 0, none⟩) 1 1 [.string (M.name q)]) := Lib.hid (.inr ⟨_, rfl, rfl, cell_one_new w3 _ _⟩)
        unfold CnT.row at p1
        obtain ⟨j0, hj0, hjz, hj1, hj2⟩ := info_parts infoS
        go_wp2_with (at_builtin; go_must (refine wpList_append_src _ rfl _ _ 22 rfl 0 9 j0 (.string ⟨#[]⟩) 1 16 Try.underlying22 hj0 hjz hj1 hj2 rfl (by decide) (.slice t.A t.order.length t.cp) t.order.length _ rfl hown2.out (some ⟨w3.heap.size, 0, none⟩) 1 1 [.string (M.name q)] rfl hsrc.out (by simp [Value.oneCell']) (by simp [maxLen]; omega) (by omega) (Nat.zero_le _) ?_); go_must (intro v5 w5 hown5 hg5 hloc5; obtain ⟨B5, c5, rfl⟩ := own_slice2 hown5; obtain ⟨T5, hcell5⟩ := own_touchA M3.out.2.2.1 hg5 HT.out.1; have q1 : w5.cell? ⟨t.pc, 1, none⟩ = some t.row := cell_of hcell5 1; have f5 := frozen_of hcell5 1))
        have hF : ∃ own'', BkE (w5.setCell ⟨t.pc, 1, none⟩ (.slice B5 (t.order.length + 1) c5)) own'' pb ((M.nmd q).more id (M.name q)) (n + 2 + 1) ∧ Grow own own'' w (w5.setCell ⟨t.pc, 1, none⟩ (.slice B5 (t.order.length + 1) c5)) := by
          have e1 := HT.out.1.o0
          have e2 := HT.out.1.o1
          have hlen : (t.order ++ [M.name q]).length = t.order.length + 1 := by simp
          have hb1 := M3.out.1.of_eq M3.out.2.1
          have hnb : t.bh ∉ t.row.ownBlock.toList := fun hm => by
            have h1 := HT.out.1.o2 t.bh (by simpa using hm)
            rw [e2] at h1; cases h1
          have hb2 := hb1.of_block (T5.block _ hb1.lt hnb)
          have ts : Touch [t.pc] w5 (w5.setCell ⟨t.pc, 1, none⟩ (.slice B5 (t.order.length + 1) c5)) := (Touch.refl _ _).setCell _ (by simp)
          have hpb' : t.bh ≠ t.pc := hpb.symm
          have hb3 := hb2.of_block (ts.block _ hb2.lt (by simpa using hpb'))
          have hcl := block_set hcell5 (i := 1) (.slice B5 (t.order.length + 1) c5)
          have hloc : ∀ g, (Value.slice B5 (t.order.length + 1) c5).ownBlock = some g → t.row.ownBlock = some g ∨ w3.heap.size ≤ g := fun g hg => by
            rcases hloc5 with h1 | h1
            · exact .inl (by rw [← hg, h1]; rfl)
            · rw [hg] at h1
              have h2 := Option.some.inj h1
              have h3 : (w3.alloc (.cells #[.string (M.name q)] 9)).heap.size = w3.heap.size + 1 := by simp
              exact .inr (by omega)
          have hrow := own_touch' hown5 ts (fun i hi hm => by
            simp only [List.mem_cons, List.not_mem_nil, or_false] at hm
            subst hm
            rcases hloc _ hi with h1 | h1
            · have h2 := HT.out.1.o2 _ h1
              rw [e1] at h2; cases h2
            · have := heap_lt M3.out.2.2.1; omega)
          have T := ((M3.out.2.2.2.2.mono (S' := [t.pc, t.bh] ++ t.row.ownBlock.toList) (by simp)).trans (T5.mono (S' := [t.pc, t.bh] ++ t.row.ownBlock.toList) (fun i hi => by simp only [List.mem_append]; exact .inr hi)) (fun i hi => .inl hi)).trans ts (fun i hi => .inl (by simp only [List.mem_cons, List.not_mem_nil, or_false] at hi; subst hi; simp))
          have hfin := HX.out.1.b.putCn HX.out.2.1 (t' := { t with A := B5, cp := c5, order := t.order ++ [M.name q] }) rfl rfl (by
            show _ = some (Obj.cells #[.map (some t.bh), .slice B5 (t.order ++ [M.name q]).length c5] _ (0, 0))
            rw [hlen]
            simpa using hcl) hb3 (by
            show World.ownsRow _ 0 _ 1 (.slice B5 (t.order ++ [M.name q]).length c5) (t.order ++ [M.name q]).length (strsV (t.order ++ [M.name q]))
            rw [hlen]
            simpa [strsV, strV] using hrow) (fun g hg => by
            have hg' : (Value.slice B5 (t.order.length + 1) c5).ownBlock = some g := by rw [← hg]; show _ = (Value.slice B5 (t.order ++ [M.name q]).length c5).ownBlock; rw [hlen]
            rcases hloc g hg' with h1 | h1
            · exact .inl h1
            · exact .inr (Nat.le_trans M3.out.2.2.2.2.size h1)) T
          refine ⟨_, ⟨_, _, _, _, _, hfin, HX.out.1.mine, ?_, by have := HX.out.1.s1; omega, ?_, by have := HX.out.1.s3; show (M.nmd q).nm.length ≤ _; omega, fun r hr => by have := HX.out.1.s4 r hr; omega, fun r hr => ?_, HX.out.1.s6⟩, HX.out.2.2.trans (Grow.of_touch T (fun i hi => ?_) fun i hi hn => ?_)⟩
          · rw [orderOf_put, HX.out.1.order]
            show upd (M.nmd q).order id (t.order ++ [M.name q]) = upd (M.nmd q).order id ((M.nmd q).order id ++ [M.name q])
            rw [HT.out.2]; rfl
          · rw [mput_len_same HX.out.2.1]; have := HX.out.1.s2; omega
          · rcases mput_mem3 HX.out.1.b.cnN hr with rfl | ⟨hr', _⟩
            · show (t.order ++ [M.name q]).length ≤ _
              rw [hlen]
              have : t.order.length ≤ n + 2 := HX.out.1.s5 _ (mget_mem HX.out.2.1)
              omega
            · have := HX.out.1.s5 r hr'; omega
          · simp only [List.cons_append, List.nil_append, List.mem_cons, Option.mem_toList] at hi
            rcases hi with rfl | rfl | hi
            · exact .inl (by rw [e1]; simp)
            · exact .inl (by rw [e2]; simp)
            · exact .inl (by rw [HT.out.1.o2 i hi]; simp)
          · unfold ownRow
            cases hg : (CnT.row { t with A := B5, cp := c5, order := t.order ++ [M.name q] }).ownBlock with
            | none => exact hn
            | some g =>
              show addO own' g (.conn id 2) i = none
              by_cases e : i = g
              · subst e
                have hg' : (Value.slice B5 (t.order.length + 1) c5).ownBlock = some i := by rw [← hg]; show _ = (Value.slice B5 (t.order ++ [M.name q]).length c5).ownBlock; rw [hlen]
                rcases hloc i hg' with h1 | h1
                · have := HT.out.1.o2 i h1
                  rw [hn] at this; cases this
                · have := M3.out.2.2.2.2.size; omega
              · rw [addO_old e]; exact hn
        have HF := Lib.hid hF
        clear hF hown5 hg5 hloc5 T5 hcell5 q1 f5 hown2 hsrc M3
        go_wp2_with fail
        go_ret2
        exact ⟨rfl, HF.out⟩
      · subst hb
        rw [← HT.out.2] at hx
        have l4 := hmap.look_hit encS Try.underlying54 HG.out (mget_mapH hx) false
        simp only [Bool.false_eq_true, if_false, strV, intV] at l4
        clear hx
        go_wp2_with fail
        go_ret2
        exact ⟨rfl, own', BkE.mono ⟨_, _, _, _, _, HX.out.1⟩ (by omega), HX.out.2.2⟩
end
end Go.Proofs.Ytjmgookpmngmaad
