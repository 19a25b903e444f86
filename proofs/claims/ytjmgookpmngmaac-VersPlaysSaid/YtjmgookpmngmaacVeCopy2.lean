/- vers: Copy's walk. -/
import Derived.Test.YtjmgookpmngmaacVeCopy
import Derived.Deep.DeepCutAuto
import Derived.Deep.CutBlock
namespace Go.Proofs.Ytjmgookpmngmaac
open Go Go.RowKit Go.Maps

set_option maxHeartbeats 4000000 in
theorem Copy_any {w : World} {pv bm : Nat} {ep : Int} {rs : List (ByteArray × Tab)} {n : Nat} (h : VerC w pv bm ep rs) (sm : Small rs n) (hn : n < 1000000) :
    Calls Try.prog 26 #[.pointer (some ⟨pv, 0, none⟩)] w fun e w' => ∃ pc bc rs', e = .returned (.pointer (some ⟨pc, 0, none⟩)) ∧ VerC w' pc bc ep rs' ∧ SameT rs rs' ∧ Small rs' n ∧ (∀ i ∈ blocks pc bc rs', w.heap.size ≤ i) ∧ Touch [] w w' := by
  have H := Lib.hid (And.intro h sm)
  have c0 := h.c0
  have c1 := h.c1
  have hlt := h.lt
  have hbm : bm < w.heap.size := hlt bm (by simp [blocks])
  have Hlt := Lib.hid hlt
  clear sm hlt
  go_enter Try.func26, Try.ntmps26
  go_wp2_with fail
  refine (there_any h).mono ?_
  rintro e w1 ⟨rfl, rfl⟩
  go_wp2_with fail
  refine (New_any w).mono ?_
  rintro e w1 ⟨pc, bc, rfl, hc, t1, hpc, hbc⟩
  have d0 := t1.cell c0 (by simp)
  have d0d : w1.drew.cell? ⟨pv, 0, none⟩ = some (.int .i64 ep) := d0
  have z0 := hc.c0
  have z0d : w1.drew.cell? ⟨pc, 0, none⟩ = some (.int .i64 0) := z0
  have f0 := frozen_of hc.cells 0
  have f0d : w1.drew.frozen? ⟨pc, 0, none⟩ = false := f0
  have hc1 := hc.epoch ep
  go_wp2_with fail
  go_region_with (first
    | (go_at_call 33; refine (loadAt d0d).mono ?_; rintro e w2 ⟨rfl, rfl⟩)
    | (go_at_call 36; refine (storeAt z0d f0d).mono ?_; rintro e w2 ⟨rfl, rfl⟩))
  have hcV : VerC (w1.setCell ⟨pc, 0, none⟩ (.int .i64 ep)).drew pc bc ep [] := hc1.1.kept0 ((Touch.refl [] _).drew)
  have tV : Touch [] w (w1.setCell ⟨pc, 0, none⟩ (.int .i64 ep)).drew := (t1.trans hc1.2 (by simp; exact hpc)).drew
  have c1V := tV.cell c1 (by simp)
  have hMV := (h.kept0 tV).map
  clear d0 d0d z0 z0d f0 f0d hc1 hc t1 c0 h
  generalize (w1.setCell ⟨pc, 0, none⟩ (.int .i64 ep)).drew = V at *
  go_wp2_with (at_range; go_must (refine wpList_mt_range _ rfl _ _ 64 rfl Try.underlying57 hMV rfl ?_); intro w2 hIt t2)
  go_frame
  have hVs := tV.size
  have K0 : CpK w w2 bm rs n pc bc V.heap.size ep (fun _ => false) (mapN rs) [] :=
    ⟨hcV.kept0 t2, hIt, fun p hp => hp, fun q hq _ => List.mem_map.2 ⟨q, hq, rfl⟩, fun _ _ => rfl, fun s hs => by simp at hs, fun _ _ => rfl, ⟨by simp, by simp, by simp⟩, by simp [mapN], fun i hi => ⟨by simp [blocks, tabBlocks] at hi; omega, fun e => by have := hcV.lt i hi; omega⟩, hVs, tV.trans t2 (by simp)⟩
  generalize V.heap.size = r at *
  go_loopw [4, 5, 6, 7, 8] (fun _ _ _ _ _ wr => ∃ d todo rsC, CpK w wr bm rs n pc bc r ep d todo rsC) (fun _ _ _ _ _ wr => wr.rangeLeft bm r)
  case atStart => exact ⟨_, _, _, K0⟩
  clear K0 hIt t2 hMV c1V tV hcV hVs c1
  case round =>
    obtain ⟨d, todo, rsC, K⟩ := hrel
    obtain ⟨wo, rfl⟩ : ∃ wo : World, wo = wr := ⟨_, rfl⟩
    go_wp2_with (at_next; refine wpList_mt_next _ rfl _ rfl encS.inj K.it rfl ?_ ?_)
    · intro hdone
      subst hdone
      have hfin := K.fin
      go_wp2_with fail
      go_ret
      exact ⟨pc, bc, rsC, rfl, K.ver, hfin, K.small, fun i hi => (K.new i hi).1, K.touch⟩
    · intro x v w3 hxT hIt3 t3 hen
      obtain ⟨q, hq, hqe⟩ := List.mem_map.1 (K.sub _ hxT)
      simp only [Prod.mk.injEq] at hqe
      obtain ⟨rfl, rfl⟩ := hqe
      have hgs : goodS q.1 := H.out.1.map.goods _ (List.mem_map.2 ⟨q, hq, rfl⟩)
      have hno := K.no q.1 (K.fresh _ hxT)
      have hv3 := K.ver.kept t3 (fun i hi => by simpa using (K.new i hi).2)
      have hTq := H.out.1.tabs q hq
      have T3 : Touch [] w w3 := K.touch.trans t3 (by simp; exact K.rn)
      have hq3 := hTq.kept T3 (by simp) (by simp)
      have hql := hTq.lt
      have hrn := K.rn
      have hlen : rsC.length < maxLen := by have := K.small.len; simp [maxLen]; omega
      have HK := Lib.hid K
      have HX := Lib.hid (And.intro hq hxT)
      have HI := Lib.hid hIt3
      clear K hq hxT hIt3
      simp only [strV, ptrV] at hen ⊢
      go_wp2_with fail
      refine (at_new hv3 q.1 hgs hno hlen).mono ?_
      rintro e w4 ⟨t, rfl, hv4, tn, td, tp, tb, t4⟩
      have hbcn : w.heap.size ≤ bc := (HK.out.new bc (by simp [blocks])).1
      have T4 : Touch [] w w4 := T3.trans t4 (by simp; exact hbcn)
      have hg4 := mget_append_new hno t
      have ht4 := hv4.tabs _ (mget_mem hg4)
      have hq4 := hTq.kept T4 (by simp) (by simp)
      have p0 := ht4.c0
      have p0f := frozen_of ht4.cells 0
      have q0 := hq4.c0
      simp only at p0 p0f q0
      have hv5 := hv4.store hg4 q.2.num
      rw [mput_last hno] at hv5
      have tS : Touch [t.pt] w4 (w4.setCell ⟨t.pt, 0, none⟩ (.int .i64 q.2.num)) := (Touch.refl _ _).setCell _ (by simp)
      have hw3 := T3.size
      have hw43 := t4.size
      have hpt : w.heap.size ≤ t.pt := by omega
      have T5 : Touch [] w (w4.setCell ⟨t.pt, 0, none⟩ (.int .i64 q.2.num)) := T4.trans tS (by simp; exact hpt)
      have q1 := (hq4.c1)
      have hqp := hq4.lt
      have q1' := tS.cell q1 (by simp; omega)
      have hq5 := hTq.kept T5 (by simp) (by simp)
      have hI5 := (HI.out.kept t4 (by simp; omega) (by simp; intro e; have := (HK.out.new bc (by simp [blocks])).2; omega)).kept tS (by simp; omega) (by simp; have := HI.out.ltr; omega)
      have hlow4 := hv4.lt
      have hbl : ∀ i ∈ blocks pc bc (rsC ++ [(q.1, t)]), w.heap.size ≤ i ∧ i ≠ r := fun i hi => by
        have hr3 := HI.out.ltr
        unfold blocks at hi
        rw [tabBlocks_append] at hi
        simp only [List.mem_cons, List.mem_append, List.not_mem_nil, or_false] at hi
        rcases hi with hi | hi | hi | hi | hi
        · exact HK.out.new i (by simp [blocks, hi])
        · exact HK.out.new i (by simp [blocks, hi])
        · exact HK.out.new i (by simp [blocks, hi])
        · omega
        · omega
      have Hbl := Lib.hid hbl
      have HI5 := Lib.hid hI5
      have Hv5 := Lib.hid hv5
      clear hv4 ht4 hq4 hv3 hq3 q1 hI5 hbl hv5 hlow4
      go_upto_region 10 with fail
      generalize hW : w4.setCell ⟨t.pt, 0, none⟩ (.int .i64 q.2.num) = W at *
      clear hW p0 p0f q0 tS t4
      have hqm : MapT W q.2.bd intV goodI (mapD q.2.dirty) := hq5.map
      have hbdn : w.heap.size ≤ t.bd := by omega
      go_wp2_with (at_range; go_must (refine wpList_mt_range _ rfl _ _ 3 rfl Try.underlying61 hqm rfl ?_); intro w6 hIt6 t6)
      go_frame
      have hWs := T5.size
      have hr6 := HI5.out.ltr
      have KI : CpI w w6 bm rs pc bc r W.heap.size ep (mdel todo q.1) rsC q { t with num := q.2.num } (fun _ => false) (mapD q.2.dirty) :=
        ⟨Hv5.out.kept0 t6, rfl, HI5.out.kept t6 (by simp) (by simp), hIt6, fun p hp => hp, fun p hp _ => List.mem_map.2 ⟨p, hp, rfl⟩, fun _ _ => rfl, fun c => by simp [td, mget], by simp [td, mapD], fun i hi => by
          have e : blocks pc bc (rsC ++ [(q.1, { t with num := q.2.num })]) = blocks pc bc (rsC ++ [(q.1, t)]) := by unfold blocks; rw [tabBlocks_append, tabBlocks_append]
          have h1 := Hv5.out.lt i hi
          rw [e] at hi
          exact ⟨(Hbl.out i hi).1, (Hbl.out i hi).2, by omega⟩, hrn, hWs, by omega, T5.trans t6 (by simp)⟩
      generalize W.heap.size = r2 at *
      have hqb := hTq.lt.2
      have hqm' : q.2.bd < w.heap.size := hqb
      have Hql : Hid (q.2.dirty.length < 1000000) := Lib.hid (by have := H.out.2.dirty q HX.out.1; omega)
      clear hq5 hqm T5 T3 T4 hIt6 t6 hWs hr6 q1' hno hlen hrn hw3 hw43 hpt hbdn hqp HI HI5 Hbl Hv5
      go_loopw [7, 8] (fun _ _ wx => ∃ (t' : Tab) (d2 : Int → Bool) (todo2 : List (Int × Value)), Hid (t'.pt = t.pt ∧ t'.bd = t.bd) ∧ Hid (CpI w wx bm rs pc bc r r2 ep (mdel todo q.1) rsC q t' d2 todo2)) (fun _ _ wx => wx.rangeLeft q.2.bd r2)
      case atStart => exact ⟨{ t with num := q.2.num }, _, _, Lib.hid ⟨rfl, rfl⟩, Lib.hid KI⟩
      clear KI
      case round =>
        obtain ⟨t', d2, todo2, hpb, KI⟩ := hrel
        have hno := HK.out.no q.1 (HK.out.fresh _ HX.out.2)
        go_wp2_with (at_next; refine wpList_mt_next _ rfl _ rfl encI.inj KI.out.it2 rfl ?_ ?_)
        · intro hdone
          subst hdone
          have KD := KI.out.done HK.out H.out.2 H.out.1.names HX.out.1 HX.out.2
          have hless : wr.rangeLeft bm r < wo.rangeLeft bm r := by
            rw [KI.out.it.left, HK.out.it.left]
            exact mdel_shorter HX.out.2
          clear hno
          go_wp2_with fail
          go_roundw
          case rel => exact ⟨_, _, _, KD⟩
          case measure => exact hless
        · intro c v w7 hcT hIt7 t7 hen7
          obtain ⟨p, hp, hpe⟩ := List.mem_map.1 (KI.out.sub2 _ hcT)
          simp only [Prod.mk.injEq] at hpe
          obtain ⟨e1, e2⟩ := hpe
          subst e1; subst e2
          have hci : goodI p.1 := H.out.1.tabs q HX.out.1 |>.map.goods _ (List.mem_map.2 ⟨p, hp, rfl⟩)
          have hg : mget (rsC ++ [(q.1, t')]) q.1 = some t' := mget_append_new hno t'
          have hv7 := KI.out.ver.kept t7 (fun i hi => by simpa using (KI.out.new i hi).2.2)
          have ht7 := hv7.tabs _ (mget_mem hg)
          have d1 := ht7.c1
          simp only [hpb.out.1] at d1
          have hTm : MapT w7 t'.bd intV goodI (mapD t'.dirty) := ht7.map
          have hml : (mapD t'.dirty).length < maxLen := by have := KI.out.len2; have := Hql.out; simp [mapD, maxLen]; omega
          have HcT := Lib.hid hcT
          have Hno := Lib.hid hno
          clear hg hv7 ht7 hcT hno hp
          simp only [intV] at hen7 ⊢
          go_wp2_with (at_mapUpdate; go_must (refine wpList_mt_store _ rfl _ _ _ 61 3 rfl encI Try.underlying61 hTm hml hci rfl rfl (.int .i64 p.2) rfl ?_); intro w8 hM8 t8)
          have KN := Lib.hid (KI.out.next hbm hqb Hno.out HcT.out hIt7 t7 hM8 t8)
          have hless : w8.rangeLeft q.2.bd r2 < wr.rangeLeft q.2.bd r2 := by
            rw [KN.out.it2.left, KI.out.it2.left]
            exact mdel_shorter HcT.out
          clear hTm hml hM8 t8 t7 hIt7 d1 hen7
          go_frame
          go_roundw
          case rel => exact ⟨{ t' with dirty := mput t'.dirty p.1 p.2 }, _, _, Lib.hid hpb.out, KN⟩
          case measure => exact hless
end Go.Proofs.Ytjmgookpmngmaac
