/- flight's Copy. -/
import Derived.Test.YtjmgookpmngmaabFlOk
import Derived.Test.YtjmgookpmngmaabMapIt
namespace Go.Proofs.Ytjmgookpmngmaab
open Go Go.RowKit Go.Maps

theorem KBox' (w : World) (k : Key) : (boxK w k).cell? ⟨w.heap.size, 0, none⟩ = some (.string k.db) ∧ (boxK w k).cell? ⟨w.heap.size, 1, none⟩ = some (.string k.role) ∧ (boxK w k).cell? ⟨w.heap.size, 2, none⟩ = some (.int .i64 k.format) ∧ (boxK w k).cell? ⟨w.heap.size, 3, none⟩ = some (.string k.norm) := by
  have e0 : (boxK w k).heap[w.heap.size]? = some (.cells #[.string k.db, .string k.role, .int .i64 k.format, .string k.norm] 28 (0, 0)) := heap_alloc_new w _
  exact ⟨by rw [cell_of e0]; rfl, by rw [cell_of e0]; rfl, by rw [cell_of e0]; rfl, by rw [cell_of e0]; rfl⟩

theorem perm_mdel {K α : Type} [DecidableEq K] {l : List (K × α)} {x : K} {v : α} (hn : (l.map (·.1)).Nodup) (h : (x, v) ∈ l) : l.Perm ((x, v) :: mdel l x) := by
  induction l with
  | nil => cases h
  | cons p l ih =>
    simp only [List.map_cons, List.nodup_cons] at hn
    rcases List.mem_cons.1 h with rfl | h
    · have : mdel ((x, v) :: l) x = l := by
        unfold mdel
        rw [List.filter_cons, if_neg (by simp)]
        exact List.filter_eq_self.2 fun p hp => by simpa using fun e => hn.1 (List.mem_map.2 ⟨p, hp, e⟩)
      rw [this]
    · have hne : p.1 ≠ x := fun e => hn.1 (List.mem_map.2 ⟨_, h, e.symm⟩)
      have : mdel (p :: l) x = p :: mdel l x := by
        unfold mdel
        rw [List.filter_cons, if_pos (by simpa using hne)]
      rw [this]
      exact ((ih hn.2 h).cons p).trans (List.Perm.swap _ _ _)

/-- What has been copied, and what is still to come. -/
def CopyF (w0 wr : World) (bf r pc : Nat) (rs : List (Key × (Value × List Int))) : Prop :=
  ∃ (T : List (Key × (Value × List Int))) (F' : List Nat) (fl' : List (Key × List Int)),
    MapIt wr bf r keyV goodK (rs.map fun x => (x.1, x.2.1)) (T.map fun x => (x.1, x.2.1)) ∧ (∀ x ∈ T, x ∈ rs) ∧ BoardR wr pc F' ⟨fl', []⟩ ∧ (∀ i ∈ F', w0.heap.size ≤ i ∧ i ≠ r) ∧ Touch [] w0 wr ∧
    (fl' ++ T.map fun x => (x.1, x.2.2)).Perm (rs.map fun x => (x.1, x.2.2))

/-- A store among the clients. -/
theorem board_cl {w W : World} {pb bf bc : Nat} {F : List Nat} {M : BM} {cl' : List (Int × Key)} (h : BoardR w pb F M) (h1 : w.heap[pb]? = some (.cells #[.map (some bf), .map (some bc)] 64 (0, 0))) (t : Touch [bc] w W) (hc : MapT W bc intV goodI (cl'.map fun c => (c.1, keyV c.2))) :
    ∃ F', BoardR W pb F' ⟨M.fl, cl'⟩ ∧ (∀ i ∈ F, i ∈ F') ∧ ∀ i ∈ F', i ∈ F := by
  obtain ⟨bf', bc', rs, g1, h2, h3, h4, h5, hF, hnd⟩ := h
  rw [h1] at g1
  simp only [Option.some.injEq, Obj.cells.injEq, Array.mk.injEq, List.cons.injEq, Value.map.injEq, and_true] at g1
  obtain ⟨rfl, rfl⟩ := g1
  have hnd' := hnd
  rw [hF] at hnd'
  simp only [List.nodup_cons, List.mem_cons, not_or, mem_rowBlocks, not_exists, not_and] at hnd'
  obtain ⟨⟨n1, n2, n3⟩, ⟨n4, n5⟩, n6, n7⟩ := hnd'
  refine ⟨F, ⟨bf, bc, rs, (t.block pb (heap_lt h1) (by simpa using n2)).trans h1, h2.of_block (t.block bf h2.lt (by simpa using n4)), hc, h4, fun r hr => own_touch (h5 r hr) t (fun i hi => by simp; exact fun e => n6 r hr (by rw [← e]; exact hi)), hF, hnd⟩, fun _ h => h, fun _ h => h⟩
def CopyC (w0 wr : World) (bc r pc : Nat) (M : BM) (fl' : List (Key × List Int)) : Prop :=
  ∃ (T : List (Int × Key)) (F' : List Nat) (cl' : List (Int × Key)),
    MapIt wr bc r intV goodI (M.cl.map fun c => (c.1, keyV c.2)) (T.map fun c => (c.1, keyV c.2)) ∧ (∀ x ∈ T, x ∈ M.cl) ∧ BoardR wr pc F' ⟨fl', cl'⟩ ∧ (∀ i ∈ F', w0.heap.size ≤ i ∧ i ≠ r) ∧ Touch [] w0 wr ∧ (cl' ++ T).Perm M.cl

set_option maxRecDepth 4000 in
set_option maxHeartbeats 4000000 in
theorem Copy_any {w : World} {pb : Nat} {F : List Nat} {M : BM} {n : Nat} (h : BoardR w pb F M) (ok : M.Ok n) (hn : n < 1000000) :
    Calls Try.prog 22 #[.pointer (some ⟨pb, 0, none⟩)] w fun e w' => ∃ pc F' M', e = .returned (.pointer (some ⟨pc, 0, none⟩)) ∧
      BoardR w' pc F' M' ∧ Touch [] w w' ∧ (∀ i ∈ F', w.heap.size ≤ i) ∧ M'.fl.Perm M.fl ∧ M'.cl.Perm M.cl := by
  have h' := h
  obtain ⟨bf, bc, rs, h1, h2, h3, h4, h5, hF, hnd⟩ := h
  have c0 : w.cell? ⟨pb, 0, none⟩ = some (.map (some bf)) := by rw [cell_of h1]; rfl
  have c1 : w.cell? ⟨pb, 1, none⟩ = some (.map (some bc)) := by rw [cell_of h1]; rfl
  have H5 := Lib.hid (And.intro h1 (And.intro h2 (And.intro h3 (And.intro h5 h4))))
  have hlr : rs.length < 1000000 := by have := ok.fl; rw [h4] at this; simp at this; omega
  have hlen : Hid (∀ x ∈ rs, x.2.2 ≠ [] ∧ x.2.2.length < 1000000) := Lib.hid (fun x hx => by
    have hm : mget M.fl x.1 = some x.2.2 := mem_mget ok.fln (by rw [h4]; exact List.mem_map.2 ⟨x, hx, rfl⟩)
    exact ⟨(ok.back _ _ hm).1, Nat.lt_of_le_of_lt (ok.len _ _ hm) hn⟩)
  have h2lt := h2.lt
  have h3lt := h3.lt
  clear h1 h5 h3
  go_enter Try.func22, Try.ntmps22
  go_wp2_with fail
  refine (there_cell c0).mono ?_
  rintro e w1 ⟨rfl, rfl⟩
  go_wp2_with fail
  refine (New_any w).mono ?_
  rintro e w1 ⟨pc, Fc, rfl, hc, t1, hFc⟩
  have d0 := t1.cell c0 (by simp)
  have h2w := h2.of_block (t1.block bf h2lt (by simp))
  clear h2
  go_wp2_with (at_range; refine wpList_mt_range _ rfl _ _ 37 rfl Try.underlying61 h2w rfl ?_; intro w2 hIt t2)
  go_frame
  have hstart : CopyF w w2 bf w1.heap.size pc rs := ⟨rs, Fc, [], hIt, fun x hx => hx, hc.kept t2 (by simp), fun i hi => ⟨hFc i hi, fun e => by have := hc.lt i hi; omega⟩, t1.trans t2 (by simp), by simp⟩
  have hrlt : w1.heap.size < w2.heap.size := hIt.ltr
  generalize hr : w1.heap.size = r at *
  have hrw : w.heap.size ≤ r := by rw [← hr]; exact t1.size
  clear hIt t2 hc hFc t1 d0 h2w hr
  go_loopw [5] (fun _ wr => CopyF w wr bf r pc rs) (fun _ wr => wr.rangeLeft bf r)
  case atStart => exact hstart
  case round =>
    obtain ⟨T, F', fl', hIt, hTr, hB, hF', ht, hp⟩ := hrel
    have d1 := ht.cell c1 (by simp)
    go_wp2_with (at_next; refine wpList_mt_next _ rfl _ rfl encK.inj hIt rfl ?_ ?_)
    · intro hdone
      subst hdone
      have h3w : MapT wr bc intV goodI (M.cl.map fun c => (c.1, keyV c.2)) := H5.out.2.2.1.of_block (ht.block bc h3lt (by simp))
      go_wp2_with (at_range; refine wpList_mt_range _ rfl _ _ 28 rfl Try.underlying62 h3w rfl ?_; intro w3 hIt2 t3)
      go_frame
      rw [List.map_nil, List.append_nil] at hp
      have hp' : fl'.Perm M.fl := by rw [h4]; exact hp
      have hlt2 : wr.heap.size < w3.heap.size := hIt2.ltr
      have hstart2 : CopyC w w3 bc wr.heap.size pc M fl' := ⟨M.cl, F', [], hIt2, fun x hx => hx, hB.kept t3 (by simp), fun i hi => ⟨(hF' i hi).1, fun e => by have := hB.lt i hi; omega⟩, ht.trans t3 (by simp), by simp⟩
      have hwr : w.heap.size ≤ wr.heap.size := ht.size
      have Hp := Lib.hid hp'
      generalize hr2 : wr.heap.size = r2 at *
      clear hIt hIt2 hB hF' hp hp' t3 h3w hstart hrlt hTr d1
      go_loopw [6] (fun _ wq => CopyC w wq bc r2 pc M fl') (fun _ wq => wq.rangeLeft bc r2)
      case atStart => exact hstart2
      case round =>
        obtain ⟨T, F', cl', hIt, hTr, hB, hF', ht, hp⟩ := hrel
        go_wp2_with (at_next; refine wpList_mt_next _ rfl _ rfl encI.inj hIt rfl ?_ ?_)
        · intro hdone
          subst hdone
          go_wp2_with fail
          go_ret
          exact ⟨pc, F', ⟨fl', cl'⟩, rfl, hB, ht, fun i hi => (hF' i hi).1, Hp.out, by simpa using hp⟩
        · intro x v w4 k0 k hxT ek ev hIt3 t3 hen
          subst ek; subst ev
          replace hIt3 : MapIt w4 bc r2 intV goodI (M.cl.map fun c => (c.1, keyV c.2)) (mdel (T.map fun c => (c.1, keyV c.2)) k0) := hIt3
          have hgx : goodI k0 := H5.out.2.2.1.goods _ (List.mem_map.2 ⟨_, hTr _ hxT, rfl⟩)
          simp only [keyV, intV] at hen ⊢
          obtain ⟨bfc, bcc, rs', b1, b2, b3, b4, b5, bF, bnd⟩ := hB
          have hrF : ∀ i ∈ F', i ≠ r2 := fun i hi => (hF' i hi).2
          have tV : Touch [r2] wr (boxK w4 k) := t3.alloc _
          have kb := KBox' w4 k
          have hB4 : BoardR (boxK w4 k) pc F' ⟨fl', cl'⟩ := BoardR.kept ⟨bfc, bcc, rs', b1, b2, b3, b4, b5, bF, bnd⟩ tV (fun i hi => by simpa using hrF i hi)
          have hIt4 : MapIt (boxK w4 k) bc r2 intV goodI (M.cl.map fun c => (c.1, keyV c.2)) (mdel (T.map fun c => (c.1, keyV c.2)) k0) := hIt3.kept ((Touch.refl [] _).alloc _) (by simp) (by simp)
          have B1 : (boxK w4 k).heap[pc]? = some (.cells #[.map (some bfc), .map (some bcc)] 64 (0, 0)) := (tV.block pc (heap_lt b1) (by simpa using hrF pc (by rw [bF]; simp))).trans b1
          have B3 : MapT (boxK w4 k) bcc intV goodI (cl'.map fun c => (c.1, keyV c.2)) := b3.of_block (tV.block bcc b3.lt (by simpa using hrF bcc (by rw [bF]; simp)))
          have htV : Touch [] w (boxK w4 k) := ht.trans tV (by intro i hi; simp at hi; subst hi; exact .inr hwr)
          unfold boxK at tV htV kb B1 B3 hIt4 hB4
          go_wp2_with fail
          generalize w4.heap.size = kk at kb ⊢
          generalize w4.alloc (.cells #[.string k.db, .string k.role, .int .i64 k.format, .string k.norm] 28) = V at *
          obtain ⟨q0, q1, q2, q3⟩ := kb
          have p0 : V.cell? ⟨pc, 1, none⟩ = some (.map (some bcc)) := by rw [cell_of B1]; rfl
          have hclen : (cl'.map fun c => (c.1, keyV c.2)).length < maxLen := by
            have z1 := hp.length_eq
            simp only [List.length_append] at z1
            have := ok.cl
            simp [maxLen]; omega
          go_still_tail 6, (by kernel_rfl)
          change wpList _ _ _ _ _ V.drew
          refine wpList_mt_store V.drew rfl _ _ _ 62 28 rfl encI Try.underlying62 (B3.of_block (w' := V.drew) rfl) hclen hgx rfl rfl (keyV k) rfl ?_
          intro W6 h6 t6
          have t6' : Touch [bcc] V W6 := ((Touch.refl [bcc] V).drew).trans t6 (fun i hi => .inl hi)
          obtain ⟨F2, r1, r3, r4⟩ := board_cl hB4 B1 t6' (h6.of_eq (mput_map keyV cl' k0 k))
          have hIt6 : MapIt W6 bc r2 intV goodI (M.cl.map fun c => (c.1, keyV c.2)) ((mdel T k0).map fun c => (c.1, keyV c.2)) := by
            rw [← mdel_map keyV T k0]
            exact hIt4.kept t6' (by simp; intro e; have := (hF' bcc (by rw [bF]; simp)).1; omega) (by simp; exact Ne.symm (hrF bcc (by rw [bF]; simp)))
          have hTn := (hp.map (·.1)).nodup_iff.2 ok.cln
          rw [List.map_append, List.nodup_append] at hTn
          obtain ⟨_, n2, n3⟩ := hTn
          have hxf : ∀ p ∈ cl', p.1 ≠ k0 := fun p hp e => n3 p.1 (List.mem_map.2 ⟨p, hp, rfl⟩) k0 (List.mem_map.2 ⟨_, hxT, rfl⟩) e
          have hp2 : (mput cl' k0 k ++ mdel T k0).Perm M.cl := by
            rw [mput_new hxf, List.append_assoc]
            refine List.Perm.trans (List.Perm.append_left _ ?_) hp
            exact (perm_mdel n2 hxT).symm
          have hfin : CopyC w W6 bc r2 pc M fl' := ⟨mdel T k0, F2, _, hIt6, fun q hq => hTr q (List.mem_filter.1 hq).1, r1, fun i hi => hF' i (r4 i hi), htV.trans t6' (by intro i hi; simp at hi; subst hi; exact .inr (hF' _ (by rw [bF]; simp)).1), hp2⟩
          have hless : W6.rangeLeft bc r2 < wr.rangeLeft bc r2 := by
            rw [hIt6.left, hIt.left]
            have hlen := (perm_mdel n2 hxT).length_eq
            simp only [List.length_cons, List.length_map] at hlen ⊢
            omega
          clear hIt6 r1 r3 r4 h6 t6 t6'
          go_frame
          go_roundw
          case rel => exact ⟨_, _, _, _, _, _, _, _, _, _, _, _, _, hfin, rfl⟩
          case measure => exact hless
    · intro x v w3 l hxT hIt3 t3 hen
      replace hIt3 : MapIt w3 bf r keyV goodK (rs.map fun x => (x.1, x.2.1)) (mdel (T.map fun x => (x.1, x.2.1)) x) := hIt3
      have hxr := hTr _ hxT
      obtain ⟨hne, hll⟩ := hlen.out _ hxr
      have hown : w.ownsRow 0 3 1 v l.length (intsV l) := H5.out.2.2.2.1 _ hxr
      have hgx : goodK x := H5.out.2.1.goods _ (List.mem_map.2 ⟨_, hxr, rfl⟩)
      simp only [keyV] at hen ⊢
      obtain ⟨y, l0, rfl⟩ : ∃ y l0, l = y :: l0 := by cases l with
        | nil => exact absurd rfl hne
        | cons y l0 => exact ⟨y, l0, rfl⟩
      obtain ⟨g, cap, rfl, hcl⟩ := own_cells (xs := intsV l0) (x := .int .i64 y) hown
      obtain ⟨bfc, bcc, rs', b1, b2, b3, b4, b5, bF, bnd⟩ := hB
      have bnd' := bnd
      rw [bF] at bnd'
      simp only [List.nodup_cons, List.mem_cons, not_or, mem_rowBlocks, not_exists, not_and] at bnd'
      obtain ⟨⟨m1, m2, m3⟩, ⟨m4, m5⟩, m6, m7⟩ := bnd'
      have hrF : r ≠ pc ∧ r ≠ bfc ∧ r ≠ bcc := by
        have q1 := (hF' pc (by rw [bF]; simp)).2
        have q2 := (hF' bfc (by rw [bF]; simp)).2
        have q3 := (hF' bcc (by rw [bF]; simp)).2
        exact ⟨Ne.symm q1, Ne.symm q2, Ne.symm q3⟩
      have tV : Touch [r] wr (boxK w3 x) := t3.alloc _
      have htV : Touch [] w (boxK w3 x) := ht.trans tV (by intro i hi; simp at hi; subst hi; exact .inr hrw)
      have kb := KBox' w3 x
      have B1 : (boxK w3 x).heap[pc]? = some (.cells #[.map (some bfc), .map (some bcc)] 64 (0, 0)) := (tV.block pc (heap_lt b1) (by simp; exact Ne.symm hrF.1)).trans b1
      have B2 : MapT (boxK w3 x) bfc keyV goodK (rs'.map fun r => (r.1, r.2.1)) := b2.of_block (tV.block bfc b2.lt (by simp; exact Ne.symm hrF.2.1))
      have hIt4 : MapIt (boxK w3 x) bf r keyV goodK (rs.map fun x => (x.1, x.2.1)) (mdel (T.map fun x => (x.1, x.2.1)) x) := hIt3.kept ((Touch.refl [] _).alloc _) (by simp) (by simp)
      have hown4 := own_touch hown htV (by simp)
      have hk3 : w3.heap.size < (boxK w3 x).heap.size := by simp [boxK]
      unfold boxK at tV htV kb B1 B2 hIt4 hown4 hk3
      have hbfc3 : bfc < w3.heap.size := Nat.lt_of_lt_of_le b2.lt t3.size
      go_wp2_with fail
      generalize hkb : w3.heap.size = kk at kb hk3 hbfc3 ⊢
      generalize w3.alloc (.cells #[.string x.db, .string x.role, .int .i64 x.format, .string x.norm] 28) = V at *
      obtain ⟨k0, k1, k2, k3⟩ := kb
      have p0 : V.cell? ⟨pc, 0, none⟩ = some (.map (some bfc)) := by rw [cell_of B1]; rfl
      obtain ⟨i0, hi0, hz0, hz1, hz2⟩ := info_parts infoI
      have hlr' : (rs'.map fun r => (r.1, r.2.1)).length < maxLen := by
        have q1 := hp.length_eq
        simp only [List.length_append, List.length_map] at q1
        have q2 := congrArg List.length b4
        simp only [List.length_map] at q2
        simp [maxLen]; omega
      have hkkb : kk ≠ bfc := fun e => by omega
      have Hst : Hid (∀ (v1 : Value) (w5 : World), Touch [] V w5 → ∃ es' clock', (Instr.mapUpdate 61 (.map (some bfc)) (.agg #[.string x.db, .string x.role, .int .i64 x.format, .string x.norm]) v1).run Try.prog w5 = .ok () (ChangeMaps.setBlock w5 bfc (.map es' clock')) ∧
          MapT (ChangeMaps.setBlock w5 bfc (.map es' clock')) bfc keyV goodK (mput (rs'.map fun r => (r.1, r.2.1)) x v1) ∧ Touch [bfc] V (ChangeMaps.setBlock w5 bfc (.map es' clock')) ∧
          ((ChangeMaps.setBlock w5 bfc (.map es' clock')).cell? ⟨pc, 0, none⟩ = some (.map (some bfc)) ∧ (ChangeMaps.setBlock w5 bfc (.map es' clock')).cell? ⟨kk, 0, none⟩ = some (.string x.db) ∧ (ChangeMaps.setBlock w5 bfc (.map es' clock')).cell? ⟨kk, 1, none⟩ = some (.string x.role) ∧ (ChangeMaps.setBlock w5 bfc (.map es' clock')).cell? ⟨kk, 2, none⟩ = some (.int .i64 x.format) ∧ (ChangeMaps.setBlock w5 bfc (.map es' clock')).cell? ⟨kk, 3, none⟩ = some (.string x.norm)) ∧
          (w5.cell? ⟨pc, 0, none⟩ = some (.map (some bfc)) ∧ w5.cell? ⟨kk, 0, none⟩ = some (.string x.db) ∧ w5.cell? ⟨kk, 1, none⟩ = some (.string x.role) ∧ w5.cell? ⟨kk, 2, none⟩ = some (.int .i64 x.format) ∧ w5.cell? ⟨kk, 3, none⟩ = some (.string x.norm))) := Lib.hid (fun v1 w5 t5 => by
        have B5 := B2.of_block (t5.block bfc B2.lt (by simp))
        obtain ⟨es', clock', hrun, r1, r2, r3, r4⟩ := B5.store encK Try.underlying61 hlr' hgx v1
        have t6 : Touch [bfc] V (ChangeMaps.setBlock w5 bfc (.map es' clock')) := (t5.mono (by simp)).setBlock bfc _ (by simp)
        exact ⟨es', clock', hrun, ⟨es', clock', heap_setBlock_eq _ B5.lt, r1, r2, r3, r4⟩, t6, ⟨t6.cell p0 (by simp; exact m1), t6.cell k0 (by simp; exact hkkb), t6.cell k1 (by simp; exact hkkb), t6.cell k2 (by simp; exact hkkb), t6.cell k3 (by simp; exact hkkb)⟩,
          t5.cell p0 (by simp), t5.cell k0 (by simp), t5.cell k1 (by simp), t5.cell k2 (by simp), t5.cell k3 (by simp)⟩)
      have Hnews : Hid (∀ W' : World, W'.heap = V.heap → ∀ j u, (intsV (y :: l0))[j]? = some u → W'.cell? ((⟨g, 0, none⟩ : Addr).add j) = some u) := Lib.hid (fun W' hW' j u hu => by
        have hadd : (⟨g, 0, none⟩ : Addr).add j = ⟨g, j, none⟩ := by unfold Addr.add; split <;> simp_all
        rw [hadd, show W'.cell? ⟨g, j, none⟩ = V.cell? ⟨g, j, none⟩ from World.cell?_of_block (by rw [hW'])]
        exact htV.cell (hcl j u hu) (by simp))
      have Hone : Hid (∀ u ∈ intsV (y :: l0), u.oneCell' = true) := Lib.hid (fun u hu => by
        obtain ⟨z, _, rfl⟩ := List.mem_map.1 hu
        rfl)
      have hll2 : l0.length + 1 < 1000000 := by simpa using hll
      go_region_held3 (fun W' => W'.cell? ⟨pc, 0, none⟩ = some (.map (some bfc)) ∧ W'.cell? ⟨kk, 0, none⟩ = some (.string x.db) ∧ W'.cell? ⟨kk, 1, none⟩ = some (.string x.role) ∧ W'.cell? ⟨kk, 2, none⟩ = some (.int .i64 x.format) ∧ W'.cell? ⟨kk, 3, none⟩ = some (.string x.norm)) (first | (go_keep; done) | exact S5 | exact S6)
          ((refine step_append_at rfl _ _ 37 rfl 0 3 i0 (.int .i64 0) 1 8 Try.underlying37 hi0 hz0 hz1 hz2 rfl (by decide) (.slice none 0 0) 0 [] rfl (World.ownsRow_nil _ _ _ _) ⟨g, 0, none⟩ (l0.length + 1) cap (intsV (y :: l0)) rfl (by simp [intsV]) (Hnews.out _ rfl) Hone.out (by simp [maxLen]; omega) (by omega) (Nat.zero_le _) ?_; intro v1 w5 hown5 hgr hloc; obtain ⟨es2, clock2, hrun5, hM5, t6, S6, S5⟩ := Hst.out v1 w5 ((Touch.refl [] V).drew.grownBy hgr (fun i hi => by simp [Value.ownBlock] at hi))))
      have hIt6 : MapIt (ChangeMaps.setBlock w5 bfc (Obj.map es2 clock2)) bf r keyV goodK (rs.map fun x => (x.1, x.2.1)) ((mdel T x).map fun x => (x.1, x.2.1)) := by
        rw [← mdel_map (fun q : Value × List Int => q.1) T x]
        exact hIt4.kept t6 (by simp; intro e; have := (hF' bfc (by rw [bF]; simp)).1; omega) (by simp; exact hrF.2.1)
      have hv1 : ∀ i, v1.ownBlock = some i → V.heap.size ≤ i := fun i hi => by
        rcases hloc with h | h
        · rw [h] at hi; simp [Value.ownBlock] at hi
        · rw [h] at hi; cases hi; exact Nat.le_refl _
      have hbfV : bfc < V.heap.size := B2.lt
      have hown6 : (ChangeMaps.setBlock w5 bfc (Obj.map es2 clock2)).ownsRow 0 3 1 v1 (y :: l0).length (intsV (y :: l0)) :=
        own_touch (by simpa using hown5) ((Touch.refl [bfc] w5).setBlock bfc _ (by simp)) (fun i hi => by have := hv1 i hi; simp; omega)
      have hrows : ∀ q ∈ rs', V.ownsRow 0 3 1 q.2.1 q.2.2.length (intsV q.2.2) := fun q hq => own_touch (b5 q hq) tV (fun i hi => by
        have := (hF' i (by rw [bF]; simp only [List.mem_cons, mem_rowBlocks]; exact .inr (.inr (.inr ⟨q, hq, hi⟩)))).2
        simpa using this)
      have B3 : MapT V bcc intV goodI (([] : List (Int × Key)).map fun c => (c.1, keyV c.2)) := b3.of_block (tV.block bcc b3.lt (by simp; exact Ne.symm hrF.2.2))
      obtain ⟨F2, r1, r2, r3⟩ := leave_close (M := ⟨fl', []⟩) (l := y :: l0) (cl' := []) B1 B2 B3 hrows b4 bF bnd (Touch.refl _ _) B3 t6 hM5 hown6 hv1
      have hrsn : ((rs.map fun x => (x.1, x.2.2)).map (·.1)).Nodup := by rw [← h4]; exact ok.fln
      have hTn := (hp.map (·.1)).nodup_iff.2 hrsn
      rw [List.map_append, List.nodup_append] at hTn
      obtain ⟨_, n2, n3⟩ := hTn
      have hxf : ∀ p ∈ fl', p.1 ≠ x := fun p hp e => n3 p.1 (List.mem_map.2 ⟨p, hp, rfl⟩) x (by simp only [List.map_map, List.mem_map]; exact ⟨_, hxT, rfl⟩) e
      have hTn' : (T.map (·.1)).Nodup := by simpa [List.map_map, Function.comp_def] using n2
      have hp2 : (mput fl' x (y :: l0) ++ (mdel T x).map fun x => (x.1, x.2.2)).Perm (rs.map fun x => (x.1, x.2.2)) := by
        rw [mput_new hxf, List.append_assoc]
        refine List.Perm.trans (List.Perm.append_left _ ?_) hp
        exact ((perm_mdel hTn' hxT).map (fun x : Key × (Value × List Int) => (x.1, x.2.2))).symm
      have hfin : CopyF w (ChangeMaps.setBlock w5 bfc (Obj.map es2 clock2)) bf r pc rs := ⟨mdel T x, F2, _, hIt6, fun q hq => hTr q (List.mem_filter.1 hq).1, r1, fun i hi => by
        rcases r3 i hi with h | h
        · exact hF' i h
        · exact ⟨Nat.le_trans htV.size h, fun e => by have := hIt4.ltr; omega⟩, htV.trans t6 (by intro i hi; simp at hi; subst hi; exact .inr (hF' _ (by rw [bF]; simp)).1), hp2⟩
      have hless : (ChangeMaps.setBlock w5 bfc (Obj.map es2 clock2)).rangeLeft bf r < wr.rangeLeft bf r := by
        rw [hIt6.left, hIt.left]
        have hlen := (perm_mdel hTn' hxT).length_eq
        simp only [List.length_cons, List.length_map] at hlen ⊢
        omega
      clear hIt6 hv1 hown6 hrows B3 r1 r2 r3 hM5 hown5 hgr hloc t6 S5 S6
      generalize ChangeMaps.setBlock w5 bfc (Obj.map es2 clock2) = W6 at hfin hless ⊢
      go_roundw
      case rel => exact ⟨_, _, _, _, _, _, _, _, _, _, _, _, _, _, hfin, rfl⟩
      case measure => exact hless
end Go.Proofs.Ytjmgookpmngmaab
