/- VersPlays: the walk. -/
import Derived.Test.YtjmgookpmngmaacVrBi2
import Derived.Deep.DeepCutAuto
import Derived.Deep.CutBlock
import Derived.Deep.AppendLies
import Derived.Laws.OwnMore
namespace Go.Proofs.Ytjmgookpmngmaac
open Go Go.RowKit Go.Maps

theorem LowA.up {B B' : Nat} {ks : List Nat} {A : Option Addr} {n : Nat} (h : LowA B ks A n) (hB : B ≤ B') : LowA B' ks A n := h.imp id fun h a ha => (h a ha).imp (fun h => Nat.lt_of_lt_of_le h hB) id
def opO (o : OpT) : Obj := .cells #[.int .i64 o.kind, .int .i64 o.client, .slice o.A o.n o.cp] 29 (0, 0)
theorem opO_cells {w : World} {g : Nat} {o : OpT} (h : w.heap[g]? = some (opO o)) : w.cell? ⟨g, 0, none⟩ = some (.int .i64 o.kind) ∧ w.cell? ⟨g, 1, none⟩ = some (.int .i64 o.client) ∧ w.cell? ⟨g, 2, none⟩ = some (.slice o.A o.n o.cp) := by
  unfold opO at h
  exact ⟨by rw [cell_of h]; rfl, by rw [cell_of h]; rfl, by rw [cell_of h]; rfl⟩

theorem RVC.epoch {w : World} {pr : Nat} {v1 v2 : Value} {ep : Int} {bumps : List ByteArray} {marks : List (Int × ByteArray)} (h : RVC w pr v1 v2 ep bumps marks) (x : Int) : RVM w (w.setCell ⟨pr, 1, none⟩ (.int .i64 x)) pr v1 v2 x bumps marks := by
  have t : Touch [pr] w (w.setCell ⟨pr, 1, none⟩ (.int .i64 x)) := (Touch.refl _ _).setCell _ (by simp)
  refine ⟨⟨v1, v2, ⟨?_, own_touch' h.own1 t fun i hi => by simpa using (h.ap1 i hi).1, own_touch' h.own2 t fun i hi => by simpa using h.ap2 i hi, h.ap1, h.ap2⟩, fun i hi => .inl hi⟩, t.mono (by simp [rblocks])⟩
  have := block_set h.cells (i := 1) (.int .i64 x)
  simpa using this
theorem Ver.epb {B : Nat} {ks : List Nat} {w : World} {pv : Nat} {M : VA} {n : Nat} (h : Ver B ks w pv M n) : 0 ≤ M.ep ∧ M.ep ≤ n := by
  obtain ⟨_, _, _, _, _, _, _, _, _, h8, h9⟩ := h; exact ⟨h8, h9⟩
theorem VerC.keptK {B : Nat} {ks : List Nat} {w w' : World} {pv bm : Nat} {ep : Int} {rs : List (ByteArray × Tab)} (h : VerC w pv bm ep rs) (k : Kept B ks w w') (hk : ∀ i ∈ blocks pv bm rs, i ∈ ks) : VerC w' pv bm ep rs :=
  ⟨(k.2 pv (hk pv (by simp [blocks]))).trans h.cells, h.map.of_block (k.2 bm (hk bm (by simp [blocks]))), fun r hr => ⟨(k.2 _ (hk _ (by simp only [blocks, List.mem_cons, mem_tabBlocks]; exact .inr (.inr ⟨r, hr, .inl rfl⟩)))).trans (h.tabs r hr).cells, (h.tabs r hr).map.of_block (k.2 _ (hk _ (by simp only [blocks, List.mem_cons, mem_tabBlocks]; exact .inr (.inr ⟨r, hr, .inr rfl⟩))))⟩, h.nodup⟩

theorem Bi.watchL {B : Nat} {X : List Nat} {w w' : World} {pv pr : Nat} {M : VA} {n : Nat} {v1 v2 : Value} {bumps : List ByteArray} {marks : List (Int × ByteArray)} (h : Bi B X w pv pr M n v1 v2 bumps marks) (t : Touch [] w w') (L : List Nat) (hL : ∀ g ∈ L, w.heap.size ≤ g ∧ g < w'.heap.size) : Bi B (L ++ X) w' pv pr M n v1 v2 bumps marks := by
  have hl := h.r.lt
  have k := h.kept t
  refine ⟨(h.v.watchL t L hL).rest (fun k hk => by simp only [List.mem_append] at hk ⊢; rcases hk with q | q | q <;> simp [q]), k.r, fun i hi => ⟨(h.lo i hi).1, fun hm => ?_⟩, h.num, h.dirty, h.lenb, h.lenm⟩
  rcases List.mem_append.1 hm with e | hm
  · have := hl i hi; have := (hL i e).1; omega
  · exact (h.lo i hi).2 hm
theorem Bi.keptX {B : Nat} {X S : List Nat} {w w' : World} {pv pr : Nat} {M : VA} {n : Nat} {v1 v2 : Value} {bumps : List ByteArray} {marks : List (Int × ByteArray)} (h : Bi B X w pv pr M n v1 v2 bumps marks) (t : Touch S w w') (hS : ∀ i ∈ S, i ∈ X) : Bi B X w' pv pr M n v1 v2 bumps marks :=
  ⟨h.v.keptW t (fun i hi => .inl (List.mem_append.2 (.inr (hS i hi)))), h.r.kept t (fun i hi hm => (h.lo i hi).2 (hS i hm)), h.lo, h.num, h.dirty, h.lenb, h.lenm⟩

set_option maxRecDepth 8000 in
set_option maxHeartbeats 8000000 in
theorem VersPlays_walk (w : World) (A : Option Addr) (n cp : Nat) (os : List OpT) (hn : n = os.length) (hA : ∀ a, A = some a → RowO w a n os) (h0 : A = none → n = 0) (hs : ∀ o ∈ os, GoodO w o)
    (E : Int) (A1 : Option Addr) (n1 c1 : Nat) (names : List ByteArray) (A2 : Option Addr) (n2 c2 : Nat) (nums : List Int) (hN : NamesA w A1 n1 names) (hM : NumsA w A2 n2 nums) :
    Calls Try.prog 6 #[.slice A n cp, .agg #[.int .i64 E, .slice A1 n1 c1, .slice A2 n2 c2]] w fun e w' => e = .returned (.bool true) ∧ Below w.heap.size w w' := by
  have Hn := Lib.hid hn; have Hs := Lib.hid hs; have HA := Lib.hid hA; have H0 := Lib.hid h0
  have HN := Lib.hid hN; have HM := Lib.hid hM
  clear hn hs hA h0 hN hM
  have tb : Touch [] w (w.alloc (.cells #[.int .i64 E, .slice A1 n1 c1, .slice A2 n2 c2] 33)) := (Touch.refl _ _).alloc _
  have e3 : (w.alloc (.cells #[.int .i64 E, .slice A1 n1 c1, .slice A2 n2 c2] 33)).heap[w.heap.size]? = some (.cells #[.int .i64 E, .slice A1 n1 c1, .slice A2 n2 c2] 33 (0, 0)) := heap_alloc_new w _
  have hz0 : (w.alloc (.cells #[.int .i64 E, .slice A1 n1 c1, .slice A2 n2 c2] 33)).heap.size = w.heap.size + 1 := by simp
  have HW := Lib.hid (And.intro tb (And.intro e3 hz0))
  clear tb e3 hz0
  go_enter Try.func6, Try.ntmps6
  go_wp2_with fail
  generalize w.alloc (.cells #[.int .i64 E, .slice A1 n1 c1, .slice A2 n2 c2] 33) = W0 at *
  refine (NewV W0).mono ?_
  rintro e w1 ⟨pv, rfl, vv1, t1⟩
  generalize hBz : W0.heap.size = Bz at *
  generalize hB : w.heap.size = Bw at *
  have b1 : Below Bz W0 w1 := t1.below0 (by omega)
  go_upto_region 3 with fail
  have Hp : Hid (Bi Bz [] (w1.alloc (.cells #[.slice none 0 0, .int .i64 0, .slice none 0 0] 48)) pv w1.heap.size ⟨0, fun _ => 0, fun _ _ => false⟩ 0 (.slice none 0 0) (.slice none 0 0) [] []) := Lib.hid
    ⟨vv1.watch ((Touch.refl _ _).alloc _) w1.heap.size (Nat.le_refl _) (by simp), ⟨heap_alloc_new w1 _, World.ownsRow_nil _ _ _ _, World.ownsRow_nil _ _ _ _, by simp [Value.ownBlock], by simp [Value.ownBlock]⟩, by simp [rblocks, Value.ownBlock]; have := t1.size; omega, fun s => by simp [cntB], fun s c => by simp, by simp, by simp⟩
  have HB : Hid (Below Bz W0 (w1.alloc (.cells #[.slice none 0 0, .int .i64 0, .slice none 0 0] 48)) ∧ Bz ≤ (w1.alloc (.cells #[.slice none 0 0, .int .i64 0, .slice none 0 0] 48)).heap.size) := Lib.hid ⟨b1.trans (((Touch.refl [] w1).alloc _).below0 vv1.size), by have := t1.size; simp; omega⟩
  generalize w1.heap.size = pr at *
  generalize w1.alloc (.cells #[.slice none 0 0, .int .i64 0, .slice none 0 0] 48) = W1 at *
  clear vv1 t1 b1
  have hfromw : ∀ wq, Below Bz W0 wq → Bz ≤ wq.heap.size → Below Bw w wq ∧ w.heap.size ≤ wq.heap.size := fun wq hq hs => ⟨(HW.out.1.below0 (by omega)).trans (hq.mono (by have := HW.out.2.2; omega)), by have := HW.out.2.2; omega⟩
  have HF := Lib.hid hfromw
  clear hfromw
  have hbw : Bw ≤ Bz := by have := HW.out.2.2; omega
  have h3 := fun wq (hq : Below Bz W0 wq) => (hq.block Bw (by have := HW.out.2.2; omega)).trans HW.out.2.1
  have H3 := Lib.hid h3
  clear h3
  have s1 : W1.cell? ⟨Bw, 1, none⟩ = some (.slice A1 n1 c1) := by rw [cell_of (H3.out W1 HB.out.1)]; rfl
  have s2 : W1.cell? ⟨Bw, 2, none⟩ = some (.slice A2 n2 c2) := by rw [cell_of (H3.out W1 HB.out.1)]; rfl
  obtain ⟨bw1, bs1⟩ := HF.out W1 HB.out.1 HB.out.2
  have nI1 := (HN.out.low' hB bw1 bs1).1
  clear bw1 bs1
  have hend : ∀ wq, Bi Bz [] wq pv pr ⟨0, fun _ => 0, fun _ _ => false⟩ 0 (.slice none 0 0) (.slice none 0 0) [] [] → Below Bz W0 wq → Bz ≤ wq.heap.size → ∀ wz, Below wq.heap.size wq wz → Below w.heap.size w wz := fun wq _ h1 h2 wz h3 => by rw [hB]; exact (HF.out wq h1 h2).1.trans (h3.mono (by omega))
  have HE := Lib.hid hend
  clear hend
  go_wp2_with fail
  refine (few_any nI1 HN.out.len (fun s hs => Nat.le_trans (HN.out.size s hs) (by decide))).mono ?_
  rintro e w2 ⟨rfl, rfl⟩
  cases hfew : fewB names with
  | false =>
    go_wp2_with fail
    refine (known_any W1).mono ?_
    rintro e w3 ⟨rfl, t3⟩
    go_wp2
    go_ret
    exact ⟨rfl, HE.out W1 Hp.out HB.out.1 HB.out.2 w3 t3⟩
  | true =>
  have hn1 : n1 ≤ 20 := by have := few_small hfew; have := HN.out.row.1; omega
  clear hfew nI1
  by_cases h20 : 20 < n2
  · have hi : (20 : Int) < (n2 : Int) := by omega
    go_wp2_with fail
    refine (known_any W1).mono ?_
    rintro e w3 ⟨rfl, t3⟩
    go_wp2
    go_ret
    exact ⟨rfl, HE.out W1 Hp.out HB.out.1 HB.out.2 w3 t3⟩
  have hi : ¬ (20 : Int) < (n2 : Int) := by omega
  go_wp2_with fail
  clear HE s1 s2
  go_loopw [5, 7, 8, 9, 10, 11, 12] (fun v i _ _ _ _ _ wr => ∃ (j pv : Nat) (M : VA) (v1 v2 : Value) (bumps : List ByteArray) (marks : List (Int × ByteArray)), j ≤ n ∧ j ≤ 50 ∧ i = .int .i64 j ∧ v = .pointer (some ⟨pv, 0, none⟩) ∧ Hid (Bi Bz [] wr pv pr M (80 * j) v1 v2 bumps marks) ∧ Hid (Below Bz W0 wr ∧ Bz ≤ wr.heap.size)) (fun _ i _ _ _ _ _ _ => n - (intOf i).toNat)
  case atStart => exact ⟨0, pv, _, _, _, _, _, Nat.zero_le _, Nat.zero_le _, rfl, rfl, Hp, HB⟩
  clear Hp HB
  case round =>
    obtain ⟨j, pv, M, v1, v2, bumps, marks, hj, hj5, rfl, rfl, hp, hb⟩ := hrel
    by_cases hlt : j < n ∧ j < 50
    · obtain ⟨hlt, hl5⟩ := hlt
      obtain ⟨a, rfl⟩ : ∃ a, A = some a := by
        cases A with
        | none => have := H0.out rfl; omega
        | some a => exact ⟨a, rfl⟩
      have hR := HA.out a rfl
      obtain ⟨o, hoj⟩ : ∃ o, os[j]? = some o := ⟨_, List.getElem?_eq_getElem (by have := Hn.out; omega)⟩
      have Hgo := Lib.hid (Hs.out o (List.mem_of_getElem? hoj))
      have hka := hR.2 j o hoj
      have hlo := hka.lt
      rw [hB] at hlo
      obtain ⟨bw, bs⟩ := HF.out wr hb.out.1 hb.out.2
      obtain ⟨d0, d1, d2⟩ := hka.low bw hlo
      have P2 := Lib.hid (hp.out.box (opO o))
      have g2 : (wr.alloc (opO o)).heap[wr.heap.size]? = some (opO o) := heap_alloc_new wr _
      have B2 : Hid (Below Bz W0 (wr.alloc (opO o)) ∧ Bz ≤ (wr.alloc (opO o)).heap.size) := Lib.hid ⟨hb.out.1.trans (((Touch.refl [] wr).alloc _).below0 hb.out.2), by have := hb.out.2; simp; omega⟩
      have G2 := Lib.hid g2
      have HGB : Hid (Bz ≤ wr.heap.size) := Lib.hid hb.out.2
      unfold opO at P2 G2 B2
      go_upto_region 9 with fail
      clear hoj hR hka d0 d1 d2 hp hb bw bs g2
      generalize wr.alloc (.cells #[.int .i64 o.kind, .int .i64 o.client, .slice o.A o.n o.cp] 29) = W at *
      generalize wr.heap.size = g at *
      have G : Hid (W.heap[g]? = some (opO o)) := Lib.hid G2.out
      clear G2
      obtain ⟨q0, q1, q2⟩ := opO_cells G.out
      have NI := Lib.hid (Hgo.out.names.low' hB (HF.out W B2.out.1 B2.out.2).1 (HF.out W B2.out.1 B2.out.2).2)
      go_wp2_with fail
      refine (few_any NI.out.1 Hgo.out.names.len (fun s hs => Nat.le_trans (Hgo.out.names.size s hs) (by decide))).mono ?_
      rintro e w2 ⟨rfl, rfl⟩
      cases hfw : fewB o.names with
      | false =>
        go_wp2_with fail
        go_roundw
        case rel => exact ⟨j + 1, pv, M, v1, v2, bumps, marks, by omega, by omega, by go_num, rfl, Lib.hid ((P2.out.drop (by simp)).mono (by omega)), B2⟩
        case measure => simp [intOf]; omega
      | true =>
      have ho20 : o.n ≤ 20 := by have := few_small hfw; have := Hgo.out.names.row.1; omega
      have Hon := Lib.hid Hgo.out.names.row.1
      clear hfw
      go_upto_block 2 with fail
      go_cut [5] (fun v wx => ∃ (pv : Nat) (M : VA) (v1 v2 : Value) (bumps : List ByteArray) (marks : List (Int × ByteArray)), v = .pointer (some ⟨pv, 0, none⟩) ∧ Hid (Bi Bz [g] wx pv pr M (80 * (j + 1)) v1 v2 bumps marks) ∧ Hid (Below Bz W0 wx ∧ Bz ≤ wx.heap.size) ∧ Hid (wx.heap[g]? = some (opO o)))
      case first =>
        have hlow : ∀ ks, LowA Bz ks o.A o.n := fun ks => (NI.out.2 ks).up hbw
        have HL := Lib.hid hlow
        clear hlow
        by_cases k0 : o.kind = 0
        · have hk0 : (o.kind == 0) = true := by simp [k0]
          clear k0
          go_wp2_with fail
          refine (BumpV P2.out.v NI.out.1 (HL.out _) Hgo.out.names.good (by omega)).mono ?_
          rintro e w3 ⟨rfl, v3, k3, z3⟩
          have B3 : Hid (Below Bz W0 w3 ∧ Bz ≤ w3.heap.size) := Lib.hid ⟨B2.out.1.trans k3.1, Nat.le_trans B2.out.2 z3⟩
          have G3 : Hid (w3.heap[g]? = some (opO o)) := Lib.hid ((k3.2 g (by simp)).trans G.out)
          obtain ⟨r0, r1, r2⟩ := opO_cells G3.out
          have NI3 := Lib.hid (Hgo.out.names.low' hB (HF.out w3 B3.out.1 B3.out.2).1 (HF.out w3 B3.out.1 B3.out.2).2)
          have hr3 := P2.out.r.keptK k3 (by simp +contextual)
          go_wp2_with fail
          refine (rBump_any hr3 NI3.out.1 ((NI3.out.2 []).imp id fun hl a ha hm => ?_) (by have := P2.out.lenb; omega) Hgo.out.cap.1 Hgo.out.cap.2).mono ?_
          · have h1 := (P2.out.lo _ hm).1
            rcases hl a ha with q | q
            · omega
            · cases q
          rintro e w4 ⟨rfl, m4⟩
          obtain ⟨⟨v1', v2', b4⟩, bl4, x4, z4⟩ := P2.out.both v3 k3 m4 (bump_num P2.out.num Hon.out) P2.out.dirty (by have := bumpTo_length (bumps := bumps) (l := o.names) o.n (by have := Hon.out; omega); have := P2.out.lenb; omega) (by have := P2.out.lenm; omega)
          have F4 := Lib.hid (And.intro b4 (And.intro (And.intro (B2.out.1.trans bl4) (Nat.le_trans B3.out.2 z4)) ((x4 g (by simp)).trans G.out)))
          clear v3 k3 z3 m4 b4 bl4 x4 z4 hr3 q0 q1 q2 r0 r1 r2
          go_wp2_with fail
          go_meet
          exact ⟨pv, _, _, _, _, _, rfl, Lib.hid (F4.out.1.mono (by omega)), Lib.hid F4.out.2.1, Lib.hid F4.out.2.2⟩
        have hk0 : (o.kind == 0) = false := by simp [k0]
        clear k0
        by_cases k1 : o.kind = 1
        · have hk1 : (o.kind == 1) = true := by simp [k1]
          clear k1
          go_wp2_with fail
          refine (AllV P2.out.v (by omega)).mono ?_
          rintro e w3 ⟨rfl, v3, k3, z3⟩
          have B3 : Hid (Below Bz W0 w3 ∧ Bz ≤ w3.heap.size) := Lib.hid ⟨B2.out.1.trans k3.1, Nat.le_trans B2.out.2 z3⟩
          have hr3 := P2.out.r.keptK k3 (by simp +contextual)
          obtain ⟨ep0, ep1⟩ := P2.out.v.epb
          have y1 := hr3.c1
          have f1 := frozen_of hr3.cells 1
          obtain ⟨⟨v1', v2', b4⟩, bl4, x4, z4⟩ := P2.out.both v3 k3 (hr3.epoch (M.ep + 1)) P2.out.num P2.out.dirty (by have := P2.out.lenb; omega) (by have := P2.out.lenm; omega)
          have F4 := Lib.hid (And.intro b4 (And.intro (And.intro (B2.out.1.trans bl4) (Nat.le_trans B3.out.2 z4)) ((x4 g (by simp)).trans G.out)))
          clear v3 k3 z3 b4 bl4 x4 z4 hr3 q0 q1 q2
          generalize M.ep = ep at *
          go_wp2_with fail
          go_meet
          exact ⟨pv, _, _, _, _, _, rfl, Lib.hid (F4.out.1.mono (by omega)), Lib.hid F4.out.2.1, Lib.hid F4.out.2.2⟩
        have hk1 : (o.kind == 1) = false := by simp [k1]
        clear k1
        by_cases k2 : o.kind = 2
        · have hk2 : (o.kind == 2) = true := by simp [k2]
          clear k2
          go_wp2_with fail
          refine (DirtyV P2.out.v o.client Hgo.out.client NI.out.1 (HL.out _) Hgo.out.names.good (by omega)).mono ?_
          rintro e w3 ⟨rfl, v3, k3, z3⟩
          have B3 : Hid (Below Bz W0 w3 ∧ Bz ≤ w3.heap.size) := Lib.hid ⟨B2.out.1.trans k3.1, Nat.le_trans B2.out.2 z3⟩
          have G3 : Hid (w3.heap[g]? = some (opO o)) := Lib.hid ((k3.2 g (by simp)).trans G.out)
          obtain ⟨r0, r1, r2⟩ := opO_cells G3.out
          have NI3 := Lib.hid (Hgo.out.names.low' hB (HF.out w3 B3.out.1 B3.out.2).1 (HF.out w3 B3.out.1 B3.out.2).2)
          have hr3 := P2.out.r.keptK k3 (by simp +contextual)
          go_wp2_with fail
          refine (rDirty_any hr3 o.client NI3.out.1 ((NI3.out.2 []).imp id fun hl a ha hm => ?_) (by have := P2.out.lenm; omega)).mono ?_
          · have h1 := (P2.out.lo _ hm).1
            rcases hl a ha with q | q
            · omega
            · cases q
          rintro e w4 ⟨rfl, m4⟩
          obtain ⟨⟨v1', v2', b4⟩, bl4, x4, z4⟩ := P2.out.both v3 k3 m4 P2.out.num (mark_dirty P2.out.dirty o.client o.names) (by have := P2.out.lenb; omega) (by have := P2.out.lenm; have := Hon.out; simp only [markTo, List.length_append, List.length_map]; omega)
          have F4 := Lib.hid (And.intro b4 (And.intro (And.intro (B2.out.1.trans bl4) (Nat.le_trans B3.out.2 z4)) ((x4 g (by simp)).trans G.out)))
          clear v3 k3 z3 m4 b4 bl4 x4 z4 hr3 q0 q1 q2 r0 r1 r2
          go_wp2_with fail
          go_meet
          exact ⟨pv, _, _, _, _, _, rfl, Lib.hid (F4.out.1.mono (by omega)), Lib.hid F4.out.2.1, Lib.hid F4.out.2.2⟩
        have hk2 : (o.kind == 2) = false := by simp [k2]
        clear k2
        by_cases k3 : o.kind = 3
        · have hk3 : (o.kind == 3) = true := by simp [k3]
          clear k3
          go_wp2_with fail
          refine (CleanV P2.out.v o.client Hgo.out.client).mono ?_
          rintro e w3 ⟨rfl, v3, k3, z3⟩
          have B3 : Hid (Below Bz W0 w3 ∧ Bz ≤ w3.heap.size) := Lib.hid ⟨B2.out.1.trans k3.1, Nat.le_trans B2.out.2 z3⟩
          have G3 : Hid (w3.heap[g]? = some (opO o)) := Lib.hid ((k3.2 g (by simp)).trans G.out)
          obtain ⟨r0, r1, r2⟩ := opO_cells G3.out
          have hr3 := P2.out.r.keptK k3 (by simp +contextual)
          go_wp2_with fail
          refine (rClean_any hr3 o.client (by have := P2.out.lenm; omega)).mono ?_
          rintro e w4 ⟨rfl, m4⟩
          obtain ⟨⟨v1', v2', b4⟩, bl4, x4, z4⟩ := P2.out.both v3 k3 m4 P2.out.num (clean_dirty P2.out.dirty o.client) P2.out.lenb (Nat.le_trans (List.length_filter_le _ _) P2.out.lenm)
          have F4 := Lib.hid (And.intro b4 (And.intro (And.intro (B2.out.1.trans bl4) (Nat.le_trans B3.out.2 z4)) ((x4 g (by simp)).trans G.out)))
          clear v3 k3 z3 m4 b4 bl4 x4 z4 hr3 q0 q1 q2 r0 r1 r2
          go_wp2_with fail
          go_meet
          exact ⟨pv, _, _, _, _, _, rfl, Lib.hid (F4.out.1.mono (by omega)), Lib.hid F4.out.2.1, Lib.hid F4.out.2.2⟩
        have hk3 : (o.kind == 3) = false := by simp [k3]
        clear k3
        by_cases k4 : o.kind = 4
        · have hk4 : (o.kind == 4) = true := by simp [k4]
          clear k4
          go_wp2_with fail
          refine (TakeV P2.out.v NI.out.1 Hgo.out.names.good (by omega)).mono ?_
          rintro e w3 ⟨D1, f1, D2, f2, rfl, o1, o2, hap, t3⟩
          have P3 := Lib.hid (P2.out.watchL t3 ((Value.slice D1 o.n f1).ownBlock.toList ++ (Value.slice D2 o.n f2).ownBlock.toList) (fun i hi => by
            rcases List.mem_append.1 hi with q | q
            · exact o1.lt i (by simpa using q)
            · exact o2.lt i (by simpa using q)))
          have P4 := Lib.hid (P3.out.box (.cells #[.int .i64 M.ep, .slice D1 o.n f1, .slice D2 o.n f2] 33 (0, 0)))
          have ta : Touch [] w3 (w3.alloc (.cells #[.int .i64 M.ep, .slice D1 o.n f1, .slice D2 o.n f2] 33)) := (Touch.refl _ _).alloc _
          have e4 : (w3.alloc (.cells #[.int .i64 M.ep, .slice D1 o.n f1, .slice D2 o.n f2] 33)).heap[w3.heap.size]? = some (.cells #[.int .i64 M.ep, .slice D1 o.n f1, .slice D2 o.n f2] 33 (0, 0)) := heap_alloc_new w3 _
          have T4 : Touch [] W (w3.alloc (.cells #[.int .i64 M.ep, .slice D1 o.n f1, .slice D2 o.n f2] 33)) := t3.trans ta (by simp)
          have O := Lib.hid (And.intro (own_touch' o1 ta (by simp)) (And.intro (own_touch' o2 ta (by simp)) (And.intro hap (And.intro (fun i hi => And.intro (o1.lt i hi).2 (Nat.lt_of_lt_of_le (heap_lt G.out) (o1.lt i hi).1)) (fun i hi => And.intro (o2.lt i hi).2 (Nat.lt_of_lt_of_le (heap_lt G.out) (o2.lt i hi).1))))))
          have G4 : Hid ((w3.alloc (.cells #[.int .i64 M.ep, .slice D1 o.n f1, .slice D2 o.n f2] 33)).heap[g]? = some (opO o)) := Lib.hid ((T4.block g (heap_lt G.out) (by simp)).trans G.out)
          have B4 : Hid (Below Bz W0 (w3.alloc (.cells #[.int .i64 M.ep, .slice D1 o.n f1, .slice D2 o.n f2] 33)) ∧ Bz ≤ (w3.alloc (.cells #[.int .i64 M.ep, .slice D1 o.n f1, .slice D2 o.n f2] 33)).heap.size) := Lib.hid ⟨B2.out.1.trans (T4.below0 P2.out.size), Nat.le_trans B2.out.2 T4.size⟩
          have hnum : M.num = cntI bumps := funext P2.out.num
          have hlb : bumps.length < 1000000 := by have := P2.out.lenb; omega
          go_upto_region 32 with fail
          clear P3 o1 o2 hap t3 ta T4 P2 G B2 q0 q1 q2
          generalize w3.alloc (.cells #[.int .i64 M.ep, .slice D1 o.n f1, .slice D2 o.n f2] 33) = W4 at *
          generalize w3.heap.size = gt at *
          have z0 : W4.cell? ⟨gt, 0, none⟩ = some (.int .i64 M.ep) := by rw [cell_of e4]; rfl
          have z1 : W4.cell? ⟨gt, 1, none⟩ = some (.slice D1 o.n f1) := by rw [cell_of e4]; rfl
          have z2 : W4.cell? ⟨gt, 2, none⟩ = some (.slice D2 o.n f2) := by rw [cell_of e4]; rfl
          have z3 := (opO_cells G4.out).2.2
          have z4 := P4.out.r.c1
          have tdr : Touch [] W4 W4.drew := (Touch.refl _ _).drew
          have NI4 := Lib.hid ((Hgo.out.names.low' hB (HF.out W4 B4.out.1 B4.out.2).1 (HF.out W4 B4.out.1 B4.out.2).2).1.kept0 tdr)
          have N1 := Lib.hid ((NamesI.of_own O.out.1).kept0 tdr)
          have N2 := Lib.hid ((NumsI.of_own O.out.2.1).kept0 tdr)
          have R4 := Lib.hid (P4.out.r.kept0 tdr)
          have hep : (M.ep != M.ep) = false := by simp
          have Hnum := Lib.hid hnum
          have hgw := heap_lt e4
          have hgo := heap_lt G4.out
          clear hnum e4
          go_region_held3 (fun W' => W'.cell? ⟨gt, 0, none⟩ = some (.int .i64 M.ep) ∧ W'.cell? ⟨gt, 1, none⟩ = some (.slice D1 o.n f1) ∧ W'.cell? ⟨gt, 2, none⟩ = some (.slice D2 o.n f2) ∧ W'.cell? ⟨g, 2, none⟩ = some (.slice o.A o.n o.cp) ∧ W'.cell? ⟨pr, 1, none⟩ = some (.int .i64 M.ep)) (go_keep)
            (first
              | (go_at_call 24; refine (Texts_any N1.out NI4.out (by omega)).mono ?_; rintro e w5 ⟨rfl, t5⟩; rw [decide_eq_true (show o.names = o.names from rfl)]; have u0 := t5.cell (a := ⟨gt, 0, none⟩) z0 (by simp); have u1 := t5.cell (a := ⟨gt, 1, none⟩) z1 (by simp); have u2 := t5.cell (a := ⟨gt, 2, none⟩) z2 (by simp); have u3 := t5.cell (a := ⟨g, 2, none⟩) z3 (by simp); have u4 := t5.cell (a := ⟨pr, 1, none⟩) z4 (by simp))
              | (go_at_call 25; refine (rNums_any (R4.out.kept0 t5) hlb (NI4.out.kept0 t5) (by omega)).mono ?_; rintro e w6 ⟨A6, c6, rfl, o6, t6⟩; have y0 := t6.cell u0 (by simp); have y1 := t6.cell u1 (by simp); have y2 := t6.cell u2 (by simp); have y3 := t6.cell u3 (by simp); have y4 := t6.cell u4 (by simp))
              | (go_at_call 20; refine (Ints_any ((N2.out.kept0 t5).kept0 t6) (NumsI.of_own o6) (by omega)).mono ?_; rintro e w7 ⟨rfl, t7⟩; rw [decide_eq_true (show o.names.map M.num = o.names.map (cntI bumps) by rw [Hnum.out])]; have x0 := t7.cell y0 (by simp); have x1 := t7.cell y1 (by simp); have x2 := t7.cell y2 (by simp); have x3 := t7.cell y3 (by simp); have x4 := t7.cell y4 (by simp)))
          all_goals
            have T7 : Touch [] W4 w7 := ((tdr.trans t5 (by simp)).trans t6 (by simp)).trans t7 (by simp)
            have P7 := Lib.hid (P4.out.kept T7)
            have B7 := Lib.hid (And.intro (B4.out.1.trans (T7.below0 P4.out.size)) (Nat.le_trans B4.out.2 T7.size))
            have G7 : Hid (w7.heap[g]? = some (opO o)) := Lib.hid ((T7.block g hgo (by simp)).trans G4.out)
            have O7 := Lib.hid (And.intro (own_touch' O.out.1 T7 (by simp)) (own_touch' O.out.2.1 T7 (by simp)))
            clear tdr t5 t6 t7 T7 u0 u1 u2 u3 u4 y0 y1 y2 y3 y4 x0 x3 x4 z0 z1 z2 z3 z4 NI4 N1 N2 R4 o6
            go_wp2_with fail
            have hx1 : ∀ i ∈ (Value.slice D1 o.n f1).ownBlock.toList ++ (Value.slice D2 o.n f2).ownBlock.toList, i ≠ gt ∧ i ≠ g := fun i hi => by
              rcases List.mem_append.1 hi with q | q
              · have := O.out.2.2.2.1 i (by simpa using q); exact ⟨by omega, by omega⟩
              · have := O.out.2.2.2.2 i (by simpa using q); exact ⟨by omega, by omega⟩
            have HX1 := Lib.hid hx1
            clear hx1
            go_loopw [10] (fun i wx => ∃ (k : Nat) (xs ys : List Value), k ≤ o.n ∧ i = .int .i64 k ∧ Hid (wx.ownsRow 0 9 1 (.slice D1 o.n f1) o.n xs) ∧ Hid (wx.ownsRow 0 3 1 (.slice D2 o.n f2) o.n ys) ∧ Hid (Touch ((Value.slice D1 o.n f1).ownBlock.toList ++ (Value.slice D2 o.n f2).ownBlock.toList) w7 wx)) (fun i _ => o.n - (intOf i).toNat)
            case atStart => exact ⟨0, _, _, Nat.zero_le _, rfl, Lib.hid (O7.out.1.mono (Nat.zero_le _)), Lib.hid (O7.out.2.mono (Nat.zero_le _)), Lib.hid (Touch.refl _ _)⟩
            case round =>
              obtain ⟨k, xs, ys, hk, rfl, ho1, ho2, hT⟩ := hrel
              have y1 := hT.out.cell x1 (fun hm => (HX1.out _ hm).1 rfl)
              have y2 := hT.out.cell x2 (fun hm => (HX1.out _ hm).1 rfl)
              by_cases hltk : k < o.n
              · obtain ⟨ga, ca, hva, _, _⟩ := ho1.out.form (by omega)
                obtain ⟨gb, cb, hvb, _, _⟩ := ho2.out.form (by omega)
                simp only [Value.slice.injEq, true_and] at hva hvb
                obtain ⟨rfl, rfl⟩ := hva
                obtain ⟨rfl, rfl⟩ := hvb
                have hga := (HX1.out ga (by simp [Value.ownBlock])).1
                have hgb := (HX1.out gb (by simp [Value.ownBlock])).1
                have hab : gb ≠ ga := fun e => O.out.2.2.1 gb (by simp [Value.ownBlock]) (by simp [Value.ownBlock, e])
                obtain ⟨u1, hu1⟩ : ∃ u, xs[k]? = some u := ⟨_, List.getElem?_eq_getElem (by have := ho1.out.1; omega)⟩
                obtain ⟨u2, hu2⟩ : ∃ u, ys[k]? = some u := ⟨_, List.getElem?_eq_getElem (by have := ho2.out.1; omega)⟩
                have c1 := (ho1.out.cellAt k (by omega)).trans hu1
                have c2 := (ho2.out.cellAt k (by omega)).trans hu2
                have f1 := ho1.out.frozenAt k
                have f2 := ho2.out.frozenAt k
                have hk0' : (0 : Int) ≤ k := by omega
                have hk1' : (k : Int) < (o.n : Int) := by omega
                clear hu1 hu2
                go_wp2_with fail
                have s1 := ho1.out.stored k (.string ⟨#[115, 112, 111, 105, 108, 116]⟩)
                have t1 : Touch [ga] wr (wr.setCell ⟨ga, k, none⟩ (.string ⟨#[115, 112, 111, 105, 108, 116]⟩)) := (Touch.refl _ _).setCell _ (by simp)
                have o2 := own_touch' ho2.out t1 (by simp [Value.ownBlock, hab])
                have s2 := o2.stored k (.int .i64 (-1))
                have t2 := Touch.setCell (S := [ga, gb]) (t1.mono (by simp)) (a := ⟨gb, k, none⟩) (.int .i64 (-1)) (by simp)
                have o1 := own_touch' s1.1 ((Touch.refl [gb] _).setCell (a := ⟨gb, k, none⟩) (.int .i64 (-1)) (by simp)) (by simp [Value.ownBlock, Ne.symm hab])
                go_roundw
                case rel => exact ⟨k + 1, _, _, by omega, by go_num, Lib.hid o1, Lib.hid s2.1, Lib.hid (hT.out.trans t2 (by simp [Value.ownBlock]))⟩
                case measure => simp [intOf]; omega
              · go_wp2_with fail
                go_meet
                exact ⟨pv, _, _, _, _, _, rfl, Lib.hid ((((P7.out.keptX hT.out (fun i hi => by simp only [List.mem_cons, List.mem_append]; exact .inr (.inl (by simpa using hi))))).drop (by simp)).mono (by omega)), Lib.hid ⟨B7.out.1.trans (hT.out.below (by have := P7.out.size; omega) (fun i hi => Nat.le_of_lt (Nat.lt_of_le_of_lt HGB.out ((List.mem_append.1 hi).elim (fun q => (O.out.2.2.2.1 i (by simpa using q)).2) (fun q => (O.out.2.2.2.2 i (by simpa using q)).2))))), Nat.le_trans B7.out.2 hT.out.size⟩, Lib.hid ((hT.out.block g (heap_lt G7.out) (fun hm => (HX1.out _ hm).2 rfl)).trans G7.out)⟩
        have hk4 : (o.kind == 4) = false := by simp [k4]
        clear k4
        go_wp2_with fail
        refine (CopyV P2.out.v (by omega)).mono ?_
        rintro e w3 ⟨pc, bc, rs', L, rfl, hLe, cC, cn, cd, cs, v3, t3, hLn⟩
        have B3 : Hid (Below Bz W0 w3 ∧ Bz ≤ w3.heap.size) := Lib.hid ⟨B2.out.1.trans (t3.below0 P2.out.size), Nat.le_trans B2.out.2 t3.size⟩
        have G3 : Hid (w3.heap[g]? = some (opO o)) := Lib.hid ((t3.block g (heap_lt G.out) (by simp)).trans G.out)
        obtain ⟨r0, r1, r2⟩ := opO_cells G3.out
        have NI3 := Lib.hid (Hgo.out.names.low' hB (HF.out w3 B3.out.1 B3.out.2).1 (HF.out w3 B3.out.1 B3.out.2).2)
        go_wp2_with fail
        refine (BumpV v3 NI3.out.1 (HL.out _) Hgo.out.names.good (by omega)).mono ?_
        rintro e w4 ⟨rfl, v4, k4, z4⟩
        go_wp2_with fail
        refine (AllV v4 (by omega)).mono ?_
        rintro e w5 ⟨rfl, v5, k5, z5⟩
        have k35 := k4.trans k5
        have B5 : Hid (Below Bz W0 w5 ∧ Bz ≤ w5.heap.size) := Lib.hid ⟨B3.out.1.trans k35.1, Nat.le_trans (Nat.le_trans B3.out.2 z4) z5⟩
        have G5 : Hid (w5.heap[g]? = some (opO o)) := Lib.hid ((k35.2 g (by simp)).trans G3.out)
        obtain ⟨y0, y1, y2⟩ := opO_cells G5.out
        have NI5 := Lib.hid (Hgo.out.names.low' hB (HF.out w5 B5.out.1 B5.out.2).1 (HF.out w5 B5.out.1 B5.out.2).2)
        go_wp2_with fail
        refine (DirtyV v5 o.client Hgo.out.client NI5.out.1 (HL.out _) Hgo.out.names.good (by omega)).mono ?_
        rintro e w6 ⟨rfl, v6, k6, z6⟩
        have k36 := k35.trans k6
        have hfin : Hid (Bi Bz [g] w6 pc pr M (80 * j) v1 v2 bumps marks) := Lib.hid (by
          have hr3 := P2.out.r.kept0 t3
          have hWs := P2.out.size
          refine ⟨⟨bc, rs', cC.keptK k36 (fun i hi => List.mem_append.2 (.inl (hLe ▸ hi))), cn, cd, cs, fun i hi => ⟨Nat.le_trans hWs (hLn i (hLe ▸ hi)), fun hm => ?_⟩, v6.size, fun k hk => ?_, P2.out.v.epb.1, P2.out.v.epb.2⟩, hr3.keptK k36 (fun i hi => by simp [hi]), P2.out.lo, P2.out.num, P2.out.dirty, P2.out.lenb, P2.out.lenm⟩
          · have h1 := hLn i (hLe ▸ hi)
            obtain ⟨_, _, _, _, _, _, _, _, h7, _⟩ := P2.out.v
            have := h7 i hm; omega
          · obtain ⟨_, _, _, _, _, _, _, _, h7, _⟩ := v6
            exact h7 k (List.mem_append.2 (.inr hk)))
        have F6 := Lib.hid (And.intro (And.intro (B3.out.1.trans k36.1) (Nat.le_trans B5.out.2 z6)) ((k36.2 g (by simp)).trans G3.out))
        clear cC cn cd cs v3 t3 hLn hLe v4 k4 z4 v5 k5 z5 k35 v6 k6 z6 k36 q0 q1 q2 r0 r1 r2 y0 y1 y2
        go_wp2_with fail
        go_meet
        exact ⟨pc, _, _, _, _, _, rfl, Lib.hid (hfin.out.mono (by omega)), Lib.hid F6.out.1, Lib.hid F6.out.2⟩
      case rest =>
        obtain ⟨pv, M, v1, v2, bumps, marks, rfl, P, Bb, G4⟩ := hcut
        clear P2 B2 G q0 q1 q2 NI
        obtain ⟨q0, q1, q2⟩ := opO_cells G4.out
        have e3 := H3.out wc Bb.out.1
        have s0 : wc.cell? ⟨Bw, 0, none⟩ = some (.int .i64 E) := by rw [cell_of e3]; rfl
        have s1 : wc.cell? ⟨Bw, 1, none⟩ = some (.slice A1 n1 c1) := by rw [cell_of e3]; rfl
        have s2 : wc.cell? ⟨Bw, 2, none⟩ = some (.slice A2 n2 c2) := by rw [cell_of e3]; rfl
        have hww := HF.out wc Bb.out.1 Bb.out.2
        have NI := Lib.hid (Hgo.out.names.low' hB hww.1 hww.2)
        have NN := Lib.hid (HN.out.low' hB hww.1 hww.2)
        have NM := Lib.hid (HM.out.low' hB hww.1 hww.2)
        clear hww e3
        have tdr : Touch [] wc wc.drew := (Touch.refl _ _).drew
        have Pd := Lib.hid (P.out.kept tdr)
        have NId := Lib.hid (NI.out.1.kept0 tdr)
        have NNd := Lib.hid (NN.out.1.kept0 tdr)
        have NMd := Lib.hid (NM.out.kept0 tdr)
        have hnum : M.num = cntI bumps := funext P.out.num
        obtain ⟨rb, hrb⟩ : ∃ rb, rb = rbusyB marks o.names := ⟨_, rfl⟩
        obtain ⟨fb, hfb⟩ : ∃ fb, fb = (decide (E = M.ep) && decide (names.map M.num = nums)) := ⟨_, rfl⟩
        have HRB := Lib.hid hrb
        have HFB := Lib.hid hfb
        have HFR : Hid ((decide (E = M.ep) && decide (names.map (cntI bumps) = nums)) = fb) := Lib.hid (by rw [hfb, hnum])
        have hlb : bumps.length < 1000000 := by have := P.out.lenb; omega
        have hlm : marks.length < 1000000 := by have := P.out.lenm; omega
        have x1 : (rb != rb) = false := by simp
        have x2 : (fb != fb) = false := by simp
        clear hrb hfb hnum tdr
        go_wp2_with fail
        go_region_held3 (fun W' => W'.cell? ⟨g, 2, none⟩ = some (.slice o.A o.n o.cp) ∧ W'.cell? ⟨Bw, 0, none⟩ = some (.int .i64 E) ∧ W'.cell? ⟨Bw, 1, none⟩ = some (.slice A1 n1 c1) ∧ W'.cell? ⟨Bw, 2, none⟩ = some (.slice A2 n2 c2)) (go_keep)
          (first
            | (go_at_call 18; refine (BusyV Pd.out.v NId.out Hgo.out.names.good (by omega)).mono ?_; rintro e w5 ⟨b, rfl, hbb, rfl⟩; obtain rfl : b = rb := (busy_same P.out.dirty o.names hbb).trans HRB.out.symm)
            | (go_at_call 27; refine (rBusy_any Pd.out.r hlm NId.out (by omega)).mono ?_; rintro e w5 ⟨rfl, rfl⟩; rw [← HRB.out])
            | (go_at_call 17; refine (FreshV Pd.out.v E NNd.out HN.out.good (by omega) NMd.out).mono ?_; rintro e w5 ⟨rfl, t5⟩; rw [← HFB.out]; have u0 := t5.cell (a := ⟨g, 2, none⟩) q2 (by simp); have u1 := t5.cell (a := ⟨Bw, 0, none⟩) s0 (by simp); have u2 := t5.cell (a := ⟨Bw, 1, none⟩) s1 (by simp); have u3 := t5.cell (a := ⟨Bw, 2, none⟩) s2 (by simp))
            | (go_at_call 28; refine (rFresh_any (Pd.out.r.kept0 t5) hlb E (NNd.out.kept0 t5) (by omega) (NMd.out.kept0 t5)).mono ?_; rintro e w6 ⟨rfl, t6⟩; rw [HFR.out]; have y0 := t6.cell u0 (by simp); have y1 := t6.cell u1 (by simp); have y2 := t6.cell u2 (by simp); have y3 := t6.cell u3 (by simp)))
        all_goals
          have T6 : Touch [] wc w6 := (((Touch.refl [] wc).drew).trans t5 (by simp)).trans t6 (by simp)
          have P6 := Lib.hid (P.out.kept T6)
          have B6 := Lib.hid (And.intro (Bb.out.1.trans (T6.below0 P.out.size)) (Nat.le_trans Bb.out.2 T6.size))
          have NI6 := Lib.hid (NI.out.1.kept0 T6)
          clear P Bb Pd NId NNd NMd NI NN NM t5 t6 T6 u0 u1 u2 u3 y1 y2 y3 q0 q1 q2 s0 s1 s2
          go_wp2_with fail
          go_loopw [12] (fun i wx => ∃ k : Nat, k ≤ o.n ∧ i = .int .i64 k ∧ Hid (Touch [] w6 wx)) (fun i _ => o.n - (intOf i).toNat)
          case atStart => exact ⟨0, Nat.zero_le _, rfl, Lib.hid (Touch.refl _ _)⟩
          case round =>
            obtain ⟨k, hk, rfl, hT⟩ := hrel
            have y0' := hT.out.cell y0 (by simp)
            by_cases hltk : k < o.n
            · obtain ⟨g1, o1, hoA, hadd, d0, _, hmem⟩ := NI6.out.cell hT.out (by simp) hltk
              have hgs : goodS (o.names.getD k ⟨#[]⟩) := Hgo.out.names.good _ hmem
              generalize o.names.getD k ⟨#[]⟩ = s at *
              have P7 := P6.out.kept hT.out
              have he : (M.num s != (cntB bumps s : Int)) = false := by simp [P7.num s]
              have hk0' : (0 : Int) ≤ k := by omega
              have hk1' : (k : Int) < (o.n : Int) := by omega
              clear hmem
              rw [hoA] at y0'
              go_wp2_with fail
              go_quiet (first
                | (go_at_call 19; exact quietS (NumV (P7.v.kept ((Touch.refl _ _).drewN _)) s hgs))
                | (go_at_call 29; exact quietS (rNum_any (P7.r.kept0 ((Touch.refl _ _).drewN _)) hlb s)))
              go_wp2_with fail
              go_roundw
              case rel => exact ⟨k + 1, by omega, by go_num, Lib.hid (hT.out.drewN nq)⟩
              case measure => simp [intOf]; omega
            · go_wp2_with fail
              go_roundw
              case rel => exact ⟨j + 1, pv, M, v1, v2, bumps, marks, by omega, by omega, by go_num, rfl, Lib.hid (((P6.out.kept hT.out).drop (by simp)).mono (by omega)), Lib.hid ⟨B6.out.1.trans (hT.out.below0 P6.out.size), Nat.le_trans B6.out.2 hT.out.size⟩⟩
              case measure => simp [intOf]; omega
    · have hend := HF.out wr hb.out.1 hb.out.2
      by_cases hjn : j < n
      all_goals
        go_wp2_with fail
        refine (known_any wr).mono ?_
        rintro e w9 ⟨rfl, t9⟩
        go_wp2
        go_ret
        exact ⟨rfl, by rw [hB]; exact hend.1.trans (t9.mono (by rw [hB] at hend; exact hend.2))⟩
end Go.Proofs.Ytjmgookpmngmaac
