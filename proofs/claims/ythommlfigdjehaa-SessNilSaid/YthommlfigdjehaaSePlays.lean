/- SessPlays. -/
import Derived.Test.YthommlfigdjehaaSe9
import Derived.Deep.DeepCutAuto
import Derived.Deep.CutBlock
namespace Go.Proofs.Ythommlfigdjehaa
open Go Go.RowKit Go.Maps Go.WideShapes

theorem quietS {P : Program} {f : FuncId} {args : Array Value} {w : World} {n : Nat} {v : Value} (h : Calls P f args (w.drewN n) fun e w' => e = .returned v ∧ w.drewN n = w') : Calls P f args (w.drewN n) fun e w'' => e = .returned v ∧ ∃ m, w'' = w.drewN m :=
  Calls.quiet_of_same (h.mono fun _ _ hh => ⟨hh.1, hh.2.symm⟩)
theorem Touch.below0 {w w' : World} (h : Touch [] w w') {B : Nat} (hB : B ≤ w.heap.size) : Below B w w' := h.below hB (by simp)
def opO (o : OpS) : Obj := .cells #[.int .i64 o.kind, .int .u8 o.a.kind, .string o.a.name, .string o.a.portal, .string o.a.sql, .slice o.a.kA o.a.kn o.a.kc, .slice o.a.vA o.a.vn o.a.vc, .slice o.a.aA o.a.an o.a.ac, .slice o.a.nA o.a.nn o.a.nc, .slice o.a.fA o.a.fn o.a.fc, .int .i64 o.a.most, .int .u8 o.a.what, .bool o.a.cancel, .int .i64 o.a.pid, .int .i64 o.a.secret, .bool o.good] 32
theorem op_cells {w : World} {g b : Nat} {o : OpS} (hc : ∀ (i : Nat) (v : Value), (opC o)[i]? = some v → w.cell? ⟨g, b + i, none⟩ = some v) :
    w.cell? ⟨g, b, none⟩ = some (.int .i64 o.kind) ∧ w.cell? ⟨g, b + 1, none⟩ = some (.int .u8 o.a.kind) ∧ w.cell? ⟨g, b + 2, none⟩ = some (.string o.a.name) ∧ w.cell? ⟨g, b + 3, none⟩ = some (.string o.a.portal) ∧ w.cell? ⟨g, b + 4, none⟩ = some (.string o.a.sql) ∧ w.cell? ⟨g, b + 5, none⟩ = some (.slice o.a.kA o.a.kn o.a.kc) ∧ w.cell? ⟨g, b + 6, none⟩ = some (.slice o.a.vA o.a.vn o.a.vc) ∧ w.cell? ⟨g, b + 7, none⟩ = some (.slice o.a.aA o.a.an o.a.ac) ∧ w.cell? ⟨g, b + 8, none⟩ = some (.slice o.a.nA o.a.nn o.a.nc) ∧ w.cell? ⟨g, b + 9, none⟩ = some (.slice o.a.fA o.a.fn o.a.fc) ∧ w.cell? ⟨g, b + 10, none⟩ = some (.int .i64 o.a.most) ∧ w.cell? ⟨g, b + 11, none⟩ = some (.int .u8 o.a.what) ∧ w.cell? ⟨g, b + 12, none⟩ = some (.bool o.a.cancel) ∧ w.cell? ⟨g, b + 13, none⟩ = some (.int .i64 o.a.pid) ∧ w.cell? ⟨g, b + 14, none⟩ = some (.int .i64 o.a.secret) ∧ w.cell? ⟨g, b + 15, none⟩ = some (.bool o.good) := by
  exact ⟨by simpa using hc 0 _ rfl, hc 1 _ rfl, hc 2 _ rfl, hc 3 _ rfl, hc 4 _ rfl, hc 5 _ rfl, hc 6 _ rfl, hc 7 _ rfl, hc 8 _ rfl, hc 9 _ rfl, hc 10 _ rfl, hc 11 _ rfl, hc 12 _ rfl, hc 13 _ rfl, hc 14 _ rfl, hc 15 _ rfl⟩
theorem box_cells {w : World} {g : Nat} {o : OpS} (h : w.heap[g]? = some (opO o)) :
    w.cell? ⟨g, 0, none⟩ = some (.int .i64 o.kind) ∧ w.cell? ⟨g, 1, none⟩ = some (.int .u8 o.a.kind) ∧ w.cell? ⟨g, 2, none⟩ = some (.string o.a.name) ∧ w.cell? ⟨g, 3, none⟩ = some (.string o.a.portal) ∧ w.cell? ⟨g, 4, none⟩ = some (.string o.a.sql) ∧ w.cell? ⟨g, 5, none⟩ = some (.slice o.a.kA o.a.kn o.a.kc) ∧ w.cell? ⟨g, 6, none⟩ = some (.slice o.a.vA o.a.vn o.a.vc) ∧ w.cell? ⟨g, 7, none⟩ = some (.slice o.a.aA o.a.an o.a.ac) ∧ w.cell? ⟨g, 8, none⟩ = some (.slice o.a.nA o.a.nn o.a.nc) ∧ w.cell? ⟨g, 9, none⟩ = some (.slice o.a.fA o.a.fn o.a.fc) ∧ w.cell? ⟨g, 10, none⟩ = some (.int .i64 o.a.most) ∧ w.cell? ⟨g, 11, none⟩ = some (.int .u8 o.a.what) ∧ w.cell? ⟨g, 12, none⟩ = some (.bool o.a.cancel) ∧ w.cell? ⟨g, 13, none⟩ = some (.int .i64 o.a.pid) ∧ w.cell? ⟨g, 14, none⟩ = some (.int .i64 o.a.secret) ∧ w.cell? ⟨g, 15, none⟩ = some (.bool o.good) := by
  unfold opO at h
  refine ⟨?_, ?_, ?_, ?_, ?_, ?_, ?_, ?_, ?_, ?_, ?_, ?_, ?_, ?_, ?_, ?_⟩
  all_goals (rw [cell_of h]; rfl)

/-- The two sessions, side by side. -/
structure Both (W0 w : World) (ps pr : Nat) (ph : Int) (u d : ByteArray) : Prop where
  s : SS w ps ph u d
  r : RS w pr (ph - 1) u d
  hp : 1 ≤ ph ∧ ph ≤ 7
  lo : W0.heap.size ≤ ps ∧ W0.heap.size ≤ pr
  bel : Below W0.heap.size W0 w
section
variable {W0 w w' w'' : World} {ps pr : Nat} {ph ph' : Int} {u d u' d' : ByteArray}
theorem SS.ne (h : SS w ps ph u d) (k : RS w pr ph' u' d') : ps ≠ pr := by
  intro e
  subst e
  unfold SS at h
  unfold RS at k
  rw [h] at k
  simp at k
theorem Both.kept (h : Both W0 w ps pr ph u d) (t : Touch [] w w') : Both W0 w' ps pr ph u d :=
  ⟨h.s.kept t (by simp), h.r.kept t (by simp), h.hp, h.lo, h.bel.trans (t.below0 h.bel.size)⟩
theorem Both.half (h : Both W0 w ps pr ph u d) (t : Touch [ps] w w') : RS w' pr (ph - 1) u d := h.r.kept t (by simpa using (h.s.ne h.r).symm)
theorem Both.step (h : Both W0 w ps pr ph u d) (s' : SS w' ps ph' u' d') (t : Touch [ps] w w') (r' : RS w'' pr (ph' - 1) u' d') (t' : Touch [pr] w' w'') (hp' : 1 ≤ ph' ∧ ph' ≤ 7) : Both W0 w'' ps pr ph' u' d' :=
  ⟨s'.kept t' (by simpa using h.s.ne h.r), r', hp', h.lo, (h.bel.trans (t.below h.bel.size (by simpa using h.lo.1))).trans (t'.below (Nat.le_trans h.bel.size t.size) (by simpa using h.lo.2))⟩
theorem acceptF_ph (h : 1 ≤ ph ∧ ph ≤ 7) (ok : Bool) : 1 ≤ (acceptF ph ok).2 ∧ (acceptF ph ok).2 ≤ 7 := by
  unfold acceptF; split
  · cases ok <;> simp
  · simpa using h
theorem doneF_ph (h : 1 ≤ ph ∧ ph ≤ 7) : 1 ≤ (doneF ph).2 ∧ (doneF ph).2 ≤ 7 := by unfold doneF; split <;> simp [h]
theorem failF_ph (h : 1 ≤ ph ∧ ph ≤ 7) : 1 ≤ (failF ph).2 ∧ (failF ph).2 ≤ 7 := by unfold failF; split; simp; split <;> simp [h]
end

set_option maxRecDepth 8000 in
set_option maxHeartbeats 8000000 in
theorem SessPlays_walk (w : World) (A : Option Addr) (n cp : Nat) (os : List OpS) (hA : RowG opC 16 w A n os) (hg : ∀ o ∈ os, GoodA w o.a) (hnn : n ≤ maxLen) :
    Calls Try.prog 5 #[.slice A n cp] w fun e w' => e = .returned (.bool true) ∧ Below w.heap.size w w' := by
  have HA := Lib.hid hA; have HG := Lib.hid hg
  have hn := hnn
  unfold maxLen at hn
  clear hA hg hnn
  go_enter Try.func5, Try.ntmps5
  go_wp2_with fail
  refine (New_any w).mono ?_
  rintro e w1 ⟨rfl, h1, t1⟩
  obtain ⟨ps, hps⟩ : ∃ p, w.heap.size = p := ⟨_, rfl⟩
  rw [hps] at h1
  rw [hps]
  have tb : Touch [] w1 (w1.alloc (.cells #[.int .i64 0, .string ⟨#[]⟩, .string ⟨#[]⟩] 46)) := (Touch.refl _ _).alloc _
  have HB : Hid (Both w (w1.alloc (.cells #[.int .i64 0, .string ⟨#[]⟩, .string ⟨#[]⟩] 46)) ps w1.heap.size 1 ⟨#[]⟩ ⟨#[]⟩) := Lib.hid ⟨h1.kept tb (by simp), heap_alloc_new w1 _, by decide, ⟨by omega, t1.size⟩, (t1.trans tb (by simp)).below0 (Nat.le_refl _)⟩
  clear h1 t1 tb hps
  go_upto_block 0 with fail
  generalize w1.alloc (.cells #[.int .i64 0, .string ⟨#[]⟩, .string ⟨#[]⟩] 46) = W1 at *
  generalize w1.heap.size = pr at *
  go_wp2_with fail
  go_loopw [3, 5] (fun s i wr => ∃ (j ps : Nat) (ph : Int) (u d : ByteArray), j ≤ n ∧ i = .int .i64 j ∧ s = .pointer (some ⟨ps, 0, none⟩) ∧ Hid (Both w wr ps pr ph u d)) (fun _ i _ => n - (intOf i).toNat)
  case atStart => exact ⟨0, ps, _, _, _, Nat.zero_le _, rfl, rfl, HB⟩
  clear HB
  case round =>
    obtain ⟨j, ps, ph, u, d, hj, rfl, rfl, hb⟩ := hrel
    by_cases hlt : j < n ∧ j < 60
    · obtain ⟨hlt, hl6⟩ := hlt
      obtain ⟨g, b, o, hAA, hgl, hoj, hom, _, hc⟩ := (HA.out.below hb.out.bel).at hlt
      subst hAA
      obtain ⟨y0, y1, y2, y3, y4, y5, y6, y7, y8, y9, y10, y11, y12, y13, y14, y15⟩ := op_cells (b := b + j * 16) hc
      have GA := Lib.hid (HG.out o hom)
      clear hc hom hoj hgl
      have hi0 : (0 : Int) ≤ j := by omega
      have hi1 : (j : Int) < (n : Int) := by omega
      have hi2 : (j : Int) < 60 := by omega
      have ta : Touch [] wr (wr.alloc (opO o)) := (Touch.refl _ _).alloc _
      have B2 := Lib.hid (hb.out.kept ta)
      have G2 := Lib.hid (heap_alloc_new wr (opO o))
      clear ta
      unfold opO at B2 G2
      go_upto_region 9 with fail
      have HPG := Lib.hid (And.intro (heap_lt hb.out.s) (heap_lt hb.out.r))
      clear y0 y1 y2 y3 y4 y5 y6 y7 y8 y9 y10 y11 y12 y13 y14 y15 hb hi0 hi1
      generalize wr.alloc (.cells #[.int .i64 o.kind, .int .u8 o.a.kind, .string o.a.name, .string o.a.portal, .string o.a.sql, .slice o.a.kA o.a.kn o.a.kc, .slice o.a.vA o.a.vn o.a.vc, .slice o.a.aA o.a.an o.a.ac, .slice o.a.nA o.a.nn o.a.nc, .slice o.a.fA o.a.fn o.a.fc, .int .i64 o.a.most, .int .u8 o.a.what, .bool o.a.cancel, .int .i64 o.a.pid, .int .i64 o.a.secret, .bool o.good] 32) = W at *
      generalize wr.heap.size = g6 at *
      have G : Hid (W.heap[g6]? = some (opO o)) := Lib.hid G2.out
      clear G2
      have GW := Lib.hid (GA.out.below B2.out.bel)
      obtain ⟨y0, y1, y2, y3, y4, y5, y6, y7, y8, y9, y10, y11, y12, y13, y14, y15⟩ := box_cells G.out
      go_wp2_with fail
      refine (light_any GW.out.few).mono ?_
      rintro e w2 ⟨rfl, t2⟩
      have B3 := Lib.hid (B2.out.kept t2)
      have G3 : Hid (w2.heap[g6]? = some (opO o)) := Lib.hid ((t2.block g6 (heap_lt G.out) (by simp)).trans G.out)
      have GW3 := Lib.hid (GW.out.kept0 t2)
      clear y0 y1 y2 y3 y4 y5 y6 y7 y8 y9 y10 y11 y12 y13 y14 y15 B2 G GW t2
      generalize (decide (o.a.kn ≤ 30) && decide (o.a.vn ≤ 30)) = lb at *
      cases lb with
      | false =>
        go_wp2_with fail
        go_roundw
        case rel => exact ⟨j + 1, ps, ph, u, d, by omega, by go_num, rfl, B3⟩
        case measure => simp [intOf]; omega
      | true =>
      obtain ⟨y0, y1, y2, y3, y4, y5, y6, y7, y8, y9, y10, y11, y12, y13, y14, y15⟩ := box_cells G3.out
      go_upto_block 2 with fail
      go_cut [3] (fun s wx => ∃ (ps : Nat) (ph : Int) (u d : ByteArray), s = .pointer (some ⟨ps, 0, none⟩) ∧ Hid (Both w wx ps pr ph u d))
      case first =>
        by_cases k0 : o.kind = 0
        · have hk0 : (o.kind == 0) = true := by simp [k0]
          clear k0
          obtain ⟨sn, se, ph', u', d', hst⟩ : ∃ n e ph' u' d', stepF ph u d o.a.kind o.a.cancel o.a.keys o.a.vals = (n, e, ph', u', d') := ⟨_, _, _, _, _, rfl⟩
          have HST := Lib.hid hst
          clear hst
          go_wp2_with fail
          refine (Step_any B3.out.s B3.out.hp GW3.out HST.out).mono ?_
          rintro e w4 ⟨rfl, s4, t4⟩
          have r4 := B3.out.half t4
          have hne : g6 ≠ ps := by have := HPG.out; omega
          have G4 := (t4.block g6 (heap_lt G3.out) (by simpa using hne)).trans G3.out
          have GW4 := Lib.hid (GA.out.below (B3.out.bel.trans (t4.below B3.out.bel.size (by simpa using B3.out.lo.1))))
          have S4 := Lib.hid (And.intro s4 (And.intro t4 r4))
          clear s4 t4 r4 y0 y1 y2 y3 y4 y5 y6 y7 y8 y9 y10 y11 y12 y13 y14 y15 hne
          obtain ⟨y0, y1, y2, y3, y4, y5, y6, y7, y8, y9, y10, y11, y12, y13, y14, y15⟩ := box_cells G4
          clear G4
          go_wp2_with fail
          refine (rStep_any S4.out.2.2 B3.out.hp GW4.out (GA.out.far B3.out.lo.2) HST.out).mono ?_
          rintro e w5 ⟨rfl, r5, t5⟩
          have B5 := Lib.hid (B3.out.step S4.out.1 S4.out.2.1 r5 t5 (by have := stepF_phase HST.out B3.out.hp; omega))
          have x1 : (sn != sn) = false := by simp
          have x2 : (se != se) = false := by simp
          clear r5 t5 S4 y0 y1 y2 y3 y4 y5 y6 y7 y8 y9 y10 y11 y12 y13 y14 y15
          go_wp2_with fail
          go_meet
          exact ⟨ps, _, _, _, rfl, B5⟩
        have hk0 : (o.kind == 0) = false := by simp [k0]
        clear k0
        by_cases k1 : o.kind = 1
        · have hk1 : (o.kind == 1) = true := by simp [k1]
          clear k1
          have x1 : ((acceptF ph o.good).1 != (acceptF ph o.good).1) = false := by simp
          have hq := acceptF_ph B3.out.hp o.good
          have Hq := Lib.hid hq
          clear hq y1 y2 y3 y4 y5 y6 y7 y8 y9 y10 y11 y12 y13 y14
          have tdr : Touch [] w2 w2.drew := (Touch.refl _ _).drew
          have Bd := Lib.hid (B3.out.kept tdr)
          have HN6 : Hid (g6 ≠ ps) := Lib.hid (by have := HPG.out; omega)
          clear tdr
          go_wp2_with fail
          go_region_held3 (fun W' => W'.cell? ⟨g6, 15, none⟩ = some (.bool o.good)) (go_keep)
            (first
              | (go_at_call 13; refine (Accept_any Bd.out.s (by have := Bd.out.hp; omega) o.good).mono ?_; rintro e w5 ⟨rfl, s5, t5⟩; have u0 := t5.cell (a := ⟨g6, 15, none⟩) y15 (by simpa using HN6.out))
              | (go_at_call 19; refine (rAccept_any (Bd.out.half t5) Bd.out.hp o.good).mono ?_; rintro e w6 ⟨rfl, r6, t6⟩; have v0 := t6.cell (a := ⟨g6, 15, none⟩) u0 (by have := HPG.out; simp; omega)))
          all_goals
            have B6 := Lib.hid (Bd.out.step s5 t5 r6 t6 Hq.out)
            clear s5 t5 r6 t6 u0 v0 y15
            go_wp2_with fail
            go_meet
            exact ⟨ps, _, _, _, rfl, B6⟩
        have hk1 : (o.kind == 1) = false := by simp [k1]
        clear k1
        by_cases k2 : o.kind = 2
        · have hk2 : (o.kind == 2) = true := by simp [k2]
          clear k2
          have x1 : ((doneF ph).1 != (doneF ph).1) = false := by simp
          have Hq := Lib.hid (doneF_ph B3.out.hp)
          go_wp2_with fail
          refine (Done_any B3.out.s (by have := B3.out.hp; omega)).mono ?_
          rintro e w5 ⟨rfl, s5, t5⟩
          have S5 := Lib.hid (And.intro s5 t5)
          clear s5 t5
          go_wp2_with fail
          refine (rDone_any (B3.out.half S5.out.2) B3.out.hp).mono ?_
          rintro e w6 ⟨rfl, r6, t6⟩
          have B6 := Lib.hid (B3.out.step S5.out.1 S5.out.2 r6 t6 Hq.out)
          clear r6 t6 S5 y0 y1 y2 y3 y4 y5 y6 y7 y8 y9 y10 y11 y12 y13 y14 y15
          go_wp2_with fail
          go_meet
          exact ⟨ps, _, _, _, rfl, B6⟩
        have hk2 : (o.kind == 2) = false := by simp [k2]
        clear k2
        by_cases k3 : o.kind = 3
        · have hk3 : (o.kind == 3) = true := by simp [k3]
          clear k3
          have x1 : ((failF ph).1 != (failF ph).1) = false := by simp
          have Hq := Lib.hid (failF_ph B3.out.hp)
          go_wp2_with fail
          refine (Fail_any B3.out.s (by have := B3.out.hp; omega)).mono ?_
          rintro e w5 ⟨rfl, s5, t5⟩
          have S5 := Lib.hid (And.intro s5 t5)
          clear s5 t5
          go_wp2_with fail
          refine (rFail_any (B3.out.half S5.out.2) B3.out.hp).mono ?_
          rintro e w6 ⟨rfl, r6, t6⟩
          have B6 := Lib.hid (B3.out.step S5.out.1 S5.out.2 r6 t6 Hq.out)
          clear r6 t6 S5 y0 y1 y2 y3 y4 y5 y6 y7 y8 y9 y10 y11 y12 y13 y14 y15
          go_wp2_with fail
          go_meet
          exact ⟨ps, _, _, _, rfl, B6⟩
        have hk3 : (o.kind == 3) = false := by simp [k3]
        clear k3
        go_wp2_with fail
        refine (Copy_any B3.out.s (by have := B3.out.hp; omega)).mono ?_
        rintro e w5 ⟨rfl, s5, t5⟩
        have G5 := (t5.block g6 (heap_lt G3.out) (by simp)).trans G3.out
        have B5 := Lib.hid (B3.out.kept t5)
        obtain ⟨pc, hpc⟩ : ∃ p, w2.heap.size = p := ⟨_, rfl⟩
        rw [hpc] at s5
        rw [hpc]
        have HPC : Hid (ps < pc ∧ w.heap.size ≤ pc ∧ pc < w5.heap.size) := Lib.hid ⟨by rw [← hpc]; exact heap_lt B3.out.s, by rw [← hpc]; exact B3.out.bel.size, heap_lt s5⟩
        have S5 := Lib.hid s5
        clear s5 t5 hpc y0 y1 y2 y3 y4 y5 y6 y7 y8 y9 y10 y11 y12 y13 y14 y15
        obtain ⟨y0, y1, y2, y3, y4, y5, y6, y7, y8, y9, y10, y11, y12, y13, y14, y15⟩ := box_cells G5
        clear G5
        have GW5 := Lib.hid (GA.out.below B5.out.bel)
        obtain ⟨sn, se, ph', u', d', hst⟩ : ∃ n e ph' u' d', stepF ph u d o.a.kind o.a.cancel o.a.keys o.a.vals = (n, e, ph', u', d') := ⟨_, _, _, _, _, rfl⟩
        have HST := Lib.hid hst
        clear hst
        go_wp2_with fail
        refine (Step_any B5.out.s B5.out.hp GW5.out HST.out).mono ?_
        rintro e w6 ⟨rfl, s6, t6⟩
        have hph := stepF_phase HST.out B5.out.hp
        have S6 := Lib.hid (And.intro s6 (And.intro t6 hph))
        clear s6 t6 hph y0 y1 y2 y3 y4 y5 y6 y7 y8 y9 y10 y11 y12 y13 y14 y15
        go_wp2_with fail
        refine (Step_k (n := (stepK ph' 122).1) (er := (stepK ph' 122).2.1) (ph' := (stepK ph' 122).2.2) S6.out.1 S6.out.2.2 122 (by decide) rfl).mono ?_
        rintro e w7 ⟨rfl, _, t7⟩
        have hne : pc ≠ ps := by have := HPC.out; omega
        have B7 : Hid (Both w w7 pc pr ph u d) := Lib.hid ⟨(S5.out.kept S6.out.2.1 (by simpa using hne)).kept t7 (by simpa using hne), ((B5.out.half S6.out.2.1)).kept t7 (by simpa using (B5.out.s.ne B5.out.r).symm), B5.out.hp, ⟨HPC.out.2.1, B5.out.lo.2⟩, (B5.out.bel.trans (S6.out.2.1.below B5.out.bel.size (by simpa using B5.out.lo.1))).trans (t7.below (Nat.le_trans B5.out.bel.size S6.out.2.1.size) (by simpa using B5.out.lo.1))⟩
        clear t7 S6 S5 hne
        go_wp2_with fail
        go_meet
        exact ⟨pc, _, _, _, rfl, B7⟩
      case rest =>
        obtain ⟨ps, ph, u, d, rfl, P⟩ := hcut
        clear B3 G3 GW3 y0 y1 y2 y3 y4 y5 y6 y7 y8 y9 y10 y11 y12 y13 y14 y15
        have r0 := P.out.r.c0
        have r1 := P.out.r.c1
        have r2 := P.out.r.c2
        have x1 : (ph - 1 != ph - 1) = false := by simp
        go_wp2_with fail
        go_quiet (first
          | (go_at_call 15; exact quietS (Phase_any (P.out.s.kept ((Touch.refl [] _).drewN _) (by simp)) P.out.hp))
          | (go_at_call 10; exact quietS (User_any (P.out.s.kept ((Touch.refl [] _).drewN _) (by simp)) (by have := P.out.hp; omega)))
          | (go_at_call 11; exact quietS (Db_any (P.out.s.kept ((Touch.refl [] _).drewN _) (by simp)) (by have := P.out.hp; omega))))
        have P2 := Lib.hid (P.out.kept ((Touch.refl [] _).drewN nq))
        clear r0 r1 r2
        go_wp2_with fail
        go_roundw
        case rel => exact ⟨j + 1, ps, ph, u, d, by omega, by go_num, rfl, P2⟩
        case measure => simp [intOf]; omega
    · by_cases hjn : j < n
      all_goals
        go_wp2_with fail
        refine (known_any wr).mono ?_
        rintro e w9 ⟨rfl, t9⟩
        have HF := Lib.hid (hb.out.bel.trans (t9.below0 hb.out.bel.size))
        clear t9
        go_wp2
        go_ret
        exact ⟨rfl, HF.out⟩
end Go.Proofs.Ythommlfigdjehaa
