/- SessOver. -/
import Derived.Test.YthommlfigdjehaaSePlays
namespace Go.Proofs.Ythommlfigdjehaa
open Go Go.RowKit Go.Maps Go.WideShapes

/-- One session, beside what was there. -/
structure One (W0 w : World) (ps : Nat) (ph : Int) : Prop where
  s : SS w ps ph uB uB
  hp : 2 ≤ ph ∧ ph ≤ 7
  lo : W0.heap.size ≤ ps
  bel : Below W0.heap.size W0 w
section
variable {W0 w w' : World} {ps : Nat} {ph ph' : Int}
theorem One.kept (h : One W0 w ps ph) (t : Touch [] w w') : One W0 w' ps ph := ⟨h.s.kept t (by simp), h.hp, h.lo, h.bel.trans (t.below0 h.bel.size)⟩
theorem One.step (h : One W0 w ps ph) (s : SS w' ps ph' uB uB) (t : Touch [ps] w w') (hp : 2 ≤ ph' ∧ ph' ≤ 7) : One W0 w' ps ph' :=
  ⟨s, hp, h.lo, h.bel.trans (t.below h.bel.size (by simpa using h.lo))⟩
end

theorem stepK_X {ph : Int} (h : 2 ≤ ph ∧ ph ≤ 7) : (stepK ph 88).2.2 = 7 := by
  have : ph = 2 ∨ ph = 3 ∨ ph = 4 ∨ ph = 5 ∨ ph = 6 ∨ ph = 7 := by omega
  rcases this with rfl | rfl | rfl | rfl | rfl | rfl <;> decide
set_option maxRecDepth 8000 in
set_option maxHeartbeats 8000000 in
theorem SessOver_walk (w : World) (A : Option Addr) (n cp : Nat) (os : List OpS) (hA : RowG opC 16 w A n os) (hg : ∀ o ∈ os, GoodA w o.a) (hnn : n ≤ maxLen)
    (A' : Option Addr) (n' cp' : Nat) (os' : List OpS) (hA' : RowG opC 16 w A' n' os') (hg' : ∀ o ∈ os', GoodA w o.a) (hnn' : n' ≤ maxLen) :
    Calls Try.prog 3 #[.slice A n cp, .slice A' n' cp'] w fun e w' => e = .returned (.bool true) ∧ Below w.heap.size w w' := by
  have HA := Lib.hid hA; have HG := Lib.hid hg
  have HA' := Lib.hid hA'; have HG' := Lib.hid hg'
  have hn := hnn
  have hn' := hnn'
  unfold maxLen at hn hn'
  have hu1 : uB.toList = [117] := by rw [ByteArray.toList_eq]; rfl
  clear hA hg hnn hA' hg' hnn'
  go_enter Try.func3, Try.ntmps3
  go_wp2_with fail
  refine (ready_any w).mono ?_
  rintro e w1 ⟨rfl, h1, t1⟩
  have O1 : Hid (One w w1 w.heap.size 3) := Lib.hid ⟨h1, by decide, Nat.le_refl _, t1.below0 (Nat.le_refl _)⟩
  clear h1 t1
  obtain ⟨ps, hps⟩ : ∃ p, w.heap.size = p := ⟨_, rfl⟩
  have HPS := Lib.hid hps
  have O2 : Hid (One w w1 ps 3) := Lib.hid (by rw [← hps]; exact O1.out)
  rw [hps]
  clear O1 hps
  go_wp2_with fail
  go_loopw [6] (fun i wr => ∃ (j : Nat) (ph : Int), j ≤ n ∧ i = .int .i64 j ∧ Hid (One w wr ps ph)) (fun i _ => n - (intOf i).toNat)
  case atStart => exact ⟨0, 3, Nat.zero_le _, rfl, O2⟩
  clear O2
  case round =>
    obtain ⟨j, ph, hj, rfl, hb⟩ := hrel
    by_cases hlt : j < n ∧ j < 30
    · obtain ⟨hlt, hl6⟩ := hlt
      obtain ⟨g, b, o, hAA, hgl, hoj, hom, _, hc⟩ := (HA.out.below hb.out.bel).at hlt
      subst hAA
      obtain ⟨y0, y1, y2, y3, y4, y5, y6, y7, y8, y9, y10, y11, y12, y13, y14, y15⟩ := op_cells (b := b + j * 16) hc
      have GA := Lib.hid (HG.out o hom)
      have GW := Lib.hid (GA.out.below hb.out.bel)
      have HC := Lib.hid hc
      clear hc hom hoj
      have hi0 : (0 : Int) ≤ j := by omega
      have hi1 : (j : Int) < (n : Int) := by omega
      have hi2 : (j : Int) < 30 := by omega
      go_wp2_with fail
      refine (light_any GW.out.few).mono ?_
      rintro e w2 ⟨rfl, t2⟩
      have B3 := Lib.hid (hb.out.kept t2)
      have GW3 := Lib.hid (GW.out.kept0 t2)
      have HC3 : Hid (∀ (i : Nat) (v : Value), (opC o)[i]? = some v → w2.cell? ⟨g, b + j * 16 + i, none⟩ = some v) := Lib.hid fun i v hv => t2.cell (HC.out i v hv) (by simp)
      clear y0 y1 y2 y3 y4 y5 y6 y7 y8 y9 y10 y11 y12 y13 y14 y15 t2 HC hgl GW
      generalize (decide (o.a.kn ≤ 30) && decide (o.a.vn ≤ 30)) = lb at *
      obtain ⟨y0, y1, y2, y3, y4, y5, y6, y7, y8, y9, y10, y11, y12, y13, y14, y15⟩ := op_cells (b := b + j * 16) HC3.out
      by_cases hcond : lb = true ∧ o.kind = 0
      · obtain ⟨rfl, k0⟩ := hcond
        have hk0 : (o.kind == 0) = true := by simp [k0]
        clear k0
        obtain ⟨sn, se, ph', hst⟩ : ∃ n e ph', stepK ph o.a.kind = (n, e, ph') := ⟨_, _, _, rfl⟩
        have HST := Lib.hid hst
        clear hst
        go_wp2_with fail
        refine (Step_later B3.out.s B3.out.hp GW3.out HST.out).mono ?_
        rintro e w4 ⟨rfl, s4, t4⟩
        have B4 := Lib.hid (B3.out.step s4 t4 (by have := stepK_phase ph o.a.kind B3.out.hp; rw [HST.out] at this; exact this))
        clear s4 t4 y0 y1 y2 y3 y4 y5 y6 y7 y8 y9 y10 y11 y12 y13 y14 y15
        go_wp2_with fail
        refine (User_any B4.out.s (by have := B4.out.hp; omega)).mono ?_
        rintro e w5 ⟨rfl, rfl⟩
        go_wp2_with fail
        refine (Db_any B4.out.s (by have := B4.out.hp; omega)).mono ?_
        rintro e w5 ⟨rfl, rfl⟩
        go_wp2_with fail
        go_roundw
        case rel => exact ⟨j + 1, _, by omega, by go_num, B4⟩
        case measure => simp [intOf]; omega
      · cases lb with
        | false =>
          clear hcond
          go_wp2_with fail
          refine (User_any B3.out.s (by have := B3.out.hp; omega)).mono ?_
          rintro e w5 ⟨rfl, rfl⟩
          go_wp2_with fail
          refine (Db_any B3.out.s (by have := B3.out.hp; omega)).mono ?_
          rintro e w5 ⟨rfl, rfl⟩
          go_wp2_with fail
          go_roundw
          case rel => exact ⟨j + 1, _, by omega, by go_num, B3⟩
          case measure => simp [intOf]; omega
        | true =>
          have hk0 : (o.kind == 0) = false := by simp; exact fun h => hcond ⟨rfl, h⟩
          clear hcond
          go_wp2_with fail
          refine (User_any B3.out.s (by have := B3.out.hp; omega)).mono ?_
          rintro e w5 ⟨rfl, rfl⟩
          go_wp2_with fail
          refine (Db_any B3.out.s (by have := B3.out.hp; omega)).mono ?_
          rintro e w5 ⟨rfl, rfl⟩
          go_wp2_with fail
          go_roundw
          case rel => exact ⟨j + 1, _, by omega, by go_num, B3⟩
          case measure => simp [intOf]; omega
    · have hend : ∀ (x : Nat), x ≤ x := fun x => Nat.le_refl x
      clear hend
      by_cases hjn : j < n
      all_goals
        go_wp2_with fail
        refine (Done_any hb.out.s (by have := hb.out.hp; omega)).mono ?_
        rintro e w3 ⟨rfl, s3, t3⟩
        have B3 := Lib.hid (hb.out.step s3 t3 (by have := hb.out.hp; unfold doneF; split <;> simp <;> omega))
        clear s3 t3 hb
        go_wp2_with fail
        refine (Step_k (n := (stepK (doneF ph).2 88).1) (er := (stepK (doneF ph).2 88).2.1) (ph' := 7) B3.out.s B3.out.hp 88 (by decide) (Prod.ext rfl (Prod.ext rfl (stepK_X B3.out.hp)))).mono ?_
        rintro e w4 ⟨rfl, s4, t4⟩
        have B4 := Lib.hid (B3.out.step s4 t4 (by decide))
        clear s4 t4 B3
        go_wp2_with fail
        go_loopw [7] (fun i wr => ∃ (j : Nat), j ≤ n' ∧ i = .int .i64 j ∧ Hid (One w wr ps 7)) (fun i _ => n' - (intOf i).toNat)
        case atStart => exact ⟨0, Nat.zero_le _, rfl, B4⟩
        clear B4
        case round =>
          obtain ⟨j, hj, rfl, hb⟩ := hrel
          by_cases hlt : j < n' ∧ j < 30
          · obtain ⟨hlt, hl6⟩ := hlt
            obtain ⟨g, b, o, hAA, hgl, hoj, hom, _, hc⟩ := (HA'.out.below hb.out.bel).at hlt
            subst hAA
            obtain ⟨y0, y1, y2, y3, y4, y5, y6, y7, y8, y9, y10, y11, y12, y13, y14, y15⟩ := op_cells (b := b + j * 16) hc
            have GA := Lib.hid (HG'.out o hom)
            have GW := Lib.hid (GA.out.below hb.out.bel)
            have HC := Lib.hid hc
            clear hc hom hoj
            have hi0 : (0 : Int) ≤ j := by omega
            have hi1 : (j : Int) < (n' : Int) := by omega
            have hi2 : (j : Int) < 30 := by omega
            go_wp2_with fail
            refine (light_any GW.out.few).mono ?_
            rintro e w2 ⟨rfl, t2⟩
            have B3 := Lib.hid (hb.out.kept t2)
            have GW3 := Lib.hid (GW.out.kept0 t2)
            have HC3 : Hid (∀ (i : Nat) (v : Value), (opC o)[i]? = some v → w2.cell? ⟨g, b + j * 16 + i, none⟩ = some v) := Lib.hid fun i v hv => t2.cell (HC.out i v hv) (by simp)
            clear y0 y1 y2 y3 y4 y5 y6 y7 y8 y9 y10 y11 y12 y13 y14 y15 t2 HC hgl GW
            generalize (decide (o.a.kn ≤ 30) && decide (o.a.vn ≤ 30)) = lb at *
            cases lb with
            | false =>
              go_wp2_with fail
              go_roundw
              case rel => exact ⟨j + 1, by omega, by go_num, B3⟩
              case measure => simp [intOf]; omega
            | true =>
            obtain ⟨y0, y1, y2, y3, y4, y5, y6, y7, y8, y9, y10, y11, y12, y13, y14, y15⟩ := op_cells (b := b + j * 16) HC3.out
            go_wp2_with fail
            refine (Step_later B3.out.s B3.out.hp GW3.out (n := 0) (er := 10) (ph' := 7) (by simp [stepK])).mono ?_
            rintro e w4 ⟨rfl, s4, t4⟩
            have B4 := Lib.hid (B3.out.step s4 t4 (by decide))
            clear s4 t4 y0 y1 y2 y3 y4 y5 y6 y7 y8 y9 y10 y11 y12 y13 y14 y15 B3
            go_wp2_with fail
            have cv := Accept_any B4.out.s (by decide) true
            rw [show acceptF 7 true = (10, 7) from rfl] at cv
            refine cv.mono ?_
            clear cv
            rintro e w5 ⟨rfl, s5, t5⟩
            have B5 := Lib.hid (B4.out.step s5 t5 (by decide))
            clear s5 t5 B4
            go_wp2_with fail
            have cv := Done_any B5.out.s (by decide)
            rw [show doneF 7 = (10, 7) from rfl] at cv
            refine cv.mono ?_
            clear cv
            rintro e w6 ⟨rfl, s6, t6⟩
            have B6 := Lib.hid (B5.out.step s6 t6 (by decide))
            clear s6 t6 B5
            go_wp2_with fail
            have cv := Fail_any B6.out.s (by decide)
            rw [show failF 7 = (10, 7) from rfl] at cv
            refine cv.mono ?_
            clear cv
            rintro e w7 ⟨rfl, s7, t7⟩
            have B7 := Lib.hid (B6.out.step s7 t7 (by decide))
            clear s7 t7 B6
            go_wp2_with fail
            refine (Phase_any B7.out.s (by decide)).mono ?_
            rintro e w8 ⟨rfl, rfl⟩
            go_wp2_with fail
            go_roundw
            case rel => exact ⟨j + 1, by omega, by go_num, B7⟩
            case measure => simp [intOf]; omega
          · by_cases hjn : j < n'
            all_goals
              go_wp2_with fail
              refine (Phase_any hb.out.s (by decide)).mono ?_
              rintro e w8 ⟨rfl, rfl⟩
              go_wp2_with fail
              refine (known_any wr).mono ?_
              rintro e w9 ⟨rfl, t9⟩
              have HF := Lib.hid (hb.out.bel.trans (t9.below0 hb.out.bel.size))
              clear t9
              go_wp2
              go_ret
              exact ⟨rfl, HF.out⟩
end Go.Proofs.Ythommlfigdjehaa
