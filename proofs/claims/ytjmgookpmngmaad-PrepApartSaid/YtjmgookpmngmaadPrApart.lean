/- PrepApart. -/
import Derived.Test.YtjmgookpmngmaadPrArg
namespace Go.Proofs.Ytjmgookpmngmaad
open Go Go.RowKit Go.Maps Go.WideShapes

theorem mget_one {s q : ByteArray} : mget [(s, q)] s = some q := by simp [mget]
set_option maxRecDepth 8000 in
set_option maxHeartbeats 8000000 in
theorem PrepApart_walk (w : World) (name sql : ByteArray) (hnm : TextSz name) (hsq : TextSz sql) (A : Option Addr) (n cp : Nat) (os : List OpP) (hA : RowG opC 4 w A n os) (hg : ∀ o ∈ os, GoodP o) (hnn : n ≤ maxLen) :
    Calls Try.prog 4 #[.string name, .string sql, .slice A n cp] w fun e w' => e = .returned (.bool true) ∧ Below w.heap.size w w' := by
  have HA := Lib.hid hA; have HG := Lib.hid hg
  have hn := hnn
  unfold maxLen at hn
  have i5 : goodI (-5) := goodI_of (by decide)
  have I := Lib.hid (And.intro i5 (And.intro (gT hnm) (gT hsq)))
  have hz1 := hnm
  have hz2 := hsq
  unfold TextSz at hz1 hz2
  clear hA hg hnn i5 hnm hsq
  go_enter Try.func4, Try.ntmps4
  go_wp2_with fail
  refine (New_any w).mono ?_
  rintro e w0 ⟨pb, rfl, own0, b0, low, t0⟩
  have S0 : Hid (KS w w0 own0 pb BM.zero 0) := Lib.hid ⟨b0, low, t0.below (Nat.le_refl _) (by simp)⟩
  clear b0 low t0
  by_cases hs : name.size ≤ 100 ∧ sql.size ≤ 2000
  · obtain ⟨hs1, hs2⟩ := hs
    have k1 : ¬ (100 : Int) < (name.size : Int) := by omega
    have k2 : ¬ (2000 : Int) < (sql.size : Int) := by omega
    go_wp2_with fail
    refine (Define_ok (s := name) (q := sql) S0.out.b (by decide) I.out.1 I.out.2.1 hs2 (.inl rfl)).mono ?_
    rintro e w1 ⟨rfl, own1, b1, g1⟩
    have S1 : Hid (KS w w1 own1 pb (BM.zero.put (-5) name sql) 1 ∧ (BM.zero.put (-5) name sql).mine (-5) = [(name, sql)]) := Lib.hid ⟨S0.out.step b1 g1, by simp [BM.put, upd, BM.zero, mput]⟩
    clear b1 g1 S0
    go_wp2_with fail
    go_loopw [9] (fun i wr => ∃ (j : Nat) (own : Own) (M : BM), j ≤ n ∧ j ≤ 40 ∧ i = .int .i64 j ∧ Hid (KS w wr own pb M (1 + 3 * j) ∧ M.mine (-5) = [(name, sql)])) (fun i _ => n - (intOf i).toNat)
    case atStart => exact ⟨0, own1, _, Nat.zero_le _, Nat.zero_le _, rfl, S1⟩
    clear S1
    case round =>
      obtain ⟨j, own, M, hj, hj4, rfl, hb⟩ := hrel
      by_cases hlt : j < n ∧ j < 40
      · obtain ⟨hlt, hl4⟩ := hlt
        obtain ⟨g, b, o, hAA, hgl, hoj, hom, _, hc⟩ := (HA.out.below hb.out.1.bel).at hlt
        subst hAA
        obtain ⟨y0, y1, y2, y3⟩ := op_cells (b := b + j * 4) hc
        have GA := Lib.hid (HG.out o hom)
        clear hc hom hoj hgl
        have hi0 : (0 : Int) ≤ j := by omega
        have hi1 : (j : Int) < (n : Int) := by omega
        have hi2 : (j : Int) < 40 := by omega
        have ta : Touch [] wr (wr.alloc (opO o)) := (Touch.refl _ _).alloc _
        have B2 := Lib.hid (And.intro (hb.out.1.t0 ta) hb.out.2)
        have G2 := Lib.hid (heap_alloc_new wr (opO o))
        clear ta
        unfold opO at B2 G2
        go_upto_region 9 with fail
        clear y0 y1 y2 y3 hb hi0 hi1
        generalize wr.alloc (.cells #[.int .i64 o.kind, .int .i64 o.id, .string o.name, .string o.sql] 36) = W at *
        generalize wr.heap.size = g6 at *
        have G : Hid (W.heap[g6]? = some (opO o)) := Lib.hid G2.out
        clear G2
        obtain ⟨y0, y1, y2, y3⟩ := box_cells G.out
        have hq2 := GA.out.2.2.1
        have hq3 := GA.out.2.2.2
        unfold TextSz at hq2 hq3
        by_cases hskip : o.id = -5 ∨ 100 < o.name.size ∨ 2100 < o.sql.size
        · have HK : Hid (KS w W own pb M (1 + 3 * (j + 1)) ∧ M.mine (-5) = [(name, sql)]) := Lib.hid ⟨B2.out.1.mono (by omega), B2.out.2⟩
          by_cases e1 : o.id = -5
          · have k5 : (o.id == -5) = true := by simp [e1]
            clear hskip e1
            go_wp2_with fail
            go_roundw
            case rel => exact ⟨j + 1, own, M, by omega, by omega, by go_num, HK⟩
            case measure => simp [intOf]; omega
          · have k5 : (o.id == -5) = false := by simp [e1]
            by_cases e2 : 100 < o.name.size
            · have k6 : (100 : Int) < (o.name.size : Int) := by omega
              clear hskip e1
              go_wp2_with fail
              go_roundw
              case rel => exact ⟨j + 1, own, M, by omega, by omega, by go_num, HK⟩
              case measure => simp [intOf]; omega
            · have k6 : ¬ (100 : Int) < (o.name.size : Int) := by omega
              have k7 : (2100 : Int) < (o.sql.size : Int) := by omega
              clear hskip e1
              go_wp2_with fail
              go_roundw
              case rel => exact ⟨j + 1, own, M, by omega, by omega, by go_num, HK⟩
              case measure => simp [intOf]; omega
        · have e1 : o.id ≠ -5 := fun h => hskip (.inl h)
          have k5 : (o.id == -5) = false := by simp [e1]
          have k6 : ¬ (100 : Int) < (o.name.size : Int) := by omega
          have k7 : ¬ (2100 : Int) < (o.sql.size : Int) := by omega
          have HID := Lib.hid e1
          clear hskip e1
          by_cases q0 : o.kind = 0
          · have k0 : (o.kind == 0) = true := by simp [q0]
            clear q0
            go_wp2_with fail
            refine (Define_some B2.out.1.b (by omega) GA.out.2.1 (gT GA.out.2.2.1) (gT GA.out.2.2.2)).mono ?_
            rintro e w3 ⟨x, own3, M3, rfl, b3, g3, hm3, _, _⟩
            have HK : Hid (KS w w3 own3 pb M3 (1 + 3 * (j + 1)) ∧ M3.mine (-5) = [(name, sql)]) := Lib.hid ⟨(B2.out.1.step b3 g3).mono (by omega), by rw [hm3 _ HID.out]; exact B2.out.2⟩
            clear b3 g3 hm3
            go_wp2_with fail
            go_roundw
            case rel => exact ⟨j + 1, own3, M3, by omega, by omega, by go_num, HK⟩
            case measure => simp [intOf]; omega
          have k0 : (o.kind == 0) = false := by simp [q0]
          clear q0
          by_cases q1 : o.kind = 1
          · have k1 : (o.kind == 1) = true := by simp [q1]
            clear q1
            go_wp2_with fail
            refine (Close_some B2.out.1.b GA.out.2.1 (gT GA.out.2.2.1)).mono ?_
            rintro e w3 ⟨x, M3, rfl, b3, g3, hm3, _, _⟩
            have HK : Hid (KS w w3 own pb M3 (1 + 3 * (j + 1)) ∧ M3.mine (-5) = [(name, sql)]) := Lib.hid ⟨(B2.out.1.step b3 g3).mono (by omega), by rw [hm3 _ HID.out]; exact B2.out.2⟩
            clear b3 g3 hm3
            go_wp2_with fail
            go_roundw
            case rel => exact ⟨j + 1, own, M3, by omega, by omega, by go_num, HK⟩
            case measure => simp [intOf]; omega
          have k1 : (o.kind == 1) = false := by simp [q1]
          clear q1
          by_cases q2 : o.kind = 2
          · have k2 : (o.kind == 2) = true := by simp [q2]
            clear q2
            go_wp2_with fail
            refine (Leave_any B2.out.1.b GA.out.2.1).mono ?_
            rintro e w3 ⟨rfl, b3, g3⟩
            have HK : Hid (KS w w3 own pb (M.gone o.id) (1 + 3 * (j + 1)) ∧ (M.gone o.id).mine (-5) = [(name, sql)]) := Lib.hid ⟨(B2.out.1.step b3 g3).mono (by omega), by have := HID.out; simp [BM.gone, upd, this, B2.out.2]⟩
            clear b3 g3
            go_wp2_with fail
            go_roundw
            case rel => exact ⟨j + 1, own, _, by omega, by omega, by go_num, HK⟩
            case measure => simp [intOf]; omega
          have k2 : (o.kind == 2) = false := by simp [q2]
          clear q2
          by_cases q3 : o.kind = 3
          · have k3 : (o.kind == 3) = true := by simp [q3]
            clear q3
            go_wp2_with fail
            refine (Need_some B2.out.1.b (by omega) GA.out.2.1 (gT GA.out.2.2.2)).mono ?_
            rintro e w3 ⟨x, own3, M3, rfl, b3, g3, hm3, _, _⟩
            have HK : Hid (KS w w3 own3 pb M3 (1 + 3 * (j + 1)) ∧ M3.mine (-5) = [(name, sql)]) := Lib.hid ⟨(B2.out.1.step b3 g3).mono (by omega), by rw [hm3]; exact B2.out.2⟩
            clear b3 g3 hm3
            go_wp2_with fail
            go_roundw
            case rel => exact ⟨j + 1, own3, M3, by omega, by omega, by go_num, HK⟩
            case measure => simp [intOf]; omega
          have k3 : (o.kind == 3) = false := by simp [q3]
          clear q3
          by_cases q4 : o.kind = 4
          · have k4 : (o.kind == 4) = true := by simp [q4]
            clear q4
            go_wp2_with fail
            refine (Forget_any B2.out.1.b (by omega) GA.out.2.1).mono ?_
            rintro e w3 ⟨rfl, b3, g3⟩
            have HK : Hid (KS w w3 own pb (M.forget o.id) (1 + 3 * (j + 1)) ∧ (M.forget o.id).mine (-5) = [(name, sql)]) := Lib.hid ⟨(B2.out.1.step b3 g3).mono (by omega), B2.out.2⟩
            clear b3 g3
            go_wp2_with fail
            go_roundw
            case rel => exact ⟨j + 1, own, _, by omega, by omega, by go_num, HK⟩
            case measure => simp [intOf]; omega
          have k4 : (o.kind == 4) = false := by simp [q4]
          clear q4
          have HK : Hid (KS w W own pb M (1 + 3 * (j + 1)) ∧ M.mine (-5) = [(name, sql)]) := Lib.hid ⟨B2.out.1.mono (by omega), B2.out.2⟩
          go_wp2_with fail
          go_roundw
          case rel => exact ⟨j + 1, own, M, by omega, by omega, by go_num, HK⟩
          case measure => simp [intOf]; omega
      · by_cases hjn : j < n
        all_goals
          go_wp2_with fail
          refine (Find_yes (s := name) (x := sql) hb.out.1.b I.out.1 I.out.2.1 (by rw [hb.out.2]; exact mget_one)).mono ?_
          rintro e w3 ⟨rfl, rfl⟩
          go_wp2_with fail
          have cv := Leave_any hb.out.1.b I.out.1
          rw [hb.out.2] at cv
          refine cv.mono ?_
          clear cv
          rintro e w4 ⟨rfl, b4, g4⟩
          have S4 := Lib.hid (hb.out.1.step b4 g4)
          clear b4 g4
          go_wp2_with fail
          refine (known_any _).mono ?_
          rintro e w9 ⟨rfl, t9⟩
          have HF := Lib.hid (S4.out.bel.trans (t9.mono S4.out.bel.size))
          clear t9
          go_wp2
          go_ret
          exact ⟨rfl, HF.out⟩
  · by_cases e1 : 100 < name.size
    · have k1 : (100 : Int) < (name.size : Int) := by omega
      clear hs
      go_wp2_with fail
      refine (known_any _).mono ?_
      rintro e w9 ⟨rfl, t9⟩
      have HF := Lib.hid (S0.out.bel.trans (t9.mono S0.out.bel.size))
      clear t9
      go_wp2
      go_ret
      exact ⟨rfl, HF.out⟩
    · have k1 : ¬ (100 : Int) < (name.size : Int) := by omega
      have k2 : (2000 : Int) < (sql.size : Int) := by omega
      clear hs
      go_wp2_with fail
      refine (known_any _).mono ?_
      rintro e w9 ⟨rfl, t9⟩
      have HF := Lib.hid (S0.out.bel.trans (t9.mono S0.out.bel.size))
      clear t9
      go_wp2
      go_ret
      exact ⟨rfl, HF.out⟩
end Go.Proofs.Ytjmgookpmngmaad
