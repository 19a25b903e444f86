/- LoadBegins: what is made of a seed is a beginning of what is made of it of a greater n; all of it can happen. -/
import Derived.Test.YtmgcmheiabmajabLoP
import Derived.Test.YtmgcmheiabmajabRowS
import Derived.Test.YtmgcmheiabmajabEqF
namespace Go.Proofs.Ytmgcmheiabmajab
open Go Go.RowKit Go.Proofs.Ytmgcmheiabmajab.Pr

theorem nat_u8 {n : Int} (h : (Lit.int .u8 n).wf = true) : ∃ q : Nat, n = (q : Int) ∧ q ≤ 255 := by
  have h2 : 0 ≤ n ∧ n ≤ 255 := by simpa [Lit.wf, IntKind.min, IntKind.max, IntKind.bits, IntKind.signed] using h
  exact ⟨n.toNat, by omega, by omega⟩
theorem known_any (w : World) : Calls Try.prog 6 #[] w fun e w' => e = .returned (.bool true) ∧ Below w.heap.size w w' := Pr.pontoonlaw30_known.calls 3 true w (known_f 3 (by decide))
theorem RRight_good (o : OpL) (h : Pr.GoodOp o) (w : World) : Calls Try.prog 16 #[.agg #[.int .i64 o.kind, .int .i64 o.n, .string o.s, .string o.r]] w fun e w' => e = .returned (.bool true) ∧ Touch [] w w' :=
  (Pr.pontoonref27_Right.calls 103 o.kind o.n o.s o.r true w (rright_f o h 103 (Nat.le_refl _))).mono fun _ _ ⟨he, hb⟩ => ⟨he, Touch.of_below hb⟩
theorem op_neq_same (W : World) (o : OpL) : (binOp .neq 35 (.agg #[.int .i64 o.kind, .int .i64 o.n, .string o.s, .string o.r]) (.agg #[.int .i64 o.kind, .int .i64 o.n, .string o.s, .string o.r])).run Try.prog W = .ok (.bool false) W := by
  have hE : (Op.equalIn 10000 35 (.agg #[.int .i64 o.kind, .int .i64 o.n, .string o.s, .string o.r]) (.agg #[.int .i64 o.kind, .int .i64 o.n, .string o.s, .string o.r])).run Try.prog W = .ok ((o.kind == o.kind) && ((o.n == o.n) && ((o.s.toList == o.s.toList) && ((o.r.toList == o.r.toList) && true)))) W := by
    refine eqF_of (d := 9999) Try.underlying35 (by kernel_rfl) ?_
    refine eqF_step (by rfl) (by go_simp; rfl) (by go_simp; rfl) (by go_simp) ?_
    refine eqF_step (by rfl) (by go_simp; rfl) (by go_simp; rfl) (by go_simp) ?_
    refine eqF_step (by rfl) (by go_simp; rfl) (by go_simp; rfl) (by go_simp) ?_
    exact eqF_step (by rfl) (by go_simp; rfl) (by go_simp; rfl) (by go_simp) eqF_nil
  rw [run_neq_struct, hE]
  simp
theorem steps_take (c x : Int) (n : Nat) : ∀ m, (stepsM c x (n + m)).1.take n = (stepsM c x n).1
  | 0 => by rw [Nat.add_zero, List.take_of_length_le (by rw [stepsM_len]; exact Nat.le_refl _)]
  | m + 1 => by
    have h := steps_take c x n m
    show ((stepsM c x (n + m)).1 ++ _).take n = _
    rw [List.take_append_of_le_length (by rw [stepsM_len]; omega), h]
theorem begin_plain (x : Int) (k n m : Nat) (hk : 1 ≤ k ∧ k ≤ 20) (hn : n + m ≤ 1000) : (makeM x k n).length = k + n ∧ (makeM x k ((n + m : Nat) : Int)).length = k + n + m ∧ ∀ i, i < k + n → (makeM x k n)[i]? = (makeM x k ((n + m : Nat) : Int))[i]? := by
  have e1 : makeM x k n = connM k ++ (stepsM k x n).1 := by unfold makeM; rw [if_pos ⟨by omega, by omega, by omega, by omega⟩]; rfl
  have e2 : makeM x k ((n + m : Nat) : Int) = connM k ++ (stepsM k x (n + m)).1 := by unfold makeM; rw [if_pos ⟨by omega, by omega, by omega, by omega⟩]; rfl
  rw [e1, e2]
  refine ⟨by rw [List.length_append, connM_len, stepsM_len], by rw [List.length_append, connM_len, stepsM_len]; omega, fun i hi => ?_⟩
  by_cases h : i < k
  · rw [List.getElem?_append_left (by rw [connM_len]; exact h), List.getElem?_append_left (by rw [connM_len]; exact h)]
  · rw [List.getElem?_append_right (by rw [connM_len]; omega), List.getElem?_append_right (by rw [connM_len]; omega), connM_len]
    rw [← steps_take k x n m, List.getElem?_take_of_lt (by omega)]
set_option maxRecDepth 100000 in
set_option maxHeartbeats 4000000 in
theorem LoadBegins_walk (x : Int) (q0 q1 q2 : Nat) (w : World) (h0 : q0 ≤ 255) (h1 : q1 ≤ 255) (h2 : q2 ≤ 255) :
    Calls Try.prog 4 #[.int .u64 x, .agg #[.int .u8 q0, .int .u8 q1, .int .u8 q2]] w fun e w' => e = .returned (.bool true) ∧ Below w.heap.size w w' := by
  obtain ⟨k, hk⟩ : ∃ k : Nat, k = 1 + q0 % 20 := ⟨_, rfl⟩
  have hk' : 1 + (q0 : Int) % 20 = (k : Int) := by omega
  have HK : Hid (1 ≤ k ∧ k ≤ 20) := Lib.hid (by omega)
  have HP := Lib.hid (begin_plain x k q1 q2 HK.out (by omega))
  have HQ := Lib.hid (And.intro h1 h2)
  have hq1 : (q1 : Int) ≤ 255 := by omega
  have hq2 : (q2 : Int) ≤ 255 := by omega
  have hq0 : (q0 : Int) ≤ 255 := by omega
  have hkb : (k : Int) ≤ 20 := by omega
  have t0 : Touch [] w (w.alloc (.cells #[.int .u8 q0, .int .u8 q1, .int .u8 q2] 32)) := (Touch.refl _ _).alloc _
  have T0 := Lib.hid t0
  clear hk h0 h1 h2 t0
  go_enter Try.func4, Try.ntmps4
  go_wp2_with fail
  generalize (w.alloc (.cells #[.int .u8 q0, .int .u8 q1, .int .u8 q2] 32)) = W0 at *
  obtain ⟨la, hla⟩ : ∃ la, la = makeM x k q1 := ⟨_, rfl⟩
  obtain ⟨lb, hlb⟩ : ∃ lb, lb = makeM x k ((q1 + q2 : Nat) : Int) := ⟨_, rfl⟩
  have GB : Hid (∀ o ∈ lb, Pr.GoodOp o) := Lib.hid (by rw [hlb]; exact Pr.make_good _ _ _)
  rw [← hla, ← hlb] at HP
  have eB : makeM x k ((q1 : Int) + (q2 : Int)) = lb := by rw [hlb, Int.natCast_add]
  have mb := fun W => Make_any x k ((q1 : Int) + (q2 : Int)) W
  rw [eB] at mb
  have MB := Lib.hid mb
  clear mb eB
  refine (Make_any x k q1 _).mono ?_
  rintro e w1 ⟨v1, rfl, o1, b1⟩
  rw [← hla] at o1
  obtain ⟨A1, c1, rfl⟩ := own_slice2 o1
  have S1 := Lib.hid (And.intro o1 b1)
  clear o1 b1 hla hlb
  go_wp2_with fail
  refine (MB.out _).mono ?_
  rintro e w2 ⟨v2, rfl, o2, b2⟩
  obtain ⟨A2, c2, rfl⟩ := own_slice2 o2
  have HL : Hid (la.length = k + q1 ∧ lb.length = k + q1 + q2) := Lib.hid ⟨HP.out.1, HP.out.2.1⟩
  have R1 := Lib.hid ((RowG.of_own (enc := opC) (k := 4) (fun _ => rfl) (by decide) S1.out.1).below b2)
  have R2 := Lib.hid (RowG.of_own (enc := opC) (k := 4) (fun _ => rfl) (by decide) o2)
  have TB : Hid (Touch [] w w2) := Lib.hid ((T0.out.trans (Touch.of_below S1.out.2) (by simp)).trans (Touch.of_below b2) (by simp))
  clear o2 b2 S1 MB
  have ha : (la.length : Int) = (k : Int) + (q1 : Int) := by have := HL.out; omega
  have hb : (lb.length : Int) = (k : Int) + (q1 : Int) + (q2 : Int) := by have := HL.out; omega
  obtain ⟨na, hna⟩ : ∃ na, la.length = na := ⟨_, rfl⟩
  obtain ⟨nb, hnb⟩ : ∃ nb, lb.length = nb := ⟨_, rfl⟩
  rw [hna] at ha ⊢
  rw [hnb] at hb ⊢
  have x1 : ((na : Int) != (k : Int) + (q1 : Int)) = false := by rw [bne_eq_false_iff_eq]; exact ha
  have x2 : ((nb : Int) != (na : Int) + (q2 : Int)) = false := by rw [bne_eq_false_iff_eq]; omega
  have hnb2 : (nb : Int) ≤ 1000 := by have := HL.out; have := HK.out; have := HQ.out; omega
  have hna2 : (na : Int) ≤ 1000 := by have := HL.out; have := HK.out; have := HQ.out; omega
  have HN := Lib.hid (And.intro hna hnb)
  clear ha hb hna hnb
  go_wp2_with fail
  go_loopw [10] (fun i wr => ∃ j : Nat, i = .int .i64 j ∧ j ≤ nb ∧ Hid (Touch [] w2 wr)) (fun i _ => nb - (intOf i).toNat)
  case atStart => exact ⟨0, rfl, Nat.zero_le _, Lib.hid (Touch.refl _ _)⟩
  case round =>
    obtain ⟨j, rfl, hj, T⟩ := hrel
    by_cases hlt : j < nb
    · have hlt' : (j : Int) < nb := by omega
      have hj0 : (0 : Int) ≤ j := by omega
      obtain ⟨g2, o2, ob, rfl, _, hob, hmem, _, hc⟩ := (R2.out.kept0 T.out).at (j := j) (by have := HN.out; omega)
      have RI := Lib.hid (RRight_good ob (GB.out ob hmem))
      have NE := fun W => op_neq_same W ob
      have y0 := hc 0 _ rfl
      have y1 := hc 1 _ rfl
      have y2 := hc 2 _ rfl
      have y3 := hc 3 _ rfl
      rw [Nat.add_zero] at y0
      have z0 := TW.cell y0
      have z1 := TW.cell y1
      have z2 := TW.cell y2
      have z3 := TW.cell y3
      have HLT := Lib.hid hlt
      clear hc hmem hlt
      by_cases hja : j < na
      · have hja' : (j : Int) < na := by omega
        have hjb : decide ((j : Int) < (na : Int)) = true := decide_eq_true hja'
        have hjc : decide (j < na) = true := decide_eq_true hja
        obtain ⟨g1, o1, oa, rfl, _, hoa, _, _, hc1⟩ := (R1.out.kept0 T.out).at (j := j) (by have := HN.out; omega)
        have he : oa = ob := by
          have h1 := HP.out.2.2 j (by have := HN.out; have := HL.out; omega)
          rw [hoa, hob] at h1
          simpa using h1
        subst he
        have p0 := hc1 0 _ rfl
        have p1 := hc1 1 _ rfl
        have p2 := hc1 2 _ rfl
        have p3 := hc1 3 _ rfl
        rw [Nat.add_zero] at p0
        have r0 := TW.cell p0
        have r1 := TW.cell p1
        have r2 := TW.cell p2
        have r3 := TW.cell p3
        clear hc1 hoa hob hja p0 p1 p2 p3 y0 y1 y2 y3
        go_upto_region 11 with fail
        refine wp_region_tw (by kernel_rfl) (by kernel_rfl) ?_
        repeat (go_big_quiet_step ((go_at_call 16; exact TW.call (RI.out _))))
        refine wpQuiet_nil ?_
        rintro _ ⟨xw, rfl⟩
        have TF := Lib.hid (T.out.trans xw.t (by simp))
        clear z0 z1 z2 z3 r0 r1 r2 r3 NE
        go_wp2_with fail
        go_roundw
        case rel => exact ⟨j + 1, by go_num, HLT.out, TF⟩
        case measure => have := HLT.out; simp [intOf]; omega
      · have hjb : decide ((j : Int) < (na : Int)) = false := decide_eq_false (by omega)
        have hjc : decide (j < na) = false := decide_eq_false hja
        clear hob hja y0 y1 y2 y3
        go_upto_region 11 with fail
        refine wp_region_tw (by kernel_rfl) (by kernel_rfl) ?_
        repeat (go_big_quiet_step ((go_at_call 16; exact TW.call (RI.out _))))
        refine wpQuiet_nil ?_
        rintro _ ⟨xw, rfl⟩
        have TF := Lib.hid (T.out.trans xw.t (by simp))
        clear z0 z1 z2 z3 NE
        go_wp2_with fail
        go_roundw
        case rel => exact ⟨j + 1, by go_num, HLT.out, TF⟩
        case measure => have := HLT.out; simp [intOf]; omega
    · go_wp2_with fail
      refine (known_any _).mono ?_
      rintro e w5 ⟨rfl, b5⟩
      have BF := Lib.hid (((TB.out.trans T.out (by simp)).trans (Touch.of_below b5) (by simp)).below (Nat.le_refl _) (by simp))
      clear b5
      go_wp2_with fail
      go_ret
      exact ⟨rfl, BF.out⟩
end Go.Proofs.Ytmgcmheiabmajab
