/- The document's gauge: Total and Counts. -/
import Derived.Test.YtmgcmheiabmajaaGaE
import Derived.Test.YtmgcmheiabmajaaGaC
namespace Go.Proofs.Ytmgcmheiabmajaa
open Go Go.RowKit Go.Proofs.Ytmgcmheiabmajaa.Pa Go.Proofs.YtmgcmheiabmajaaW.PrintWords Go.Proofs.YtmgcmheiabmajaaW.PrintLast

def sumR (l : List Int) : Int := l.foldl (fun s x => mn (s + x) cutI) 0
def Num (l : List Int) : Prop := ∀ x ∈ l, 0 ≤ x ∧ x ≤ 1099511627776
theorem sumR_take (l : List Int) (k : Nat) (h : k < l.length) : sumR (l.take (k + 1)) = mn (sumR (l.take k) + l[k]) cutI := by
  unfold sumR
  rw [List.take_succ_eq_append_getElem h, List.foldl_append]
  rfl
theorem sumR_bound (l : List Int) (h : Num l) : 0 ≤ sumR l ∧ sumR l ≤ cutI := by
  have key : ∀ (l : List Int) (s : Int), Num l → 0 ≤ s ∧ s ≤ cutI → 0 ≤ l.foldl (fun s x => mn (s + x) cutI) s ∧ l.foldl (fun s x => mn (s + x) cutI) s ≤ cutI := by
    intro l
    induction l with
    | nil => intro s _ h; exact h
    | cons x r ih =>
      intro s hn hs
      refine ih _ (fun y hy => hn y (List.mem_cons_of_mem _ hy)) ?_
      have := hn x List.mem_cons_self
      show 0 ≤ mn (s + x) cutI ∧ mn (s + x) cutI ≤ cutI
      unfold mn cutI at *
      split <;> omega
  exact key l 0 h ⟨Int.le_refl _, by decide⟩
def cnt1 (B : List Int) (cs : List Int) (x : Int) : List Int := cs.set (posL B x) (rd cs (posL B x : Nat) + 1)
def cntR (B l : List Int) : List Int := l.foldl (cnt1 B) (List.replicate (B.length + 1) 0)
theorem cntR_take (B l : List Int) (k : Nat) (h : k < l.length) : cntR B (l.take (k + 1)) = cnt1 B (cntR B (l.take k)) l[k] := by
  unfold cntR
  rw [List.take_succ_eq_append_getElem h, List.foldl_append]
  rfl
theorem cntR_len (B l : List Int) : (cntR B l).length = B.length + 1 := by
  have key : ∀ (l cs : List Int), (l.foldl (cnt1 B) cs).length = cs.length := by
    intro l
    induction l with
    | nil => intro cs; rfl
    | cons x r ih =>
      intro cs
      show (r.foldl (cnt1 B) (cnt1 B cs x)).length = _
      rw [ih]
      exact List.length_set
  unfold cntR
  rw [key, List.length_replicate]
theorem cntR_bound (B l : List Int) : ∀ y ∈ cntR B l, 0 ≤ y ∧ y ≤ l.length := by
  have key : ∀ (l cs : List Int) (n : Int), 0 ≤ n → (∀ y ∈ cs, 0 ≤ y ∧ y ≤ n) → ∀ y ∈ l.foldl (cnt1 B) cs, 0 ≤ y ∧ y ≤ n + l.length := by
    intro l
    induction l with
    | nil => intro cs n _ h y hy; have := h y hy; simp only [List.length_nil]; omega
    | cons x r ih =>
      intro cs n hn h y hy
      have := ih (cnt1 B cs x) (n + 1) (by omega) (fun z hz => by
        unfold cnt1 at hz
        rcases List.mem_or_eq_of_mem_set hz with hm | he
        · have := h z hm; omega
        · have hr : 0 ≤ rd cs (posL B x : Nat) ∧ rd cs (posL B x : Nat) ≤ n := by
            unfold rd
            try rw [rdOf_at]
            rw [List.getD_eq_getElem?_getD]
            cases hg : cs[((posL B x : Nat) : Int).toNat]? with
            | none => exact ⟨Int.le_refl _, hn⟩
            | some u => exact h u (List.mem_of_getElem? hg)
          omega) y hy
      simp only [List.length_cons]
      omega
  intro y hy
  have := key l (List.replicate (B.length + 1) 0) 0 (Int.le_refl _) (fun z hz => by rw [List.eq_of_mem_replicate hz]; exact ⟨Int.le_refl _, Int.le_refl _⟩) y hy
  omega
theorem posL_le (B : List Int) (x : Int) : posL B x ≤ B.length := by
  unfold posL
  exact (List.takeWhile_prefix _).length_le
theorem posL_lt {B : List Int} {x : Int} {j : Nat} (hj : j < posL B x) : ∃ h : j < B.length, B[j] < x := by
  have hl := posL_le B x
  refine ⟨by omega, ?_⟩
  induction B generalizing j with
  | nil => simp [posL] at hj
  | cons a r ih =>
    unfold posL at hj
    rw [List.takeWhile_cons] at hj
    by_cases h : a < x
    · rw [if_pos (by simpa using h)] at hj
      cases j with
      | zero => exact h
      | succ j => exact ih (by simpa [posL] using hj) (posL_le r x)
    · rw [if_neg (by simpa using h)] at hj
      simp at hj
theorem posL_at {B : List Int} {x : Int} (h : posL B x < B.length) : ¬ B[posL B x] < x := by
  induction B with
  | nil => simp at h
  | cons a r ih =>
    by_cases hx : a < x
    · have e : posL (a :: r) x = posL r x + 1 := by unfold posL; rw [List.takeWhile_cons, if_pos (by simpa using hx)]; rfl
      have h' : posL r x < r.length := by rw [e] at h; simpa using h
      simp only [e]
      exact ih h'
    · have e : posL (a :: r) x = 0 := by unfold posL; rw [List.takeWhile_cons, if_neg (by simpa using hx)]; rfl
      simp only [e]
      exact hx
section
variable {base : Nat} {w w' : World} {p bB cB : Nat} {vl : Value} {B l : List Int}
set_option maxHeartbeats 2000000 in
theorem rtotal_any (h : RG base w p bB cB vl B l) (hn : Num l) (hl : l.length ≤ 1000) : Calls Try.prog 12 #[.pointer (some ⟨p, 0, none⟩)] w fun e w' => e = .returned (.tuple #[.int .i64 l.length, .int .i64 (sumR l)]) ∧ w' = w := by
  obtain ⟨_, k1, _⟩ := h.cells
  obtain ⟨Al, cl, hv, hlc, hC⟩ := Kd.R_reads h.own
  subst hv
  have HC := Lib.hid hC
  have HN := Lib.hid hn
  clear h hC hn
  obtain ⟨n, hn⟩ : ∃ n, n = l.length := ⟨_, rfl⟩
  have HL := Lib.hid hn
  rw [← hn] at k1 hl hlc ⊢
  obtain ⟨res, hres⟩ : ∃ r, r = sumR l := ⟨_, rfl⟩
  rw [← hres]
  have HRES := Lib.hid hres
  clear hn hres
  go_enter Try.func12, Try.ntmps12
  repeat (first | go_step3 | go_values | go_skip | go_guarded | go_step | go_upon)
  go_loopw [4, 5] (fun s i wr => ∃ k : Nat, i = .int .i64 k ∧ s = .int .i64 (sumR (l.take k)) ∧ k ≤ n ∧ Hid (wr = w)) (fun _ i _ => n - (intOf i).toNat)
  case atStart => exact ⟨0, rfl, rfl, Nat.zero_le _, Lib.hid rfl⟩
  case round =>
    obtain ⟨k, rfl, rfl, hk, HW⟩ := hrel
    obtain rfl := HW.out
    by_cases hlt : k < n
    · have hki : (k : Int) < n := by omega
      have hk0 : (0 : Int) ≤ k := by omega
      have hkn : k < l.length := by have := HL.out; omega
      obtain ⟨ad, hA, cy⟩ := Kd.at_int HC.out (k : Int) hk0 (by omega)
      subst hA
      rw [rd_at l k hkn, Int.toNat_natCast] at cy
      have HST := Lib.hid (sumR_take l k hkn)
      have hb := sumR_bound (l.take k) (fun x hx => HN.out x (List.mem_of_mem_take hx))
      have hy := HN.out l[k] (List.getElem_mem hkn)
      have HLT := Lib.hid hlt
      generalize l[k] = y at *
      generalize sumR (l.take k) = sv at *
      unfold cutI at hb
      have r1 : -9223372036854775808 ≤ sv + y := by omega
      have r2 : sv + y ≤ 9223372036854775807 := by omega
      clear hkn hb hy hlt
      repeat (first | go_step3 | go_values | go_skip | go_guarded | go_step | go_upon)
      try go_roundw
      case rel => exact ⟨k + 1, by go_num, by rw [HST.out]; rfl, HLT.out, by first | exact Lib.hid rfl | exact Lib.hid trivial⟩
      case measure => have := HLT.out; simp [intOf]; omega
    · have hge : ¬ (k : Int) < n := by omega
      have HF : Hid (sumR (l.take k) = res) := Lib.hid (by rw [HRES.out, List.take_of_length_le (by have := HL.out; omega)])
      clear hlt
      repeat (first | go_step3 | go_values | go_skip | go_guarded | go_step | go_upon)
      go_ret2
      exact ⟨by rw [← HF.out]; rfl, rfl⟩
set_option maxHeartbeats 4000000 in
theorem rcounts_any (h : RG base w p bB cB vl B l) (hB0 : 0 < B.length) (hB1 : B.length ≤ 100) (hl : l.length ≤ 1000) : Calls Try.prog 17 #[.pointer (some ⟨p, 0, none⟩)] w (IntsP w (cntR B l)) := by
  have H := Lib.hid h
  obtain ⟨k0, k1, _⟩ := h.cells
  obtain ⟨Al, cl, hv, hlc, hC⟩ := Kd.R_reads h.own
  have HC := Lib.hid hC
  clear h hC
  obtain ⟨m, hm⟩ : ∃ m, m = B.length := ⟨_, rfl⟩
  have HM := Lib.hid hm
  rw [← hm] at k0 hB0 hB1
  obtain ⟨n, hn⟩ : ∃ n, n = l.length := ⟨_, rfl⟩
  have HL := Lib.hid hn
  rw [← hn] at hl hlc hv
  have HV := Lib.hid hv
  clear hn hm hv
  go_enter Try.func17, Try.ntmps17
  repeat ((fail_if_success (with_reducible refine gate_dst (N := 12) rfl ?_)); first | go_step3 | go_values | go_skip | go_guarded | go_step | go_upon)
  ((with_reducible refine gate_dst (N := 12) rfl ?_); refine Kd.R_make (Kd.int .i64) (w0 := w) w.heap.size 3 rfl (N := 12) rfl 22 _ _ rfl ((m : Int) + 1) rfl rfl Try.underlying22 (.int .i64 0) 8 infoI rfl (by decide) (by omega) 0 (ok := fun _ => True) (okp := fun _ => True) rfl (fun _ _ => trivial) trivial (by omega) (by omega) (Below.refl _ _) (Nat.le_refl _) ?_; intro v1 w1 ho hb1 hg1 hloc; have ho2 : Kd.R (Kd.int .i64) 3 w1 w.heap.size (fun _ => True) v1 (cntR B []) := (by have e : ((m : Int) + 1).toNat = B.length + 1 := (by rw [← HM.out]; omega); rw [e] at ho; exact ho); have HO := Lib.hid ho2; have HB := Lib.hid hb1; clear ho ho2 hb1 hg1 hloc)
  obtain ⟨g, cap, hv1, _, _, _⟩ := Kd.R_form HO.out (by rw [cntR_len]; omega)
  rw [cntR_len, ← HM.out] at hv1
  subst hv1
  dsimp only
  repeat (first | go_step3 | go_values | go_skip | go_guarded | go_step | go_upon)
  go_loopw [4] (fun i wr => ∃ k : Nat, i = .int .i64 k ∧ k ≤ n ∧ Hid (Kd.R (Kd.int .i64) 3 wr w.heap.size (fun _ => True) (.slice (some ⟨g, 0, none⟩) (m + 1) cap) (cntR B (l.take k))) ∧ Hid (Below w.heap.size w wr)) (fun i _ => n - (intOf i).toNat)
  case atStart => exact ⟨0, rfl, Nat.zero_le _, HO, HB⟩
  clear HO HB
  case round =>
    obtain ⟨k, rfl, hk, HO, HB⟩ := hrel
    have HH := Lib.hid (H.out.below HB.out)
    obtain ⟨_, q1, _⟩ := HH.out.cells
    rw [HV.out] at q1
    by_cases hlt : k < n
    · have hki : (k : Int) < n := by omega
      have hk0 : (0 : Int) ≤ k := by omega
      have hkn : k < l.length := by have := HL.out; omega
      have HLT := Lib.hid hlt
      have HCT := Lib.hid (cntR_take B l k hkn)
      have HEL : Hid (∀ W, Below w.heap.size w W → ∃ ad, Al = some ad ∧ W.cell? (ad.add k) = some (.int .i64 (l[k]))) := Lib.hid (fun W hW => by
        obtain ⟨ad, hA, cy⟩ := Kd.at_int (Kd.C_below HC.out hW) (k : Int) hk0 (by omega)
        rw [rd_at l k hkn, Int.toNat_natCast] at cy
        exact ⟨ad, hA, cy⟩)
      obtain ⟨ad, hA, _⟩ := HEL.out w (Below.refl _ _)
      generalize l[k] = x at *
      clear hkn hlt
      repeat (first | go_step3 | go_values | go_skip | go_guarded | go_step | go_upon)
      go_loopw [5] (fun i wr => ∃ j : Nat, i = .int .i64 j ∧ j ≤ posL B x ∧ Hid (Kd.R (Kd.int .i64) 3 wr w.heap.size (fun _ => True) (.slice (some ⟨g, 0, none⟩) (m + 1) cap) (cntR B (l.take k))) ∧ Hid (Below w.heap.size w wr)) (fun i _ => m - (intOf i).toNat)
      case atStart => exact ⟨0, rfl, Nat.zero_le _, HO, HB⟩
      clear HO HB q1 HH
      case round =>
        obtain ⟨j, rfl, hj, HO, HB⟩ := hrel
        have HH := Lib.hid (H.out.below HB.out)
        obtain ⟨q0, q1, _⟩ := HH.out.cells
        rw [HV.out] at q1
        rw [← HM.out] at q0
        obtain ⟨ad2, hA2, cx⟩ := HEL.out _ HB.out
        subst hA
        cases hA2
        have hj0 : (0 : Int) ≤ j := by omega
        by_cases hlt : j < posL B x
        · obtain ⟨hjB, hlx⟩ := posL_lt hlt
          have hjm : (j : Int) < m := by have := HM.out; omega
          have cb := HH.out.at j B[j] (List.getElem?_eq_getElem hjB)
          have HJM : Hid (j < m) := Lib.hid (by have := HM.out; omega)
          have HLT2 := Lib.hid hlt
          generalize B[j] = bj at *
          clear hjB hlt
          repeat (first | go_step3 | go_values | go_skip | go_guarded | go_step | go_upon)
          have hbx : bj < x := hlx
          clear hlx
          refine wp_region_tw (by kernel_rfl) (by kernel_rfl) ?_
          have z0 := TW.cell q0
          have z1 := TW.cell q1
          have z2 := TW.cell cb
          have z3 := TW.cell cx
          repeat (go_big_quiet_step (fail))
          refine wpQuiet_nil ?_
          rintro _ ⟨Y, rfl⟩
          have HB6 : Hid (Below w.heap.size w Y.w) := Lib.hid (HB.out.trans (Y.t.below HB.out.size (by simp)))
          have HO6 := Lib.hid (Kd.R_below HO.out (Y.t.below (Nat.le_refl _) (by simp)))
          clear z0 z1 z2 z3
          generalize Y.w = w7 at *
          repeat (first | go_step3 | go_values | go_skip | go_guarded | go_step | go_upon)
          try go_roundw
          case rel => exact ⟨j + 1, by go_num, HLT2.out, HO6, HB6⟩
          case measure => have := HJM.out; simp [intOf]; omega
        · have HJP := Lib.hid (show j = posL B x by omega)
          by_cases hjB : j < B.length
          · have hjm : (j : Int) < m := by have := HM.out; omega
            have cb := HH.out.at j B[j] (List.getElem?_eq_getElem hjB)
            have hnb : ¬ B[j] < x := by have e := HJP.out; subst e; exact posL_at hjB
            generalize B[j] = bj at *
            clear hlt
            repeat (first | go_step3 | go_values | go_skip | go_guarded | go_step | go_upon)
            refine wp_region_tw (by kernel_rfl) (by kernel_rfl) ?_
            have z0 := TW.cell q0
            have z1 := TW.cell q1
            have z2 := TW.cell cb
            have z3 := TW.cell cx
            repeat (go_big_quiet_step (fail))
            refine wpQuiet_nil ?_
            rintro _ ⟨Y, rfl⟩
            have HB6 : Hid (Below w.heap.size w Y.w) := Lib.hid (HB.out.trans (Y.t.below HB.out.size (by simp)))
            have HO6 := Lib.hid (Kd.R_below HO.out (Y.t.below (Nat.le_refl _) (by simp)))
            clear z0 z1 z2 z3
            generalize Y.w = w7 at *
            obtain ⟨hj2, hj3⟩ : (j : Int) = ((posL B x : Nat) : Int) ∧ posL B x < m + 1 := by have := HJP.out; have := posL_le B x; have := HM.out; omega
            have hcl : (cntR B (l.take k)).length = m + 1 := by rw [cntR_len, ← HM.out]
            have ho7 := HO6.out
            rw [← hcl] at ho7
            obtain ⟨cz, fz⟩ := Kd.R_cell 0 ho7 (j : Int) hj0 (by rw [hcl]; omega)
            have hput := Kd.R_put ho7 (j : Int) (rd (cntR B (l.take k)) (j : Int) + 1)
            have hrdb : 0 ≤ rd (cntR B (l.take k)) (j : Int) ∧ rd (cntR B (l.take k)) (j : Int) ≤ 1000 := by
              have hjl : j < (cntR B (l.take k)).length := by rw [hcl]; omega
              rw [rd_at _ j hjl]
              have := cntR_bound B (l.take k) _ (List.getElem_mem hjl)
              have hlt : (l.take k).length ≤ n := by rw [List.length_take]; have := HL.out; omega
              omega
            have HFIN : Hid (cntR B (l.take (k + 1)) = (cntR B (l.take k)).set ((j : Int)).toNat (rd (cntR B (l.take k)) (j : Int) + 1)) := Lib.hid (by rw [HCT.out]; unfold cnt1; rw [hj2, Int.toNat_natCast])
            have HPUT := Lib.hid hput.1
            have HBP : Hid (∀ v, Below w.heap.size w (w7.setCell ⟨g, ((j : Int)).toNat, none⟩ v)) := Lib.hid (fun v => HB6.out.setCell (p := ⟨g, ((j : Int)).toNat, none⟩) (Kd.R_base ho7 g rfl) v)
            rw [hcl] at HPUT
            rw [Int.toNat_natCast] at cz fz HPUT HFIN HBP
            replace cz : w7.cell? ⟨g, j, none⟩ = some (.int .i64 (rd (cntR B (l.take k)) (j : Int))) := cz
            have hjm2 : (j : Int) < ((m + 1 : Nat) : Int) := by omega
            generalize rd (cntR B (l.take k)) (j : Int) = cv at *
            have r1 : -9223372036854775808 ≤ cv + 1 := by omega
            have r2 : cv + 1 ≤ 9223372036854775807 := by omega
            clear hput ho7 hcl hj2 hj3 hrdb
            repeat (first | go_step3 | go_values | go_skip | go_guarded | go_step | go_upon)
            try go_roundw
            case rel => exact ⟨k + 1, by go_num, HLT.out, Lib.hid (by rw [HFIN.out]; exact HPUT.out), Lib.hid (HBP.out _)⟩
            case measure => have := HLT.out; simp [intOf]; omega
          · have hjm : ¬ (j : Int) < m := by have := HM.out; omega
            clear hlt
            repeat (first | go_step3 | go_values | go_skip | go_guarded | go_step | go_upon)
            refine wp_region_tw (by kernel_rfl) (by kernel_rfl) ?_
            have z0 := TW.cell q0
            have z1 := TW.cell q1
            repeat (go_big_quiet_step (fail))
            refine wpQuiet_nil ?_
            rintro _ ⟨Y, rfl⟩
            have HB6 : Hid (Below w.heap.size w Y.w) := Lib.hid (HB.out.trans (Y.t.below HB.out.size (by simp)))
            have HO6 := Lib.hid (Kd.R_below HO.out (Y.t.below (Nat.le_refl _) (by simp)))
            clear z0 z1 
            generalize Y.w = w7 at *
            obtain ⟨hj2, hj3⟩ : (j : Int) = ((posL B x : Nat) : Int) ∧ posL B x < m + 1 := by have := HJP.out; have := posL_le B x; have := HM.out; omega
            have hcl : (cntR B (l.take k)).length = m + 1 := by rw [cntR_len, ← HM.out]
            have ho7 := HO6.out
            rw [← hcl] at ho7
            obtain ⟨cz, fz⟩ := Kd.R_cell 0 ho7 (j : Int) hj0 (by rw [hcl]; omega)
            have hput := Kd.R_put ho7 (j : Int) (rd (cntR B (l.take k)) (j : Int) + 1)
            have hrdb : 0 ≤ rd (cntR B (l.take k)) (j : Int) ∧ rd (cntR B (l.take k)) (j : Int) ≤ 1000 := by
              have hjl : j < (cntR B (l.take k)).length := by rw [hcl]; omega
              rw [rd_at _ j hjl]
              have := cntR_bound B (l.take k) _ (List.getElem_mem hjl)
              have hlt : (l.take k).length ≤ n := by rw [List.length_take]; have := HL.out; omega
              omega
            have HFIN : Hid (cntR B (l.take (k + 1)) = (cntR B (l.take k)).set ((j : Int)).toNat (rd (cntR B (l.take k)) (j : Int) + 1)) := Lib.hid (by rw [HCT.out]; unfold cnt1; rw [hj2, Int.toNat_natCast])
            have HPUT := Lib.hid hput.1
            have HBP : Hid (∀ v, Below w.heap.size w (w7.setCell ⟨g, ((j : Int)).toNat, none⟩ v)) := Lib.hid (fun v => HB6.out.setCell (p := ⟨g, ((j : Int)).toNat, none⟩) (Kd.R_base ho7 g rfl) v)
            rw [hcl] at HPUT
            rw [Int.toNat_natCast] at cz fz HPUT HFIN HBP
            replace cz : w7.cell? ⟨g, j, none⟩ = some (.int .i64 (rd (cntR B (l.take k)) (j : Int))) := cz
            have hjm2 : (j : Int) < ((m + 1 : Nat) : Int) := by omega
            generalize rd (cntR B (l.take k)) (j : Int) = cv at *
            have r1 : -9223372036854775808 ≤ cv + 1 := by omega
            have r2 : cv + 1 ≤ 9223372036854775807 := by omega
            clear hput ho7 hcl hj2 hj3 hrdb
            repeat (first | go_step3 | go_values | go_skip | go_guarded | go_step | go_upon)
            try go_roundw
            case rel => exact ⟨k + 1, by go_num, HLT.out, Lib.hid (by rw [HFIN.out]; exact HPUT.out), Lib.hid (HBP.out _)⟩
            case measure => have := HLT.out; simp [intOf]; omega
    · have hge : ¬ (k : Int) < n := by omega
      have HF : Hid (cntR B (l.take k) = cntR B l) := Lib.hid (by rw [List.take_of_length_le (by have := HL.out; omega)])
      clear hlt
      repeat (first | go_step3 | go_values | go_skip | go_guarded | go_step | go_upon)
      go_ret
      exact ⟨_, rfl, by have := HO.out; rw [HF.out] at this; exact this, HB.out⟩
end
end Go.Proofs.Ytmgcmheiabmajaa
