/- VersCounts: the walk. -/
import Derived.Test.YtjmgookpmngmaacVeFresh
namespace Go.Proofs.Ytjmgookpmngmaac
open Go Go.RowKit Go.Maps

theorem meets_one (l : List ByteArray) (s : ByteArray) : meetsB l [s] = hasB l s := by
  unfold meetsB hasB
  rw [Bool.eq_iff_iff]
  simp only [List.any_eq_true, decide_eq_true_eq]
  constructor
  · rintro ⟨x, hx, y, hy, rfl⟩; exact ⟨y, hx, by simpa using hy⟩
  · rintro ⟨x, hx, rfl⟩; exact ⟨x, hx, x, by simp, rfl⟩

set_option maxRecDepth 8000 in
set_option maxHeartbeats 8000000 in
theorem VersCounts_walk (w : World) (A : Option Addr) (n cp : Nat) (os : List OpT) (hn : n = os.length) (hA : ∀ a, A = some a → RowO w a n os) (h0 : A = none → n = 0) (hs : ∀ o ∈ os, GoodO w o) (name : ByteArray) (hnm : name.size ≤ 140737488351232) :
    Calls Try.prog 5 #[.slice A n cp, .string name] w fun e w' => e = .returned (.bool true) ∧ Below w.heap.size w w' := by
  have Hn := Lib.hid hn; have Hs := Lib.hid hs; have HA := Lib.hid hA; have H0 := Lib.hid h0
  have hgn : goodS name := Nat.le_trans hnm (by decide)
  clear hn hs hA h0
  go_enter Try.func5, Try.ntmps5
  go_wp2_with fail
  refine (NewV w).mono ?_
  rintro e w1 ⟨pv, rfl, v1, t1⟩
  generalize hB : w.heap.size = Bz at *
  have b1 : Below Bz w w1 := t1.below0 (by omega)
  by_cases h100 : 100 < name.size
  · have hi : (100 : Int) < (name.size : Int) := by omega
    go_wp2_with fail
    refine (known_any w1).mono ?_
    rintro e w3 ⟨rfl, t3⟩
    go_wp2
    go_ret
    exact ⟨rfl, by rw [hB]; exact b1.trans (t3.mono v1.size)⟩
  have hi : ¬ (100 : Int) < (name.size : Int) := by omega
  go_wp2_with fail
  have hz1 := t1.size
  go_loopw [6, 7, 8] (fun c i _ wr => ∃ (j : Nat) (M : VA), j ≤ n ∧ j ≤ 40 ∧ i = .int .i64 j ∧ c = .int .i64 (M.num name) ∧ Hid (0 ≤ M.num name ∧ M.num name ≤ j) ∧ Hid (Ver Bz [] wr pv M (50 * j)) ∧ Hid (Below Bz w wr ∧ w.heap.size ≤ wr.heap.size)) (fun _ i _ _ => n - (intOf i).toNat)
  case atStart => exact ⟨0, _, Nat.zero_le _, Nat.zero_le _, rfl, rfl, Lib.hid ⟨by simp, by simp⟩, Lib.hid v1, Lib.hid ⟨b1, hz1⟩⟩
  clear v1 b1 t1 hz1
  case round =>
    obtain ⟨j, M, hj, hj3, rfl, rfl, hc, hv, hb⟩ := hrel
    obtain ⟨hc1, hc2⟩ := hc.out
    by_cases hlt : j < n ∧ j < 40
    · obtain ⟨hlt, hl3⟩ := hlt
      obtain ⟨a, rfl⟩ : ∃ a, A = some a := by
        cases A with
        | none => have := H0.out rfl; omega
        | some a => exact ⟨a, rfl⟩
      have hR := HA.out a rfl
      obtain ⟨o, hoj⟩ : ∃ o, os[j]? = some o := ⟨_, List.getElem?_eq_getElem (by have := Hn.out; omega)⟩
      have Hgo := Lib.hid (Hs.out o (List.mem_of_getElem? hoj))
      have hka := hR.2 j o hoj
      have hlo := hka.lt
      rw [hB] at hlo
      obtain ⟨d0, d1, d2⟩ := hka.low hb.out.1 hlo
      have ta : Touch [] wr (wr.alloc (.cells #[.int .i64 o.kind, .int .i64 o.client, .slice o.A o.n o.cp] 29)) := (Touch.refl _ _).alloc _
      have e2 : (wr.alloc (.cells #[.int .i64 o.kind, .int .i64 o.client, .slice o.A o.n o.cp] 29)).heap[wr.heap.size]? = some (.cells #[.int .i64 o.kind, .int .i64 o.client, .slice o.A o.n o.cp] 29 (0, 0)) := heap_alloc_new wr _
      have hv2 := Lib.hid (hv.out.watch ta wr.heap.size (Nat.le_refl _) (by simp))
      have hb2 : Hid (Below Bz w (wr.alloc (.cells #[.int .i64 o.kind, .int .i64 o.client, .slice o.A o.n o.cp] 29)) ∧ w.heap.size ≤ (wr.alloc (.cells #[.int .i64 o.kind, .int .i64 o.client, .slice o.A o.n o.cp] 29)).heap.size) := Lib.hid ⟨hb.out.1.trans (ta.below0 hv.out.size), Nat.le_trans hb.out.2 ta.size⟩
      go_upto_region 9 with fail
      clear hoj hR hka d0 d1 d2 hv hb ta
      generalize wr.alloc (.cells #[.int .i64 o.kind, .int .i64 o.client, .slice o.A o.n o.cp] 29) = W at *
      generalize wr.heap.size = g at *
      have q0 : W.cell? ⟨g, 0, none⟩ = some (.int .i64 o.kind) := by rw [cell_of e2]; rfl
      have q1 : W.cell? ⟨g, 1, none⟩ = some (.int .i64 o.client) := by rw [cell_of e2]; rfl
      have q2 : W.cell? ⟨g, 2, none⟩ = some (.slice o.A o.n o.cp) := by rw [cell_of e2]; rfl
      have NI := Lib.hid (Hgo.out.names.low' hB hb2.out.1 hb2.out.2)
      clear e2
      go_wp2_with fail
      refine (few_any NI.out.1 Hgo.out.names.len (fun s hs => Nat.le_trans (Hgo.out.names.size s hs) (by decide))).mono ?_
      rintro e w2 ⟨rfl, rfl⟩
      cases hfw : fewB o.names with
      | false =>
        go_wp2_with fail
        go_roundw
        case rel => exact ⟨j + 1, M, by omega, by omega, by go_num, rfl, Lib.hid ⟨hc1, by omega⟩, Lib.hid ((hv2.out.rest (by simp)).mono (by omega)), hb2⟩
        case measure => simp [intOf]; omega
      | true =>
      have ho20 : o.n ≤ 20 := by have := few_small hfw; have := Hgo.out.names.row.1; omega
      clear hfw
      go_wp2_with fail
      refine (DirtyV hv2.out o.client Hgo.out.client NI.out.1 (NI.out.2 _) Hgo.out.names.good (by omega)).mono ?_
      rintro e w3 ⟨rfl, v3, k3, z3⟩
      have q0' := k3.cell q0 (by simp)
      have q1' := k3.cell q1 (by simp)
      have q2' := k3.cell q2 (by simp)
      have hb3 : Hid (Below Bz w w3 ∧ w.heap.size ≤ w3.heap.size) := Lib.hid ⟨hb2.out.1.trans k3.1, Nat.le_trans hb2.out.2 z3⟩
      have hv3 := Lib.hid v3
      clear q0 q1 q2 v3 k3 z3 hv2 hb2 NI
      by_cases k0 : o.kind = 0
      · have hk0 : (o.kind == 0) = true := by simp [k0]
        have hk3 : (o.kind == 3) = false := by simp [k0]
        clear k0
        have NI := Lib.hid (Hgo.out.names.low' hB hb3.out.1 hb3.out.2)
        go_wp2_with fail
        refine (BumpV hv3.out NI.out.1 (NI.out.2 _) Hgo.out.names.good (by omega)).mono ?_
        rintro e w4 ⟨rfl, v4, k4, z4⟩
        have hx : ((M.mark o.client o.names).bump o.names).num name = M.num name + if hasB o.names name then 1 else 0 := rfl
        have hv4 := Lib.hid v4
        have r0 := k4.cell q0' (by simp)
        have r2 := k4.cell q2' (by simp)
        have hb4 : Hid (Below Bz w w4 ∧ w.heap.size ≤ w4.heap.size) := Lib.hid ⟨hb3.out.1.trans k4.1, Nat.le_trans hb3.out.2 z4⟩
        have tb : Touch [] w4 (w4.alloc (.cells #[.string name] 9)) := (Touch.refl _ _).alloc _
        have hv5 := Lib.hid (hv4.out.kept tb)
        have hb5 : Hid (Below Bz w (w4.alloc (.cells #[.string name] 9)) ∧ w.heap.size ≤ (w4.alloc (.cells #[.string name] 9)).heap.size) := Lib.hid ⟨hb4.out.1.trans (tb.below0 hv4.out.size), Nat.le_trans hb4.out.2 tb.size⟩
        have nL := (hv4.out.lit [name]).1
        simp only [strsV, strV, List.map_cons, List.map_nil, List.length_cons, List.length_nil, Nat.zero_add] at nL
        have r0' := tb.cell r0 (by simp)
        go_upto_region 13 with fail
        clear v4 k4 z4 q0' q1' q2' NI hb3 hv3
        generalize ((M.mark o.client o.names).bump o.names) = M4 at *
        have hxx := Lib.hid hx
        go_wp2_with fail
        generalize w4.alloc (.cells #[.string name] 9) = W5 at *
        generalize w4.heap.size = g5 at *
        have NI := Lib.hid (Hgo.out.names.low' hB hb5.out.1 hb5.out.2)
        refine (Meets_any NI.out.1 (by omega) nL (by omega)).mono ?_
        rintro e w6 ⟨rfl, rfl⟩
        rw [meets_one]
        clear nL tb hx r0 r2 hv4 hb4
        cases hm : hasB o.names name with
        | true =>
          have hy : Hid (M4.num name = M.num name + 1) := Lib.hid (by rw [hxx.out, hm]; rfl)
          clear hm
          go_wp2_with fail
          go_roundw
          case rel => exact ⟨j + 1, M4, by omega, by omega, by go_num, by rw [hy.out], Lib.hid (by rw [hy.out]; omega), Lib.hid ((hv5.out.rest (by simp)).mono (by omega)), hb5⟩
          case measure => simp [intOf]; omega
        | false =>
          have hy : Hid (M4.num name = M.num name) := Lib.hid (by rw [hxx.out, hm]; simp)
          clear hm
          go_wp2_with fail
          go_roundw
          case rel => exact ⟨j + 1, M4, by omega, by omega, by go_num, by rw [hy.out], Lib.hid (by rw [hy.out]; omega), Lib.hid ((hv5.out.rest (by simp)).mono (by omega)), hb5⟩
          case measure => simp [intOf]; omega
      have hk0 : (o.kind == 0) = false := by simp [k0]
      clear k0
      by_cases k3 : o.kind = 3
      · have hk3 : (o.kind == 3) = true := by simp [k3]
        clear k3
        go_wp2_with fail
        refine (CleanV hv3.out o.client Hgo.out.client).mono ?_
        rintro e w4 ⟨rfl, v4, k4, z4⟩
        go_wp2_with fail
        go_roundw
        case rel => exact ⟨j + 1, ((M.mark o.client o.names).clean o.client), by omega, by omega, by go_num, rfl, Lib.hid ⟨hc1, by show M.num name ≤ _; omega⟩, Lib.hid ((v4.rest (by simp)).mono (by omega)), Lib.hid ⟨hb3.out.1.trans k4.1, Nat.le_trans hb3.out.2 z4⟩⟩
        case measure => simp [intOf]; omega
      · have hk3 : (o.kind == 3) = false := by simp [k3]
        clear k3
        go_wp2_with fail
        go_roundw
        case rel => exact ⟨j + 1, (M.mark o.client o.names), by omega, by omega, by go_num, rfl, Lib.hid ⟨hc1, by show M.num name ≤ _; omega⟩, Lib.hid ((hv3.out.rest (by simp)).mono (by omega)), hb3⟩
        case measure => simp [intOf]; omega
    · obtain ⟨nL, vL, lL, tL⟩ := hv.out.lit [name, name]
      simp only [strsV, strV, List.map_cons, List.map_nil, List.length_cons, List.length_nil, Nat.zero_add, Nat.reduceAdd] at nL vL lL tL
      have hbL : Hid (Below Bz w (wr.alloc (.cells #[.string name, .string name] 9))) := Lib.hid (hb.out.1.trans (tL.below0 hv.out.size))
      generalize hx : M.num name = x at *
      have Hx := Lib.hid hx
      by_cases hjn : j < n
      all_goals
        go_wp2_with fail
        generalize wr.alloc (.cells #[.string name, .string name] 9) = W5 at *
        generalize wr.heap.size = g5 at *
        refine (TakeW vL nL (by simp; exact hgn) (by omega)).mono ?_
        rintro e w3 ⟨A1, c1, A2, c2, rfl, v3, a3, b3, k3, t3⟩
        rw [show [name, name].map M.num = [x, x] by simp [Hx.out]] at b3
        have v4 := v3.watch (w' := w3.alloc (.cells #[.int .i64 M.ep, .slice A1 2 c1, .slice A2 2 c2] 33)) ((Touch.refl _ _).alloc _) w3.heap.size (Nat.le_refl _) (by simp)
        have ta : Touch [] w3 (w3.alloc (.cells #[.int .i64 M.ep, .slice A1 2 c1, .slice A2 2 c2] 33)) := (Touch.refl _ _).alloc _
        have S1 : ∃ ks, Hid (St Bz ks w (w3.alloc (.cells #[.int .i64 M.ep, .slice A1 2 c1, .slice A2 2 c2] 33)) pv M (50 * j) M.ep A1 2 c1 A2 c2 [name, name] [x, x] w3.heap.size) :=
          ⟨_, Lib.hid ⟨v4, a3.kept0 ta, b3.kept0 ta, heap_alloc_new w3 _, lowA_own (N := 2) (c := c1) _ (fun i hi => by simp [hi]), lowA_own (N := 2) (c := c2) _ (fun i hi => by simp [hi]), by simp, (hbL.out.trans k3.1).trans (ta.below0 v3.size)⟩⟩
        obtain ⟨ks, S1⟩ := S1
        clear v3 v4 a3 b3 k3 t3 ta hv hb vL nL lL tL hbL
        go_upto_region 18 with fail
        generalize w3.alloc (.cells #[.int .i64 M.ep, .slice A1 2 c1, .slice A2 2 c2] 33) = W3 at *
        generalize w3.heap.size = gs at *
        obtain ⟨s0, s1, s2⟩ := S1.out.cells
        go_wp2_with fail
        refine (NumV S1.out.v name hgn).mono ?_
        rintro e w4 ⟨rfl, rfl⟩
        rw [Hx.out]
        have tb : Touch [] W3 (W3.alloc (.cells #[.int .i64 x, .int .i64 x] 3)) := (Touch.refl _ _).alloc _
        have S5 := Lib.hid (S1.out.kept tb)
        have ec : (W3.alloc (.cells #[.int .i64 x, .int .i64 x] 3)).heap[W3.heap.size]? = some (.cells #[.int .i64 x, .int .i64 x] 3 (0, 0)) := heap_alloc_new W3 _
        have c15 : NumsI (W3.alloc (.cells #[.int .i64 x, .int .i64 x] 3)) (some ⟨W3.heap.size, 0, none⟩) 2 [x, x] := ⟨rfl, .inr ⟨W3.heap.size, 0, rfl, heap_lt ec, fun j hj => by
          match j, hj with
          | 0, _ => rw [cell_of ec]; rfl
          | 1, _ => rw [cell_of ec]; rfl⟩⟩
        go_wp2_with fail
        clear S1 s0 s1 s2 tb ec
        generalize W3.alloc (.cells #[.int .i64 x, .int .i64 x] 3) = W6 at *
        generalize W3.heap.size = g6 at *
        refine (Ints_any S5.out.b c15 (by omega)).mono ?_
        rintro e w7 ⟨rfl, t7⟩
        have S7 := Lib.hid (S5.out.kept t7)
        clear S5 t7 c15
        obtain ⟨s0, s1, s2⟩ := S7.out.cells
        rw [decide_eq_true (show [x, x] = [x, x] from rfl)]
        go_wp2_with fail
        refine (FreshV S7.out.v M.ep S7.out.a (by simp; exact hgn) (by omega) S7.out.b).mono ?_
        rintro e w8 ⟨rfl, t8⟩
        rw [show (decide (M.ep = M.ep) && decide ([name, name].map M.num = [x, x])) = true by simp [Hx.out]]
        have S8 := Lib.hid (S7.out.kept t8)
        clear S7 t8 s0 s1 s2
        go_wp2_with fail
        refine (known_any w8).mono ?_
        rintro e w9 ⟨rfl, t9⟩
        go_wp2
        go_ret
        exact ⟨rfl, by rw [hB]; exact S8.out.bl.trans (t9.mono S8.out.v.size)⟩
end Go.Proofs.Ytjmgookpmngmaac
