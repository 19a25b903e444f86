/- A queue's down. -/
import Derived.Test.YthafopnaecbjdaaEx5
namespace Go.Proofs.Ythafopnaecbjdaa
open Go Go.RowKit Go.Maps Go.Proofs.YthafopnaecbjdaaW.PrintWords Go.Proofs.YthafopnaecbjdaaW.PrintLast

section
variable {w w' : World} {p mb : Nat} {hv : Value} {H : List It} {P : List (ByteArray × Value)} {sets : Int}
theorem QP.cell0 (h : QP w p mb hv H sets) : ∃ A cp, w.cell? ⟨p, 0, none⟩ = some (.slice A H.length cp) ∧ hv = .slice A H.length cp := by
  obtain ⟨P, a, _⟩ := h
  obtain ⟨A, cp, e⟩ := a.slice
  exact ⟨A, cp, by rw [← e]; exact a.cells.1, e⟩
def pickI (H : List It) (k b : Nat) : Nat := if k < H.length ∧ ltI (atI H k) (atI H b) = true then k else b
def bestI (H : List It) (i : Nat) : Nat := pickI H (2 * i + 2) (pickI H (2 * i + 1) i)
theorem best_eq (H : List It) (i : Nat) : Hp.best z0 ltI H i = bestI H i := rfl
def BoxN (w : World) (g b : Nat) : Prop := w.heap[g]? = some (.cells #[.int .i64 b] 3 (0, 0))
theorem BoxN.cell {g b : Nat} (h : BoxN w g b) : w.cell? ⟨g, 0, none⟩ = some (.int .i64 b) := (cell_of h 0).trans rfl
theorem BoxN.touch {g b : Nat} (h : BoxN w g b) {S : List Nat} (t : Touch S w w') (hs : g ∉ S) : BoxN w' g b := (t.block g (heap_lt h) hs).trans h
theorem BoxN.set {g b : Nat} (h : BoxN w g b) (k : Nat) : BoxN (w.setCell ⟨g, 0, none⟩ (.int .i64 k)) g k := (block_set h _).trans rfl
set_option maxHeartbeats 2000000 in
theorem better_any (h : QP w p mb hv H sets) (_hsm : H.length ≤ 100) {g1 g2 : Nat} (h1 : w.cell? ⟨g1, 0, none⟩ = some (.pointer (some ⟨p, 0, none⟩))) {b : Nat} (h2 : BoxN w g2 b) (k : Nat) (hb : b < H.length) :
    Calls Try.prog 30 #[.int .i64 k, .pointer (some ⟨g1, 0, none⟩), .pointer (some ⟨g2, 0, none⟩)] w fun e w' => e = .returned (.tuple #[]) ∧ BoxN w' g2 (pickI H k b) ∧ Touch [g2] w w' := by
  obtain ⟨A, cp, c0, _⟩ := h.cell0
  have HQ := Lib.hid h
  have HB2 := Lib.hid h2
  have c2 := h2.cell
  obtain ⟨n, hn⟩ : ∃ n, n = H.length := ⟨_, rfl⟩
  have HN := Lib.hid hn
  rw [← hn] at c0 hb
  have HBN := Lib.hid hb
  clear h h2 hn hb
  by_cases hk : k < n
  · have hki : (k : Int) < n := by omega
    have HL := Lib.hid (less_qp HQ.out k b (by have := HN.out; omega) (by have := HN.out; have := HBN.out; omega))
    obtain ⟨r, hr⟩ : ∃ r, r = ltI (atI H k) (atI H b) := ⟨_, rfl⟩
    rw [← hr] at HL
    have HR := Lib.hid hr
    have HK := Lib.hid hk
    clear hr hk
    cases r
    · have HP : Hid (pickI H k b = b) := Lib.hid (if_neg (fun h => by have := HR.out; rw [h.2] at this; cases this))
      go_enter Try.func30, Try.ntmps30
      repeat (first | go_step3 | go_values | go_skip | go_guarded | go_step | go_upon)
      (go_at_call 27; refine HL.out.mono ?_; rintro e w1 ⟨rfl, b1⟩; have HB := Lib.hid b1; clear b1; dsimp only)
      repeat (first | go_step3 | go_values | go_skip | go_guarded | go_step | go_upon)
      try simp only [Act.put]
      go_end0
      exact ⟨rfl, by rw [HP.out]; exact HB2.out.touch (Touch.of_below HB.out) (by simp), (Touch.of_below HB.out).mono (by simp)⟩
    · have HP : Hid (pickI H k b = k) := Lib.hid (if_pos ⟨by have := HK.out; have := HN.out; omega, HR.out.symm⟩)
      go_enter Try.func30, Try.ntmps30
      repeat (first | go_step3 | go_values | go_skip | go_guarded | go_step | go_upon)
      (go_at_call 27; refine HL.out.mono ?_; rintro e w1 ⟨rfl, b1⟩; have HB := Lib.hid b1; clear b1; dsimp only)
      have HX := Lib.hid (HB2.out.touch (Touch.of_below HB.out) (by simp))
      have cx := HX.out.cell
      have fx := frozen_of HX.out 0
      repeat (first | go_step3 | go_values | go_skip | go_guarded | go_step | go_upon)
      try simp only [Act.put]
      go_end0
      exact ⟨rfl, by rw [HP.out]; exact HX.out.set k, (Touch.of_below HB.out |>.mono (by simp)).setCell (a := ⟨g2, 0, none⟩) _ (.inl (by simp))⟩
  · have hki : ¬ (k : Int) < n := by omega
    have HP : Hid (pickI H k b = b) := Lib.hid (if_neg (fun h => hk (by rw [HN.out]; exact h.1)))
    clear hk
    go_enter Try.func30, Try.ntmps30
    repeat (first | go_step3 | go_values | go_skip | go_guarded | go_step | go_upon)
    try simp only [Act.put]
    go_end0
    exact ⟨rfl, by rw [HP.out]; exact HB2.out, Touch.refl _ _⟩
def downI (f : Nat) (H : List It) (i : Nat) : List It := Hp.downF z0 ltI f H i
theorem downI_stop (f : Nat) (H : List It) (i : Nat) (h : bestI H i = i) : downI f H i = H := by
  unfold downI
  cases f with
  | zero => rfl
  | succ f =>
    unfold Hp.downF
    rw [best_eq, if_pos h]
theorem downI_go (f : Nat) (H : List It) (i : Nat) (h0 : 0 < f) (h : bestI H i ≠ i) : downI (f - 1) (swI H i (bestI H i)) (bestI H i) = downI f H i := by
  unfold downI
  obtain ⟨f, rfl⟩ : ∃ g, f = g + 1 := ⟨f - 1, by omega⟩
  rw [Nat.add_sub_cancel]
  show _ = Hp.downF z0 ltI (f + 1) H i
  rw [Hp.downF, best_eq, if_neg h]
theorem pick_lt {H : List It} {k b : Nat} (hb : b < H.length) : pickI H k b < H.length := by
  unfold pickI
  split
  · rename_i h; exact h.1
  · exact hb
theorem best_lt {H : List It} {i : Nat} (hi : i < H.length) : bestI H i < H.length := pick_lt (pick_lt hi)
theorem pick_or (H : List It) (k b : Nat) : pickI H k b = k ∨ pickI H k b = b := by
  unfold pickI
  split
  · exact .inl rfl
  · exact .inr rfl
theorem best_gt {H : List It} {i : Nat} (h : bestI H i ≠ i) : i < bestI H i := by
  unfold bestI at *
  rcases pick_or H (2 * i + 2) (pickI H (2 * i + 1) i) with e | e <;> rw [e] at h ⊢
  · omega
  · rcases pick_or H (2 * i + 1) i with e2 | e2 <;> rw [e2] at h ⊢
    · omega
    · exact absurd rfl h
theorem two_w (i : Nat) (hi : i < 200) : wrap64 (wrap64 (2 * (i : Int)) + 1) = ((2 * i + 1 : Nat) : Int) ∧ wrap64 (wrap64 (2 * (i : Int)) + 2) = ((2 * i + 2 : Nat) : Int) := by
  unfold wrap64
  omega
set_option maxHeartbeats 2000000 in
theorem down_any (h : QP w p mb hv H sets) (hsm : H.length ≤ 100) (i f : Nat) (hi : i < H.length) (hf : H.length ≤ f + i) : Calls Try.prog 29 #[.pointer (some ⟨p, 0, none⟩), .int .i64 i] w fun e w' => e = .returned (.tuple #[]) ∧ QP w' p mb hv (downI f H i) sets ∧ Touch (Foot p mb hv) w w' := by
  obtain ⟨R, hR⟩ : ∃ R, R = downI f H i := ⟨_, rfl⟩
  rw [← hR]
  have HR := Lib.hid hR
  have HQ := Lib.hid h
  obtain ⟨n, hn⟩ : ∃ n, n = H.length := ⟨_, rfl⟩
  have HN := Lib.hid hn
  have HF := Lib.hid hf
  rw [← hn] at hi hsm
  clear h hR hn hf
  go_enter Try.func29, Try.ntmps29
  repeat (first | go_step3 | go_values | go_skip | go_guarded | go_step | go_upon)
  go_loopw [1] (fun a wr => ∃ (k f : Nat) (H' : List It), a = .int .i64 k ∧ k < n ∧ Hid (n ≤ f + k ∧ downI f H' k = R ∧ H'.length = n ∧ QP wr p mb hv H' sets ∧ Touch (Foot p mb hv) w wr ∧ wr.cell? ⟨w.heap.size, 0, none⟩ = some (.pointer (some ⟨p, 0, none⟩)) ∧ w.heap.size < wr.heap.size)) (fun a _ => n - (intOf a).toNat)
  case atStart =>
    have b1 : (w.alloc (.cells #[.pointer (some ⟨p, 0, none⟩)] 23)).heap[w.heap.size]? = some (.cells #[.pointer (some ⟨p, 0, none⟩)] 23 (0, 0)) := heap_alloc_new w _
    exact ⟨i, f, H, rfl, hi, Lib.hid ⟨by have := HF.out; have := HN.out; omega, HR.out.symm, HN.out.symm, HQ.out.below ((Touch.refl [] w).alloc _ |>.below (Nat.le_refl _) (by simp)), (Touch.refl _ w).alloc _, (cell_of b1 0).trans rfl, heap_lt b1⟩⟩
  case round =>
    obtain ⟨k, f, H', rfl, hk, HA⟩ := hrel
    repeat ((fail_if_success (with_reducible refine gate_dst (N := 7) rfl ?_)); first | ((with_reducible refine gate_dst (N := 4) rfl ?_); refine box_event ?hg (N := 4) ?hd (cs := #[.int .i64 0]) (t := 3) ?hr ?_; (case hd => rfl); (case hg => rfl); (case hr => first | (go_simp; done) | (go_simp; rfl)); intro gb hgb w4 hbox hb; have HB4 := Lib.hid hb; have BK4 := Lib.hid (show BoxN w4 gb 0 from hbox); have GE : Hid (gb = wr.heap.size) := Lib.hid hgb; clear hb hbox hgb; have hcz0 := BK4.out.cell; have hf0 := frozen_of BK4.out 0) | go_step3 | go_values | go_skip | go_guarded | go_step | go_upon)
    have HB5 := Lib.hid (HB4.out.setCell (p := ⟨gb, 0, none⟩) (Nat.le_of_eq GE.out.symm) (.int .i64 k))
    have BK5 := Lib.hid (BK4.out.set k)
    generalize (w4.setCell ⟨gb, 0, none⟩ (.int .i64 k)) = w5 at *
    have HQ5 := Lib.hid (HA.out.2.2.2.1.below HB5.out)
    have HC5 := Lib.hid (HB5.out.cell (p := ⟨w.heap.size, 0, none⟩) HA.out.2.2.2.2.2.2 |>.trans HA.out.2.2.2.2.2.1)
    have HK := Lib.hid hk
    have HGW : Hid (w.heap.size < gb) := Lib.hid (by have := GE.out; have := HA.out.2.2.2.2.2.2; omega)
    have HFT : Hid (∀ j ∈ Foot p mb hv, j ≠ gb) := Lib.hid (fun j hj => by have := HA.out.2.2.2.1.foot_lt j hj; have := GE.out; omega)
    have HL1 := Lib.hid (better_any HQ5.out (by have := HA.out.2.2.1; omega) HC5.out BK5.out (2 * k + 1) (by have := HA.out.2.2.1; have := HK.out; omega))
    have e1 : ((2 * k + 1 : Nat) : Int) = 2 * (k : Int) + 1 := by omega
    rw [e1] at HL1
    clear e1 hcz0 hf0
    repeat (first | go_step3 | go_values | go_skip | go_guarded | go_step | go_upon)
    (go_at_call 30; refine HL1.out.mono ?_; rintro e w6 ⟨rfl, b6, t6⟩; have HX6 := Lib.hid (And.intro b6 t6); clear b6 t6; dsimp only)
    have HP1 : Hid (pickI H' (2 * k + 1) k < n) := Lib.hid (by rw [← HA.out.2.2.1]; exact pick_lt (by have := HA.out.2.2.1; have := HK.out; omega))
    have HQ6 := Lib.hid (HQ5.out.kept HX6.out.2 (fun j hj => by simpa using HFT.out j hj))
    have HC6 := Lib.hid (HX6.out.2.cell HC5.out (by have := HGW.out; simp; omega))
    have HL2 := Lib.hid (better_any HQ6.out (by have := HA.out.2.2.1; omega) HC6.out HX6.out.1 (2 * k + 2) (by have := HA.out.2.2.1; have := HP1.out; omega))
    have e2 : ((2 * k + 2 : Nat) : Int) = 2 * (k : Int) + 2 := by omega
    rw [e2] at HL2
    clear e2
    repeat (first | go_step3 | go_values | go_skip | go_guarded | go_step | go_upon)
    (go_at_call 30; refine HL2.out.mono ?_; rintro e w7 ⟨rfl, b7, t7⟩; have HX7 := Lib.hid (And.intro b7 t7); clear b7 t7; dsimp only)
    obtain ⟨m, hm⟩ : ∃ m, m = bestI H' k := ⟨_, rfl⟩
    have HM := Lib.hid hm
    have HX8 : Hid (BoxN w7 gb m ∧ Touch [gb] w6 w7) := Lib.hid (by rw [hm]; exact HX7.out)
    have HT7 := Lib.hid (HX6.out.2.trans HX8.out.2 (fun _ h => .inl h))
    have HQ7 := Lib.hid (HQ6.out.kept HX8.out.2 (fun j hj => by simpa using HFT.out j hj))
    have HC7 := Lib.hid (HX8.out.2.cell HC6.out (by have := HGW.out; simp; omega))
    have HMN : Hid (m < n) := Lib.hid (by rw [hm, ← HA.out.2.2.1]; exact best_lt (by have := HA.out.2.2.1; have := HK.out; omega))
    have c7 := HC7.out
    have cm := HX8.out.1.cell
    have HTT : Hid (Touch (Foot p mb hv) w w7) := Lib.hid ((HA.out.2.2.2.2.1.trans (Touch.of_below HB5.out) (by simp)).trans HT7.out (fun j hj => .inr (by simp at hj; subst hj; have := HGW.out; omega)))
    clear hm HX7
    by_cases hmk : m = k
    · have hmi : ((m : Int) == (k : Int)) = true := by rw [hmk]; simp
      have HE : Hid (H' = R) := Lib.hid (by have := HA.out.2.1; rw [downI_stop _ _ _ (HM.out.symm.trans hmk)] at this; exact this)
      clear hmk
      repeat (first | go_step3 | go_values | go_skip | go_guarded | go_step | go_upon)
      try simp only [Act.put]
      refine bodyPost_ret (results_none rfl _ _ _) rfl ?_
      exact ⟨rfl, by rw [← HE.out]; exact HQ7.out, HTT.out⟩
    · have hmi : ((m : Int) == (k : Int)) = false := by rw [beq_eq_false_iff_ne]; omega
      have HNE : Hid (bestI H' k ≠ k) := Lib.hid (by rw [← HM.out]; exact hmk)
      have HS := Lib.hid (swap_qp HQ7.out (by have := HA.out.2.2.1; omega) k m (by have := HA.out.2.2.1; have := HK.out; omega) (by have := HA.out.2.2.1; have := HMN.out; omega))
      clear hmk
      repeat (first | go_step3 | go_values | go_skip | go_guarded | go_step | go_upon)
      (go_at_call 28; refine HS.out.mono ?_; rintro e w8 ⟨rfl, b8, t8⟩; have HB8 := Lib.hid (And.intro b8 t8); clear b8 t8; dsimp only)
      have cm8 := (HX8.out.1.touch HB8.out.2 (fun hh => HFT.out _ hh rfl)).cell
      have HC8 := Lib.hid (HB8.out.2.cell c7 (fun hh => by have := HQ.out.foot_lt _ hh; simp at this))
      clear c7 cm
      repeat (first | go_step3 | go_values | go_skip | go_guarded | go_step | go_upon)
      try go_roundw
      case rel => exact ⟨m, f - 1, swI H' k m, by go_num, HMN.out, Lib.hid ⟨by have := best_gt HNE.out; rw [← HM.out] at this; have := HA.out.1; omega, by have := downI_go f H' k (by have := HA.out.1; have := HK.out; omega) HNE.out; rw [← HM.out] at this; rw [this]; exact HA.out.2.1, (Hp.sw_len _ _ _ _).trans HA.out.2.2.1, HB8.out.1, HTT.out.trans HB8.out.2 (fun _ h => .inl h), HC8.out, by have := HB8.out.2.size; have := HT7.out.size; have := HB5.out.size; have := HA.out.2.2.2.2.2.2; omega⟩⟩
      case measure => have := best_gt HNE.out; rw [← HM.out] at this; have := HMN.out; simp [intOf]; omega
end
end Go.Proofs.Ythafopnaecbjdaa
