/- A queue's up and down. -/
import Derived.Test.YthafopnaecbjdaaEx4
namespace Go.Proofs.Ythafopnaecbjdaa
open Go Go.RowKit Go.Maps Go.Proofs.YthafopnaecbjdaaW.PrintWords Go.Proofs.YthafopnaecbjdaaW.PrintLast

section
variable {w w' : World} {p mb : Nat} {hv : Value} {H : List It} {P : List (ByteArray × Value)} {sets : Int}
theorem QA.row_lt (h : QA w p mb hv H P sets) {b : Nat} (e : hv.ownBlock = some b) : b < w.heap.size := by
  rcases h.row with ⟨h1, _⟩ | ⟨hb, cp, C, h1, hh, _⟩
  · subst h1; cases e
  · subst h1
    simp only [Value.ownBlock, Option.some.injEq] at e
    subst e
    exact heap_lt hh
theorem QA.foot_lt (h : QA w p mb hv H P sets) : ∀ i ∈ Foot p mb hv, i < w.heap.size := by
  intro i hi
  simp only [Foot, List.mem_cons, Option.mem_toList] at hi
  rcases hi with rfl | rfl | hi
  · exact heap_lt h.blk
  · exact h.map.lt
  · exact h.row_lt hi
theorem QA.kept (h : QA w p mb hv H P sets) {S : List Nat} (t : Touch S w w') (hs : ∀ i ∈ Foot p mb hv, i ∉ S) : QA w' p mb hv H P sets :=
  ⟨(t.block p (heap_lt h.blk) (hs p (by simp [Foot]))).trans h.blk, h.row.touch t (fun i hi => hs i (by simp [Foot, hi])), h.map.of_block (t.block mb h.map.lt (hs mb (by simp [Foot]))), h.keys⟩
/-- A queue in memory, its places told. -/
def QP (w : World) (p mb : Nat) (hv : Value) (H : List It) (sets : Int) : Prop := ∃ P, QA w p mb hv H P sets ∧ Places P H
theorem QP.kept (h : QP w p mb hv H sets) {S : List Nat} (t : Touch S w w') (hs : ∀ i ∈ Foot p mb hv, i ∉ S) : QP w' p mb hv H sets := by
  obtain ⟨P, a, b⟩ := h
  exact ⟨P, a.kept t hs, b⟩
theorem QP.below (h : QP w p mb hv H sets) (k : Below w.heap.size w w') : QP w' p mb hv H sets := by
  obtain ⟨P, a, b⟩ := h
  exact ⟨P, a.below k, b⟩
theorem QP.foot_lt (h : QP w p mb hv H sets) : ∀ i ∈ Foot p mb hv, i < w.heap.size := by
  obtain ⟨P, a, _⟩ := h
  exact a.foot_lt
theorem less_qp (h : QP w p mb hv H sets) (i k : Nat) (hi : i < H.length) (hk : k < H.length) : Calls Try.prog 27 #[.pointer (some ⟨p, 0, none⟩), .int .i64 i, .int .i64 k] w fun e w' => e = .returned (.bool (ltI (atI H i) (atI H k))) ∧ Below w.heap.size w w' := by
  obtain ⟨P, a, _⟩ := h
  exact less_any a i k hi hk
theorem swap_qp (h : QP w p mb hv H sets) (hsm : H.length ≤ 100) (i k : Nat) (hi : i < H.length) (hk : k < H.length) : Calls Try.prog 28 #[.pointer (some ⟨p, 0, none⟩), .int .i64 i, .int .i64 k] w fun e w' => e = .returned (.tuple #[]) ∧ QP w' p mb hv (swI H i k) sets ∧ Touch (Foot p mb hv) w w' := by
  obtain ⟨P, a, b⟩ := h
  exact swap_any a b hsm i k hi hk
def halfN (i : Nat) : Nat := (i - 1) / 2
theorem half_eq (i : Nat) (hi : i < 200) : wrap64 (Int.tdiv ((i : Int) - 1) 2) = ((halfN i : Nat) : Int) ∧ Int.tdiv ((i : Int) - 1) 2 = ((halfN i : Nat) : Int) ∧ wrap64 (Int.tdiv (wrap64 ((i : Int) - 1)) 2) = ((halfN i : Nat) : Int) := by
  have : Int.tdiv ((i : Int) - 1) 2 = ((halfN i : Nat) : Int) := by
    unfold halfN
    cases i with
    | zero => rfl
    | succ i =>
      rw [Int.tdiv_eq_ediv_of_nonneg (by omega)]
      omega
  have h2 : wrap64 ((i : Int) - 1) = (i : Int) - 1 := by unfold wrap64; omega
  rw [h2, this]
  have : wrap64 ((halfN i : Nat) : Int) = ((halfN i : Nat) : Int) := by
    unfold wrap64 halfN
    omega
  exact ⟨this, rfl, this⟩
def upI (f : Nat) (H : List It) (i : Nat) : List It := Hp.upF z0 ltI f H i
theorem upI_stop (f : Nat) (H : List It) (i : Nat) (h : i = 0 ∨ ltI (atI H i) (atI H (halfN i)) = false) : upI f H i = H := by
  unfold upI
  cases f with
  | zero => rfl
  | succ f =>
    unfold Hp.upF
    rw [if_neg]
    rintro ⟨h0, h1⟩
    rcases h with h | h
    · omega
    · have h1 : ltI (atI H i) (atI H (halfN i)) = true := h1
      rw [h] at h1; cases h1
theorem upI_go (f : Nat) (H : List It) (i : Nat) (hf : i ≤ f) (h0 : 0 < i) (h : ltI (atI H i) (atI H (halfN i)) = true) : upI (f - 1) (swI H i (halfN i)) (halfN i) = upI f H i := by
  unfold upI
  obtain ⟨f, rfl⟩ : ∃ g, f = g + 1 := ⟨f - 1, by omega⟩
  rw [Nat.add_sub_cancel]
  show _ = Hp.upF z0 ltI (f + 1) H i
  rw [Hp.upF, if_pos ⟨h0, h⟩]
  rfl
set_option maxHeartbeats 2000000 in
theorem up_any (h : QP w p mb hv H sets) (hsm : H.length ≤ 100) (i f : Nat) (hi : i < H.length) (hf : i ≤ f) : Calls Try.prog 25 #[.pointer (some ⟨p, 0, none⟩), .int .i64 i] w fun e w' => e = .returned (.tuple #[]) ∧ QP w' p mb hv (upI f H i) sets ∧ Touch (Foot p mb hv) w w' := by
  obtain ⟨R, hR⟩ : ∃ R, R = upI f H i := ⟨_, rfl⟩
  rw [← hR]
  have HR := Lib.hid hR
  have HQ := Lib.hid h
  obtain ⟨n, hn⟩ : ∃ n, n = H.length := ⟨_, rfl⟩
  have HN := Lib.hid hn
  rw [← hn] at hi hsm
  have HD := Lib.hid (half_eq i (by omega))
  have HF := Lib.hid hf
  clear h hR hn hf
  go_enter Try.func25, Try.ntmps25
  repeat (first | go_step3 | go_values | go_skip | go_guarded | go_step | go_upon)
  go_loopw [1, 4] (fun a b wr => ∃ (k f : Nat) (H' : List It), a = .int .i64 k ∧ b = .int .i64 (halfN k) ∧ k < n ∧ Hid (k ≤ f ∧ upI f H' k = R ∧ H'.length = n ∧ QP wr p mb hv H' sets ∧ Touch (Foot p mb hv) w wr)) (fun a _ _ => (intOf a).toNat)
  case atStart => exact ⟨i, f, H, rfl, by first | rfl | rw [HD.out.1] | rw [HD.out.2.1] | rw [HD.out.2.2], hi, Lib.hid ⟨HF.out, HR.out.symm, HN.out.symm, HQ.out, Touch.refl _ _⟩⟩
  case round =>
    obtain ⟨k, f, H', rfl, rfl, hk, HA⟩ := hrel
    by_cases h0 : k = 0
    · subst h0
      have HE : Hid (H' = R) := Lib.hid (by have := HA.out.2.1; rw [upI_stop _ _ _ (.inl rfl)] at this; exact this)
      repeat (first | go_step3 | go_values | go_skip | go_guarded | go_step | go_upon)
      try simp only [Act.put]
      go_end0
      exact ⟨rfl, by rw [← HE.out]; exact HA.out.2.2.2.1, HA.out.2.2.2.2⟩
    · have hk0 : (0 : Int) < k := by omega
      obtain ⟨m, hm⟩ : ∃ m, m = halfN k := ⟨_, rfl⟩
      rw [← hm]
      have HM := Lib.hid hm
      have HK : Hid (0 < k ∧ k < n ∧ m < k) := Lib.hid ⟨by omega, hk, by rw [hm]; unfold halfN; omega⟩
      have HL := Lib.hid (less_qp HA.out.2.2.2.1 k m (by have := HA.out.2.2.1; omega) (by have := HA.out.2.2.1; have := HK.out.2.2; omega))
      obtain ⟨b, hb⟩ : ∃ b, b = ltI (atI H' k) (atI H' m) := ⟨_, rfl⟩
      rw [← hb] at HL
      have HLT := Lib.hid hb.symm
      have HQM := Lib.hid (half_eq m (by have := HK.out; omega))
      clear h0 hm hb
      cases b
      · repeat (first | go_step3 | go_values | go_skip | go_guarded | go_step | go_upon)
        (go_at_call 27; refine HL.out.mono ?_; rintro e w1 ⟨rfl, b1⟩; have HB := Lib.hid b1; clear b1; dsimp only)
        have HE : Hid (H' = R) := Lib.hid (by have := HA.out.2.1; rw [upI_stop _ _ _ (.inr (by rw [← HM.out]; exact HLT.out))] at this; exact this)
        repeat (first | go_step3 | go_values | go_skip | go_guarded | go_step | go_upon)
        try simp only [Act.put]
        go_end0
        exact ⟨rfl, by rw [← HE.out]; exact HA.out.2.2.2.1.below HB.out, HA.out.2.2.2.2.trans (Touch.of_below HB.out) (by simp)⟩
      · repeat (first | go_step3 | go_values | go_skip | go_guarded | go_step | go_upon)
        (go_at_call 27; refine HL.out.mono ?_; rintro e w1 ⟨rfl, b1⟩; have HB := Lib.hid b1; clear b1; dsimp only)
        have HS := Lib.hid (swap_qp (HA.out.2.2.2.1.below HB.out) (by have := HA.out.2.2.1; omega) k m (by have := HA.out.2.2.1; omega) (by have := HA.out.2.2.1; have := HK.out.2.2; omega))
        repeat (first | go_step3 | go_values | go_skip | go_guarded | go_step | go_upon)
        (go_at_call 28; refine HS.out.mono ?_; rintro e w2 ⟨rfl, b2, t2⟩; have HB2 := Lib.hid (And.intro b2 t2); clear b2 t2; dsimp only)
        repeat (first | go_step3 | go_values | go_skip | go_guarded | go_step | go_upon)
        try go_roundw
        case rel => exact ⟨m, f - 1, swI H' k m, by go_num, by first | rfl | rw [HQM.out.1] | rw [HQM.out.2.1] | rw [HQM.out.2.2], by have := HK.out; omega, Lib.hid ⟨by have := HK.out; have := HA.out.1; omega, by have := upI_go f H' k HA.out.1 HK.out.1 (by rw [← HM.out]; exact HLT.out); rw [← HM.out] at this; rw [this]; exact HA.out.2.1, (Hp.sw_len _ _ _ _).trans HA.out.2.2.1, HB2.out.1, (HA.out.2.2.2.2.trans (Touch.of_below HB.out) (by simp)).trans HB2.out.2 (fun _ h => .inl h)⟩⟩
        case measure => have := HK.out; simp [intOf]; omega
end
end Go.Proofs.Ythafopnaecbjdaa
