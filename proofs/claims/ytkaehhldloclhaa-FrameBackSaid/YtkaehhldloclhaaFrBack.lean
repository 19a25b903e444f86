/- FrameBack: the bytes of right messages, one behind the other, are read as these, and nothing waits. -/
import Derived.Test.YtkaehhldloclhaaFrBk
namespace Go.Proofs.Ytkaehhldloclhaa
open Go Go.RowKit

theorem msg_cells {w : World} {A : Option Addr} {n : Nat} {l : List Msg} (h : RowG mC 2 w A n l) {k : Nat} (hk : k < n) : ∃ g o m, A = some ⟨g, o, none⟩ ∧ l[k]? = some m ∧ l.take (k + 1) = l.take k ++ [m] ∧ w.cell? ⟨g, o + k * 2, none⟩ = some (.int .u8 m.kind.toNat) ∧ w.cell? ⟨g, o + k * 2 + 1, none⟩ = some (.string m.body) := by
  obtain ⟨g, o, m, hA, _, hm, _, ht, hc⟩ := h.at hk
  have c0 := hc 0 _ rfl
  rw [Nat.add_zero] at c0
  exact ⟨g, o, m, hA, hm, ht, c0, hc 1 _ rfl⟩
theorem rightL_snoc {l : List Msg} {m : Msg} (h : rightL l) (hm : rightF m = true) (hk : m.kind ≠ 0 ∨ l = []) : rightL (l ++ [m]) := by
  refine ⟨fun x hx => ?_, fun x hx => ?_⟩
  · rcases List.mem_append.1 hx with h1 | h1
    · exact h.1 x h1
    · simp at h1; subst h1; exact hm
  · cases l with
    | nil => simp at hx
    | cons y l =>
      simp only [List.cons_append, List.tail_cons, List.mem_append, List.mem_singleton] at hx
      rcases hx with h1 | h1
      · exact h.2 x h1
      · subst h1
        rcases hk with h2 | h2
        · exact h2
        · cases h2
set_option maxRecDepth 100000 in
set_option maxHeartbeats 4000000 in
theorem FrameBack_walk (A : Option Addr) (n cp : Nat) (l : List Msg) (w : World) (hrow : RowG mC 2 w A n l) (hgood : ∀ m ∈ l, GoodM m) (hn : n ≤ maxLen) :
    Calls Try.prog 5 #[.slice A n cp] w fun e w' => e = .returned (.bool true) ∧ Below w.heap.size w w' := by
  unfold maxLen at hn
  by_cases h30 : 30 < n
  · have h1 : (30 : Int) < n := by omega
    clear hrow
    go_enter Try.func5, Try.ntmps5
    go_wp2_with (go_at_call 12; refine (known_any _).mono ?_; rintro e w1 ⟨rfl, b1⟩)
    go_ret
    exact ⟨rfl, b1⟩
  have h1 : ¬ (30 : Int) < n := by omega
  have HR := Lib.hid (And.intro hrow (And.intro hgood h30))
  clear hrow hgood
  go_enter Try.func5, Try.ntmps5
  go_wp2_with fail
  go_loopw [3, 4] (fun s i wr => ∃ k : Nat, i = .int .i64 k ∧ k ≤ n ∧ s = .string (joinM (l.take k)) ∧ Hid (rightL (l.take k) ∧ Below w.heap.size w wr)) (fun _ i _ => n - (intOf i).toNat)
  case atStart => exact ⟨0, rfl, Nat.zero_le _, rfl, Lib.hid ⟨⟨by simp, by simp⟩, Below.refl _ _⟩⟩
  case round =>
    obtain ⟨k, rfl, hk, rfl, H⟩ := hrel
    have hJ : Hid ((joinM (l.take k)).size ≤ 5000 * 30) := Lib.hid (by have := joinM_size (l.take k) H.out.1.1; have h2 := HR.out.2.2; have h3 : (l.take k).length ≤ k := by simp; omega
                                                                       omega)
    generalize hj : joinM (l.take k) = s at *
    have HJ := Lib.hid hj
    clear hj
    by_cases hlt : k < n
    · obtain ⟨gA, oA, m, hA, hm, htk, c0, c1⟩ := msg_cells (HR.out.1.below H.out.2) hlt
      subst hA
      have hgm := HR.out.2.1 m (List.mem_of_getElem? hm)
      unfold GoodM TextSz at hgm
      have hbl : (0 : Int) ≤ k := by omega
      have hlt' : (k : Int) < n := by omega
      have HM := Lib.hid (And.intro hm htk)
      clear hm htk
      have RIGHT := fun w => Right_any m w hgm
      have PUT := fun w => Put_any m w hgm
      cases hr : rightF m with
      | false =>
        rw [hr] at RIGHT
        have RI := Lib.hid RIGHT
        clear RIGHT PUT hr
        unfold msgV at RI
        go_wp2_with (first | (go_at_call 8; refine (RI.out _).mono ?_; rintro e w2 ⟨rfl, t2⟩; have B2 := Lib.hid (H.out.2.trans (t2.below H.out.2.size (by simp))); clear t2) | (go_at_call 12; refine (known_any _).mono ?_; rintro e w3 ⟨rfl, b3⟩))
        go_ret
        exact ⟨rfl, B2.out.trans (b3.mono B2.out.size)⟩
      | true =>
        rw [hr] at RIGHT
        have RI := Lib.hid RIGHT
        have PU := Lib.hid PUT
        have HRT := Lib.hid hr
        have hps : Hid ((putM m).size ≤ 5000) := Lib.hid (by have := joinM_size [m] (by simpa using hr); simpa [joinM] using this)
        clear RIGHT PUT hr
        unfold msgV at RI PU
        by_cases h0 : m.kind = 0
        · have K := kind_zero h0
          by_cases hk0 : 0 < k
          · have hk0' : (0 : Int) < k := by omega
            have hk1 : decide ((0 : Int) < k) = true := by simpa using hk0'
            clear h0
            go_wp2_with (first | (go_at_call 8; refine (RI.out _).mono ?_; rintro e w2 ⟨rfl, t2⟩; have B2 := Lib.hid (H.out.2.trans (t2.below H.out.2.size (by simp))); have d0 := t2.cell c0 (by simp); clear t2) | (go_at_call 12; refine (known_any _).mono ?_; rintro e w3 ⟨rfl, b3⟩))
            go_ret
            exact ⟨rfl, B2.out.trans (b3.mono B2.out.size)⟩
          · have hk1 : decide ((0 : Int) < k) = false := decide_eq_false (by omega)
            have hk3 : decide (0 < k) = false := decide_eq_false (by omega)
            have hnext : Hid (rightL (l.take (k + 1)) ∧ joinM (l.take (k + 1)) = s ++ putM m) := Lib.hid ⟨by rw [HM.out.2]; exact rightL_snoc H.out.1 HRT.out (.inr (by rw [show k = 0 by omega]; rfl)), by rw [HM.out.2, joinM_snoc, HJ.out]⟩
            clear hk0
            have hsum : s.size + (putM m).size ≤ 9223372036854775807 := by have := hJ.out; have := hps.out; omega
            generalize putM m = x at *
            clear h0
            go_wp2_with (first | (go_at_call 8; refine (RI.out _).mono ?_; rintro e w2 ⟨rfl, t2⟩; have B2 := Lib.hid (H.out.2.trans (t2.below H.out.2.size (by simp))); have d0 := t2.cell c0 (by simp); have d1 := t2.cell c1 (by simp); clear t2) | (go_at_call 10; refine (PU.out _).mono ?_; rintro e w3 ⟨rfl, t3⟩; have B3 := Lib.hid (B2.out.trans (t3.below B2.out.size (by simp))); clear t3))
            go_roundw
            case rel => exact ⟨k + 1, by go_num, hlt, by rw [hnext.out.2], Lib.hid ⟨hnext.out.1, B3.out⟩⟩
            case measure => simp [intOf]; omega
        · have K := kind_not h0
          have hnext : Hid (rightL (l.take (k + 1)) ∧ joinM (l.take (k + 1)) = s ++ putM m) := Lib.hid ⟨by rw [HM.out.2]; exact rightL_snoc H.out.1 HRT.out (.inl h0), by rw [HM.out.2, joinM_snoc, HJ.out]⟩
          have hsum : s.size + (putM m).size ≤ 9223372036854775807 := by have := hJ.out; have := hps.out; omega
          generalize putM m = x at *
          clear h0
          go_wp2_with (first | (go_at_call 8; refine (RI.out _).mono ?_; rintro e w2 ⟨rfl, t2⟩; have B2 := Lib.hid (H.out.2.trans (t2.below H.out.2.size (by simp))); have d0 := t2.cell c0 (by simp); have d1 := t2.cell c1 (by simp); clear t2) | (go_at_call 10; refine (PU.out _).mono ?_; rintro e w3 ⟨rfl, t3⟩; have B3 := Lib.hid (B2.out.trans (t3.below B2.out.size (by simp))); clear t3))
          go_roundw
          case rel => exact ⟨k + 1, by go_num, hlt, by rw [hnext.out.2], Lib.hid ⟨hnext.out.1, B3.out⟩⟩
          case measure => simp [intOf]; omega
    · have hkn : k = n := by omega
      have hnn : ¬ (k : Int) < n := by omega
      have hfull : l.take k = l := List.take_of_length_le (by have := HR.out.1.1; omega)
      have hbk : Hid (∃ f', feedF ⟨ByteArray.empty, firstM l, 0⟩ s = (l, ⟨ByteArray.empty, f', 0⟩)) := Lib.hid (by have h2 := back_plain (l := l) (by have := H.out.1; rwa [hfull] at this); rwa [← HJ.out, hfull])
      have HLEN := Lib.hid HR.out.1.1
      clear hkn hfull hlt
      have key : (n = 0 ∧ firstM l = false) ∨ (0 < n ∧ ∃ gA oA c, A = some ⟨gA, oA, none⟩ ∧ wr.cell? ⟨gA, oA, none⟩ = some (.int .u8 (UInt8.toNat c)) ∧ firstM l = decide (c = 0)) := by
        by_cases hn0 : n = 0
        · refine .inl ⟨hn0, ?_⟩
          have : l = [] := List.eq_nil_of_length_eq_zero (by have := HLEN.out; omega)
          rw [this]; rfl
        · obtain ⟨gA, oA, m, hA, hm, _, c0, _⟩ := msg_cells (k := 0) (HR.out.1.below H.out.2) (by omega)
          refine .inr ⟨by omega, gA, oA, m.kind, hA, by simpa using c0, ?_⟩
          cases l with
          | nil => simp at hm
          | cons x l => simp at hm; subst hm; rfl
      rcases key with ⟨hn0, hf⟩ | ⟨hn0, gA, oA, c, rfl, c0, hf⟩
      focus
        rw [hf] at hbk
        have hn1 : decide ((0 : Int) < n) = false := decide_eq_false (by omega)
        have hn3 : decide (0 < n) = false := decide_eq_false (by omega)
        clear hf hn0
        go_wp2_with fail
      rotate_left 1
      focus
        have hn1 : decide ((0 : Int) < n) = true := decide_eq_true (by omega)
        have hn3 : decide (0 < n) = true := decide_eq_true (by omega)
        have hnx : (0 : Int) < n := by omega
        by_cases hc : c = 0
        focus
          rw [hf, decide_eq_true hc] at hbk
          have K := kind_zero hc
          clear hf hc
          go_wp2_with fail
        rotate_left 1
        focus
          rw [hf, decide_eq_false hc] at hbk
          have K := kind_not hc
          clear hf hc
          go_wp2_with fail
      all_goals
        refine (New_any _ _).mono ?_
        rintro e w2 ⟨rfl, r2, t2⟩
        have S2 := Lib.hid (And.intro (r2.wide (L' := (200000, w2.heap.size)) (by simp) (Nat.zero_le _)) (t2.below (Nat.le_refl _) (by simp)))
        clear r2 t2
        go_wp2_with fail
        refine (Feed_any S2.out.1 s (show 0 + s.size ≤ 200000 by have := hJ.out; omega) (show 200000 ≤ 1000000 by omega)).mono ?_
        rintro e w3 ⟨v3, rfl, o3, r3, t3⟩
        obtain ⟨f', hf'⟩ := hbk.out
        rw [hf'] at o3 r3 ⊢
        obtain ⟨A3, c3, rfl⟩ := own_slice2 o3
        dsimp only at o3 r3 ⊢
        have B2 := H.out.2.trans (S2.out.2.mono H.out.2.size)
        have B3 := B2.trans (t3.below B2.size (fun i hi => by simp at hi; have := H.out.2.size; omega))
        have SAME : Hid (Calls Try.prog 15 #[.slice _ n cp, .slice A3 l.length c3] w3 fun e w' => e = .returned (.bool true) ∧ Touch [] w3 w') := Lib.hid ((Same_any (HR.out.1.below B3) (RowG.of_own (enc := mC) (k := 2) (fun _ => rfl) (by decide) o3) ⟨by omega, by have := HLEN.out; omega⟩).mono fun _ _ ⟨he, ht⟩ => ⟨by rw [he]; simp, ht⟩)
        have S3 := Lib.hid (And.intro r3 B3)
        clear r3 B2 B3 t3 o3 hf'
        go_wp2_with fail
        refine SAME.out.mono ?_
        rintro e w4 ⟨rfl, t4⟩
        have S4 := Lib.hid (And.intro (S3.out.1.kept0 t4) (S3.out.2.trans (t4.below S3.out.2.size (by simp))))
        clear t4
        go_wp2_with fail
        refine (Rest_any S4.out.1).mono ?_
        rintro e w5 ⟨rfl, rfl⟩
        go_wp2_with fail
        refine (known_any _).mono ?_
        rintro e w5 ⟨rfl, b5⟩
        have S5 := Lib.hid (S4.out.2.trans (b5.mono S4.out.2.size))
        clear b5
        go_wp2_with fail
        go_ret
        exact ⟨rfl, S5.out⟩
end Go.Proofs.Ytkaehhldloclhaa
