/- frame: Feed, any; two rows of messages held against one another. -/
import Derived.Test.YtkaehhldloclhaaFrA
import Derived.Test.YtkaehhldloclhaaEqF
namespace Go.Proofs.Ytkaehhldloclhaa
open Go Go.RowKit

theorem Feed_any {w : World} {p : Nat} {L : Nat × Nat} {M : FM} (h : RdE w p M L) (s : ByteArray) (hs : M.left.size + s.size ≤ L.1) (hL : L.1 ≤ 1000000) :
    Calls Try.prog 14 #[.pointer (some ⟨p, 0, none⟩), .string s] w (feedPost w p L (feedF M s)) := by
  by_cases he : M.e = 0
  · exact Feed_ok h s he hs hL
  · exact Feed_bad h s he
instance : DecidableEq Msg := fun a b => decidable_of_iff (a.kind = b.kind ∧ a.body = b.body) (by
  obtain ⟨k, x⟩ := a
  obtain ⟨k', y⟩ := b
  simp)
theorem msg_eqIn (W : World) (k k' : UInt8) (b b' : ByteArray) :
    (Op.equalIn 10000 23 (.agg #[.int .u8 k.toNat, .string b]) (.agg #[.int .u8 k'.toNat, .string b'])).run Try.prog W = .ok (decide (Msg.mk k b = Msg.mk k' b')) W := by
  have hb : decide (Msg.mk k b = Msg.mk k' b') = (((k.toNat : Int) == (k'.toNat : Int)) && (b.toList == b'.toList)) := by
    rw [bytes_beq, Bool.eq_iff_iff]
    simp only [Msg.mk.injEq, decide_eq_true_eq, Bool.and_eq_true, beq_iff_eq]
    constructor
    · rintro ⟨rfl, rfl⟩; exact ⟨rfl, rfl⟩
    · rintro ⟨h1, h2⟩; exact ⟨UInt8.toNat_inj.1 (by omega), h2⟩
  rw [hb]
  have hE : (Op.equalIn 10000 23 (.agg #[.int .u8 k.toNat, .string b]) (.agg #[.int .u8 k'.toNat, .string b'])).run Try.prog W = .ok (((k.toNat : Int) == (k'.toNat : Int)) && ((b.toList == b'.toList) && true)) W := by
    refine eqF_of (d := 9999) Try.underlying23 (by kernel_rfl) ?_
    refine eqF_step (by rfl) (by go_simp; rfl) (by go_simp; rfl) (by go_simp) ?_
    exact eqF_step (by rfl) (by go_simp; rfl) (by go_simp; rfl) (by go_simp) eqF_nil
  rw [hE, Bool.and_true]
theorem msg_neq (W : World) (k k' : UInt8) (b b' : ByteArray) :
    (binOp .neq 23 (.agg #[.int .u8 k.toNat, .string b]) (.agg #[.int .u8 k'.toNat, .string b'])).run Try.prog W = .ok (.bool (!decide (Msg.mk k b = Msg.mk k' b'))) W := by
  rw [run_neq_struct, msg_eqIn]; rfl
set_option maxHeartbeats 1000000 in
theorem Same_any {w : World} {A A' : Option Addr} {n n' cp cp' : Nat} {l l' : List Msg} (h : RowG mC 2 w A n l) (h' : RowG mC 2 w A' n' l') (hc : n ≤ 9000000 ∧ n' ≤ 9000000) :
    Calls Try.prog 15 #[.slice A n cp, .slice A' n' cp'] w fun e w' => e = .returned (.bool (decide (l = l'))) ∧ Touch [] w w' := by
  by_cases hn : n = n'
  · subst hn
    have H := Lib.hid (And.intro h h')
    have hl : Hid (l.length = n ∧ l'.length = n) := Lib.hid ⟨h.1.symm, h'.1.symm⟩
    clear h h'
    go_enter Try.func15, Try.ntmps15
    go_wp2
    go_loopw [5] (fun i wr => ∃ k : Nat, k ≤ n ∧ i = .int .i64 k ∧ Hid (l.take k = l'.take k) ∧ Hid (Touch [] w wr)) (fun i _ => n - (intOf i).toNat)
    case atStart => exact ⟨0, Nat.zero_le _, rfl, Lib.hid rfl, Lib.hid (Touch.refl _ _)⟩
    case round =>
      obtain ⟨k, hk, rfl, hE, hT⟩ := hrel
      by_cases hlt : k < n
      · obtain ⟨g, o, x, rfl, _, hx, _, hs, hcell⟩ := (H.out.1.kept0 hT.out).at hlt
        obtain ⟨g', o', x', rfl, _, hx', _, hs', hcell'⟩ := (H.out.2.kept0 hT.out).at hlt
        obtain ⟨k1, b1⟩ := x
        obtain ⟨k2, b2⟩ := x'
        have c0 := hcell 0 _ rfl
        have c1 := hcell 1 _ rfl
        have c2 := hcell' 0 _ rfl
        have c3 := hcell' 1 _ rfl
        rw [Nat.add_zero] at c0 c2
        have hq := fun W => msg_neq W k1 k2 b1 b2
        by_cases hkk : Msg.mk k1 b1 = Msg.mk k2 b2
        · have hd : decide (Msg.mk k1 b1 = Msg.mk k2 b2) = true := by simpa using hkk
          have hnx : Hid (l.take (k + 1) = l'.take (k + 1)) := Lib.hid (by rw [hs, hs', hE.out, hkk])
          simp only [hd, Bool.not_true] at hq
          clear hkk hd hs hs' hx hx'
          go_wp2
          go_quiet (fail)
          go_wp2
          go_roundw
          case rel => exact ⟨k + 1, by omega, by go_num, hnx, Lib.hid (hT.out.drewN _)⟩
          case measure => simp [intOf]; omega
        · have hd : decide (Msg.mk k1 b1 = Msg.mk k2 b2) = false := by simpa using hkk
          have hne : Hid (decide (l = l') = false) := Lib.hid (by
            simp only [decide_eq_false_iff_not]
            intro e
            subst e
            rw [hx] at hx'
            exact hkk (by cases hx'; rfl))
          simp only [hd, Bool.not_false] at hq
          clear hkk hd hs hs' hx hx'
          go_wp2
          go_quiet (fail)
          go_wp2
          go_ret
          exact ⟨by rw [hne.out]; rfl, hT.out.drewN _⟩
      · have hkn : k = n := by omega
        have hee : Hid (decide (l = l') = true) := Lib.hid (by
          have := hE.out
          rw [hkn, List.take_of_length_le (by rw [hl.out.1]; omega), List.take_of_length_le (by rw [hl.out.2]; omega)] at this
          simpa using this)
        clear hkn
        go_wp2
        go_ret
        exact ⟨by rw [hee.out]; rfl, hT.out⟩
  · have hne : Hid (decide (l = l') = false) := Lib.hid (by
      simp only [decide_eq_false_iff_not]
      intro e
      subst e
      exact hn (h.1.trans h'.1.symm))
    have hb : ((n : Int) != (n' : Int)) = true := by simp; omega
    have hb2 : ((n : Int) == (n' : Int)) = false := by simp; omega
    clear h h'
    go_enter Try.func15, Try.ntmps15
    go_wp2
    go_ret
    exact ⟨by rw [hne.out]; rfl, Touch.refl _ _⟩
end Go.Proofs.Ytkaehhldloclhaa
