/- OctetBack's walk: what was put is got. -/
import Derived.Test.YtjmgookpmngmaaaOctBackPlain
namespace Go.Proofs.Ytjmgookpmngmaaa
open Go.RowKit Go.Proofs.Ytjmgookpmngmaaa.Pr Go.Proofs.YtjmgookpmngmaaaW.PrintWords Go.Proofs.YtjmgookpmngmaaaW.PrintLast

theorem known_any (w : World) : Calls Try.prog 14 #[] w fun e w' => e = .returned (.bool true) ∧ Below w.heap.size w w' :=
  pontoonlaw01_known.calls true w Pure.known_true

set_option maxHeartbeats 1000000 in
theorem back_any (s t : ByteArray) (x y : Int) (w : World) (hs : s.size ≤ 140737488351232) (ht : t.size ≤ 140737488351232) (hy : -2147483648 ≤ y ∧ y ≤ 2147483647) :
    Calls Try.prog 5 #[.string s, .agg #[.int .i32 x, .int .i32 y], .string t] w fun e w' => e = .returned (.bool true) ∧ Below w.heap.size w w' := by
  go_enter Try.func5, Try.ntmps5
  go_wp2_with fail
  have ha : -32768 ≤ IntKind.i16.wrap x ∧ IntKind.i16.wrap x ≤ 32767 := by
    simp only [IntKind.wrap, IntKind.bits, IntKind.signed]
    simp
    split <;> omega
  generalize IntKind.i16.wrap x = a at ha ⊢
  have hb : Below w.heap.size w (w.alloc (Obj.cells #[.int .i32 x, .int .i32 y] 33)) := (Below.refl _ _).alloc (Nat.le_refl _) _
  generalize w.alloc (Obj.cells #[.int .i32 x, .int .i32 y] 33) = w1 at hb ⊢
  have hsz : t.data.size = t.size := rfl
  go_loop [9] (fun i => ∃ k : Nat, k ≤ t.size ∧ i = .int .i64 k ∧ Hid (∀ j (_ : j < k) (h : j < t.data.toList.length), t.data.toList[j] ≠ 0)) (fun i => t.size - (intOf i).toNat)
  case atStart => exact ⟨0, Nat.zero_le _, rfl, Lib.hid (fun j hj => by omega)⟩
  case round =>
    obtain ⟨k, hk, rfl, hno⟩ := hrel
    by_cases hlt : k < t.size
    · have Hb := Lib.hid (byte_at t k hlt)
      by_cases h0 : t[k] = 0
      · have h1 : ((t[k].toNat : Int) == 0) = true := by rw [h0]; rfl
        go_wp2_with (go_at_call 14; refine (known_any _).mono ?_; rintro e w2 ⟨rfl, hb2⟩)
        go_ret
        exact ⟨rfl, hb.trans (hb2.mono hb.size)⟩
      · have h1 : ((t[k].toNat : Int) == 0) = false := by
          rw [beq_eq_false_iff_ne]
          intro h
          exact h0 (UInt8.toNat_inj.1 (by simpa using h))
        have hn : Hid (∀ j (_ : j < k + 1) (h : j < t.data.toList.length), t.data.toList[j] ≠ 0) := Lib.hid (fun j hj h => by
          by_cases e : j = k
          · subst e; rw [← Hb.out]; exact h0
          · exact hno.out j (by omega) h)
        go_wp2
        go_round
        case rel => exact ⟨k + 1, by omega, by go_num, hn⟩
        case measure => simp [intOf]; omega
    · have hend : endF t.data.toList = none := endF_none (fun j hj => hno.out j (by simp at hj; omega) hj)
      obtain ⟨hz, g1, g2, g3, g4⟩ := Pure.back_plain s t a y ha hy hend _ rfl
      have z1 : (putF s a 2).size = s.size + 2 := Pure.putF_size _ _ _
      have z2 : (putF (putF s a 2) y 4).size = s.size + 2 + 4 := by rw [Pure.putF_size, z1]
      generalize hA : putF s a 2 = A at hz g1 g2 g3 g4 z1 z2 ⊢
      generalize hB : putF A y 4 = B at hz g1 g2 g3 g4 z2 ⊢
      generalize hC : putTextF B t = C at hz g1 g2 g3 g4 ⊢
      have HA := Lib.hid hA; have HB := Lib.hid hB; have HC := Lib.hid hC
      have G1 := Lib.hid g1; have G2 := Lib.hid g2; have G3 := Lib.hid g3; have G4 := Lib.hid g4
      have Z1 : A.size ≤ s.size + 2 := by omega
      have Z2 : B.size ≤ s.size + 6 := by omega
      have Z3 : C.size ≤ s.size + t.size + 7 := by omega
      have Z4 := Lib.hid hz
      clear hA hB hC g1 g2 g3 g4 hz z1 z2 hend hsz
      go_wp2_with fail
      refine (Put16_any s a _ (by omega)).mono ?_
      rintro e w2 ⟨rfl, hb2⟩
      rw [HA.out]
      go_wp2_with fail
      refine (Put32_any A y _ (by omega)).mono ?_
      rintro e w3 ⟨rfl, hb3⟩
      rw [HB.out]
      go_wp2_with fail
      refine (PutText_any B t _ (by omega)).mono ?_
      rintro e w4 ⟨rfl, rfl⟩
      rw [HC.out]
      go_wp2_with fail
      refine (Get16_any C s.size _ (by omega) (by omega)).mono ?_
      rintro e w4 ⟨rfl, hb4⟩
      rw [G1.out]; simp only [numV]
      go_wp2_with fail
      refine (Get32_any C ((s.size : Int) + 2) _ (by omega) (by omega)).mono ?_
      rintro e w5 ⟨rfl, hb5⟩
      rw [G2.out]; simp only [numV]
      go_wp2_with fail
      refine (GetText_any C ((s.size : Int) + 6) _ (by omega) (by omega)).mono ?_
      rintro e w6 ⟨rfl, rfl⟩
      rw [G3.out]; simp only [got3V]
      go_wp2_with fail
      refine (GetBytes_any C 0 s.size _ (by omega) (by omega) (by omega)).mono ?_
      rintro e w6 ⟨rfl, hb6⟩
      rw [G4.out]; simp only [got3V]
      have hz1 : (((s.size : Int) + t.size + 7) == (C.size : Int)) = true := by rw [Z4.out]; simp
      go_wp2_with fail
      refine (known_any _).mono ?_
      rintro e w7 ⟨rfl, hb7⟩
      go_wp2
      go_ret
      exact ⟨rfl, hb.trans ((hb2.trans ((hb3.trans ((hb4.trans ((hb5.trans ((hb6.trans (hb7.mono hb6.size)).mono hb5.size)).mono hb4.size)).mono hb3.size)).mono hb2.size)).mono hb.size)⟩
end Go.Proofs.Ytjmgookpmngmaaa
