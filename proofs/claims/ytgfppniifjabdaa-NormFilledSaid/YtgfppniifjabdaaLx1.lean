/- lexer: run, of any test of a byte. -/
import Derived.Test.YtgfppniifjabdaaLxS
import Derived.Test.YtgfppniifjabdaaProg
import Derived.Lib.Hide
import Derived.Below
import Derived.Tactics
import Derived.WalkKit
import Derived.BigQuiet
import Derived.RowKit
import Derived.RowKit3
import Derived.Deep.LoopGhost
namespace Go.Proofs.Ytgfppniifjabdaa
open Go Go.RowKit

theorem drop_at (s : ByteArray) (k : Nat) (h : k < s.size) : s.data.toList.drop k = s[k] :: s.data.toList.drop (k + 1) := by
  have h' : k < s.data.toList.length := h
  rw [List.drop_eq_getElem_cons h']
  rfl
theorem drop_end (s : ByteArray) (k : Nat) (h : s.size ≤ k) : s.data.toList.drop k = [] := List.drop_of_length_le h
set_option maxHeartbeats 1000000 in
theorem run_any (F : Nat) (p : UInt8 → Bool) (HF : ∀ (c : UInt8) (w : World), Calls Try.prog F #[.int .i32 c.toNat] w fun e w' => e = .returned (.bool (p c)) ∧ Below w.heap.size w w') (HE : ∀ (a : Value) (w : World), Sem.run Try.prog (callFunc F #[a]) w = .ok (.enter F #[a]) w) (s : ByteArray) (hs : s.size ≤ 140737488351232) (w : World) :
    Calls Try.prog 29 #[.string s, .func (.func F) #[] #[]] w fun e w' => e = .returned (.int .i64 (runL p s.data.toList)) ∧ Below w.heap.size w w' := by
  have HC := Lib.hid HF
  have HQ := Lib.hid HE
  clear HF HE
  go_enter Try.func29, Try.ntmps29
  go_wp2_with fail
  go_loopw [8] (fun i wr => ∃ k : Nat, i = .int .i64 k ∧ k ≤ s.size ∧ Hid (runL p (s.data.toList.drop k) + k = runL p s.data.toList) ∧ Hid (Below w.heap.size w wr)) (fun i _ => s.size - (intOf i).toNat)
  case atStart => exact ⟨0, rfl, Nat.zero_le _, Lib.hid rfl, Lib.hid (Below.refl _ _)⟩
  case round =>
    obtain ⟨k, rfl, hk, H, HB⟩ := hrel
    by_cases hlt : k < s.size
    · have hd := Lib.hid (drop_at s k hlt)
      have hn := (s[k]'hlt).toNat_lt
      cases hc : p (s[k]'hlt) with
      | true =>
        have HX : Hid (runL p (s.data.toList.drop (k + 1)) + (k + 1) = runL p s.data.toList) := Lib.hid (by
          rw [← H.out, hd.out]
          show _ = (if p s[k] then _ + 1 else 0) + k
          rw [if_pos hc]
          omega)
        go_wp2_with (simp only [HQ.out]; refine (HC.out (s[k]'hlt) wr).mono ?_; rintro e w1 ⟨rfl, b1⟩; rw [hc])
        go_roundw
        case rel => exact ⟨k + 1, by go_num, hlt, HX, Lib.hid (HB.out.trans (b1.mono HB.out.size))⟩
        case measure => simp [intOf]; omega
      | false =>
        have HX : Hid (k = runL p s.data.toList) := Lib.hid (by
          rw [← H.out, hd.out]
          show k = (if p s[k] then _ + 1 else 0) + k
          rw [if_neg (by rw [hc]; decide)]
          omega)
        go_wp2_with (simp only [HQ.out]; refine (HC.out (s[k]'hlt) wr).mono ?_; rintro e w1 ⟨rfl, b1⟩; rw [hc])
        go_ret
        exact ⟨by rw [← HX.out]; rfl, HB.out.trans (b1.mono HB.out.size)⟩
    · have HX : Hid (s.size = runL p s.data.toList) := Lib.hid (by
        rw [← H.out, drop_end s k (by omega)]
        show s.size = 0 + k
        omega)
      go_wp2_with fail
      go_ret
      exact ⟨by rw [← HX.out]; rfl, HB.out⟩
end Go.Proofs.Ytgfppniifjabdaa
