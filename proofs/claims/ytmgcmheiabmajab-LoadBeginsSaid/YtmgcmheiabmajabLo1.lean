/- load: what is drawn, in plain words; draw and digit. -/
import Derived.Test.YtmgcmheiabmajabPax
import Derived.Test.YtmgcmheiabmajabHeap
import Derived.Laws.Runes
import Derived.WalkKit
import Derived.WalkSpells
import Derived.Outline
import Derived.Lib.Hide
import Derived.IntWalk
import Derived.BigQuiet
import Derived.Deep.QuietTactic
namespace Go.Proofs.Ytmgcmheiabmajab
open Go Go.RowKit

/-- A number's next one; what is drawn below n. -/
def nx (x : Int) : Int := IntKind.u64.wrap (IntKind.u64.wrap (x * 6364136223846793005) + 1442695040888963407)
def dr (x n : Int) : Int := (nx x / 281474976710656) % n
theorem u64_wrap (y : Int) : 0 ≤ IntKind.u64.wrap y ∧ IntKind.u64.wrap y < 18446744073709551616 := by
  have e : IntKind.u64.wrap y = y % 18446744073709551616 := by simp [IntKind.wrap, IntKind.bits, IntKind.signed]
  rw [e]
  omega
theorem nx_bound (x : Int) : 0 ≤ nx x ∧ nx x < 18446744073709551616 := u64_wrap _
theorem dr_bound (x : Int) {n : Int} (h : 1 ≤ n) : 0 ≤ dr x n ∧ dr x n < n := ⟨Int.emod_nonneg _ (by omega), Int.emod_lt_of_pos _ (by omega)⟩
theorem draw_f (x n : Int) (h1 : 1 ≤ n) (h2 : n ≤ 65536) : Pa.load_Draw.f x n = some (dr x n, nx x) := by
  unfold Pa.load_Draw.f
  have e : Pa.load_Next.f x = some (nx x) := rfl
  have hb := nx_bound x
  rw [if_neg (by omega), if_neg (by omega), e, Option.bind_some, if_neg (by omega), IntWalk.wrap64_in _ (by omega), Int.tmod_eq_emod_of_nonneg (by omega)]
  rfl
theorem rdraw_f (x n : Int) (h1 : 1 ≤ n) (h2 : n ≤ 65536) : Pa.pontoonref30_Draw.f x n = some (dr x n, nx x) := by
  unfold Pa.pontoonref30_Draw.f
  have e : Pa.pontoonref30_Next.f x = some (nx x) := rfl
  have hb := nx_bound x
  rw [if_neg (by omega), if_neg (by omega), e, Option.bind_some, if_neg (by omega), IntWalk.wrap64_in _ (by omega), Int.tmod_eq_emod_of_nonneg (by omega)]
  rfl
def MkB (w : World) (g : Nat) (x c : Int) : Prop := w.heap[g]? = some (.cells #[.int .u64 x, .int .i64 c] 42 (0, 0))
def StB (w : World) (g : Nat) (x : Int) : Prop := w.heap[g]? = some (.cells #[.int .u64 x] 46 (0, 0))
set_option maxHeartbeats 400000 in
theorem draw_any {w : World} {g : Nat} {x c : Int} (h : MkB w g x c) (n : Int) (h1 : 1 ≤ n) (h2 : n ≤ 65536) :
    Calls Try.prog 22 #[.pointer (some ⟨g, 0, none⟩), .int .i64 n] w fun e w' => e = .returned (.int .i64 (dr x n)) ∧ MkB w' g (nx x) c ∧ Touch [g] w w' := by
  unfold MkB at h
  have c0 : w.cell? ⟨g, 0, none⟩ = some (.int .u64 x) := by rw [cell_of h]; rfl
  have HD := Lib.hid (fun w => Pa.load_Draw.calls x n _ _ w (draw_f x n h1 h2))
  have H := Lib.hid h
  clear h h1 h2
  go_enter Try.func22, Try.ntmps22
  go_wp2_with fail
  refine (HD.out _).mono ?_
  rintro e w1 ⟨rfl, nd, rfl⟩
  have h1 : (w.drewN nd).heap[g]? = _ := H.out
  have f0 := frozen_of h1 0
  have d0 : (w.drewN nd).cell? ⟨g, 0, none⟩ = some (.int .u64 x) := c0
  have K : Hid (MkB ((w.drewN nd).setCell ⟨g, 0, none⟩ (.int .u64 (nx x))) g (nx x) c ∧ Touch [g] w ((w.drewN nd).setCell ⟨g, 0, none⟩ (.int .u64 (nx x)))) := Lib.hid ⟨(block_set h1 _).trans rfl, ((Touch.refl _ _).drewN _).setCell _ (.inl (by simp))⟩
  clear h1
  generalize w.drewN nd = w2 at *
  go_wp2_with fail
  go_ret
  exact ⟨rfl, K.out⟩
set_option maxHeartbeats 400000 in
theorem rdraw_any {w : World} {g : Nat} {x : Int} (h : StB w g x) (n : Int) (h1 : 1 ≤ n) (h2 : n ≤ 65536) :
    Calls Try.prog 27 #[.pointer (some ⟨g, 0, none⟩), .int .i64 n] w fun e w' => e = .returned (.int .i64 (dr x n)) ∧ StB w' g (nx x) ∧ Touch [g] w w' := by
  unfold StB at h
  have c0 : w.cell? ⟨g, 0, none⟩ = some (.int .u64 x) := by rw [cell_of h]; rfl
  have HD := Lib.hid (fun w => Pa.pontoonref30_Draw.calls x n _ _ w (rdraw_f x n h1 h2))
  have H := Lib.hid h
  clear h h1 h2
  go_enter Try.func27, Try.ntmps27
  go_wp2_with fail
  refine (HD.out _).mono ?_
  rintro e w1 ⟨rfl, nd, rfl⟩
  have h1 : (w.drewN nd).heap[g]? = _ := H.out
  have f0 := frozen_of h1 0
  have d0 : (w.drewN nd).cell? ⟨g, 0, none⟩ = some (.int .u64 x) := c0
  have K : Hid (StB ((w.drewN nd).setCell ⟨g, 0, none⟩ (.int .u64 (nx x))) g (nx x) ∧ Touch [g] w ((w.drewN nd).setCell ⟨g, 0, none⟩ (.int .u64 (nx x)))) := Lib.hid ⟨(block_set h1 _).trans rfl, ((Touch.refl _ _).drewN _).setCell _ (.inl (by simp))⟩
  clear h1
  generalize w.drewN nd = w2 at *
  go_wp2_with fail
  go_ret
  exact ⟨rfl, K.out⟩
/-- A number below 10 as a text. -/
def dg (k : Int) : ByteArray := ⟨#[UInt8.ofNat (48 + k).toNat]⟩
theorem encode_digit (k : Int) (h0 : 0 ≤ k) (h1 : k < 10) : Utf8.encode (48 + k) = dg k := by
  have hv : Utf8.valid (48 + k) = true := by simp [Utf8.valid]; omega
  unfold Utf8.encode dg
  rw [if_pos hv, if_pos (by omega)]
set_option maxHeartbeats 400000 in
theorem digit_any {w : World} {g : Nat} {x c : Int} (h : MkB w g x c) (n : Int) (h1 : 1 ≤ n) (h2 : n ≤ 10) :
    Calls Try.prog 25 #[.pointer (some ⟨g, 0, none⟩), .int .i64 n] w fun e w' => e = .returned (.string (dg (dr x n))) ∧ MkB w' g (nx x) c ∧ Touch [g] w w' := by
  have HD := Lib.hid (draw_any h n h1 (by omega))
  have hb := dr_bound x h1
  have he := encode_digit (dr x n) hb.1 (by omega)
  have hw : IntKind.i32.wrap (dr x n) = dr x n := by simp only [IntKind.wrap, IntKind.bits, IntKind.signed]; simp; omega
  have hw2 : IntKind.i32.wrap (48 + dr x n) = 48 + dr x n := by simp only [IntKind.wrap, IntKind.bits, IntKind.signed]; simp; omega
  clear h h1 h2 hb
  generalize dr x n = k at *
  generalize dg k = s at *
  go_enter Try.func25, Try.ntmps25
  go_wp2_with fail
  refine HD.out.mono ?_
  rintro e w1 ⟨rfl, b1, t1⟩
  have K := Lib.hid (And.intro b1 t1)
  clear b1 t1
  go_wp2_with fail
  go_ret
  exact ⟨rfl, K.out⟩
end Go.Proofs.Ytmgcmheiabmajab
