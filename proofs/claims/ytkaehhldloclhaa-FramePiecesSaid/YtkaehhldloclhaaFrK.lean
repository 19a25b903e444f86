/- frame: the fixed calls. -/
import Derived.Test.YtkaehhldloclhaaFrB
namespace Go.Proofs.Ytkaehhldloclhaa
open Go Go.RowKit

def kS1 : ByteArray := ⟨#[0, 0, 0, 5, 120, 81, 0, 0]⟩
def kS2 : ByteArray := ⟨#[0, 6, 104, 0, 90]⟩
def kS3 : ByteArray := ⟨#[0, 0, 0, 3]⟩
theorem next_k1 : nextF kS1 true = .msg ⟨0, ⟨#[120]⟩⟩ ⟨#[81, 0, 0]⟩ := by rfl
theorem feed_k1 : feedF ⟨ByteArray.empty, true, 0⟩ kS1 = ([⟨0, ⟨#[120]⟩⟩], ⟨⟨#[81, 0, 0]⟩, false, 0⟩) := by rfl
theorem feed_k2 : feedF ⟨⟨#[81, 0, 0]⟩, false, 0⟩ kS2 = ([⟨81, ⟨#[104, 0]⟩⟩], ⟨⟨#[90]⟩, false, 0⟩) := by rfl
theorem feed_k3 : feedF ⟨⟨#[90]⟩, false, 0⟩ kS3 = ([], ⟨⟨#[90, 0, 0, 0, 3]⟩, false, 4⟩) := by rfl
theorem feed_k4 : feedF ⟨⟨#[90, 0, 0, 0, 3]⟩, false, 4⟩ ⟨#[120]⟩ = ([], ⟨⟨#[90, 0, 0, 0, 3]⟩, false, 4⟩) := by rfl
theorem put_k : putM ⟨81, ⟨#[104, 0]⟩⟩ = ⟨#[81, 0, 0, 0, 6, 104, 0]⟩ := by rfl
def knownT (w : World) (p : Nat) (w' : World) (M : FM) : Prop := RdE w' p M (1000, w'.heap.size) ∧ Below w.heap.size w w' ∧ w.heap.size ≤ p
theorem knownT.next {w w' w'' : World} {p : Nat} {M M' : FM} (h : knownT w p w' M) (r : RdE w'' p M' (1000, w''.heap.size)) (t : Touch [p] w' w'') : knownT w p w'' M' :=
  ⟨r, h.2.1.trans (t.below h.2.1.size (fun i hi => by simp at hi; have := h.2.2; omega)), h.2.2⟩
theorem own_addr {w : World} {base n n' c size : Nat} {e : TypeId} {A : Option Addr} {xs : List Value} (h : w.ownsRow base e size (.slice A n c) n' xs) {a : Addr} (ha : A = some a) : base ≤ a.block := by
  rcases h.2 with ⟨h0, _⟩ | ⟨g, cap, cur, h0, hb, _⟩
  · cases h0; cases ha
  · cases h0; cases ha; exact hb
theorem row_one (W : World) (m : Msg) : RowG mC 2 (W.alloc (.cells #[.int .u8 m.kind.toNat, .string m.body] 23)) (some ⟨W.heap.size, 0, none⟩) 1 [m] := by
  have hnew := heap_alloc_new W (.cells #[.int .u8 m.kind.toNat, .string m.body] 23)
  refine ⟨rfl, .inr ⟨W.heap.size, 0, rfl, by simp, fun j x hj i v hv => ?_⟩⟩
  match j, hj with
  | 0, hj =>
    cases hj
    rw [Nat.zero_mul, Nat.zero_add]
    refine (cell_of hnew i).trans ?_
    match i, hv with
    | 0, hv => exact hv
    | 1, hv => exact hv
set_option maxHeartbeats 2000000 in
theorem known_any (w : World) : Calls Try.prog 12 #[] w fun e w' => e = .returned (.bool true) ∧ Below w.heap.size w w' := by
  go_enter Try.func12, Try.ntmps12
  go_wp2_with fail
  refine (New_any true w).mono ?_
  rintro e w1 ⟨rfl, r1, t1⟩
  generalize hp : w.heap.size = p at *
  have K1 : Hid (knownT w p w1 ⟨ByteArray.empty, true, 0⟩) := Lib.hid ⟨(r1.wide (L' := (1000, w1.heap.size)) (by simp) (Nat.zero_le _)), t1.below (Nat.le_refl _) (by simp), by omega⟩
  clear r1 t1
  go_wp2_with fail
  refine (Feed_any K1.out.1 kS1 (show 0 + 8 ≤ 1000 by omega) (show 1000 ≤ 1000000 by omega)).mono ?_
  rintro e w2 ⟨v2, rfl, o2, r2, t2⟩
  rw [feed_k1] at o2 r2 ⊢
  have K2 := Lib.hid (K1.out.next r2 t2)
  obtain ⟨A2, c2, rfl⟩ := own_slice2 o2
  have F2 : Hid (∀ a, A2 = some a → a.block ∉ [p]) := Lib.hid (fun a ha => by have := own_addr o2 ha; have := K1.out.1.lt; simp; omega)
  have R2 := Lib.hid (RowG.of_own (enc := mC) (k := 2) (fun _ => rfl) (by decide) o2)
  clear o2 r2 t2
  go_wp2_with fail
  refine (Feed_any K2.out.1 kS2 (show 3 + 5 ≤ 1000 by omega) (show 1000 ≤ 1000000 by omega)).mono ?_
  rintro e w3 ⟨v3, rfl, o3, r3, t3⟩
  rw [feed_k2] at o3 r3 ⊢
  have K3 := Lib.hid (K2.out.next r3 t3)
  have Q2 := Lib.hid (R2.out.keptX t3 (.inr F2.out))
  obtain ⟨A3, c3, rfl⟩ := own_slice2 o3
  have F3 : Hid (∀ a, A3 = some a → a.block ∉ [p]) := Lib.hid (fun a ha => by have := own_addr o3 ha; have := K2.out.1.lt; simp; omega)
  have R3 := Lib.hid (RowG.of_own (enc := mC) (k := 2) (fun _ => rfl) (by decide) o3)
  clear o3 r3 t3
  go_wp2_with fail
  refine (Feed_any K3.out.1 kS3 (show 1 + 4 ≤ 1000 by omega) (show 1000 ≤ 1000000 by omega)).mono ?_
  rintro e w4 ⟨v4, rfl, o4, r4, t4⟩
  rw [feed_k3] at o4 r4 ⊢
  have K4 := Lib.hid (K3.out.next r4 t4)
  have Q2a := Lib.hid (Q2.out.keptX t4 (.inr F2.out))
  have Q3a := Lib.hid (R3.out.keptX t4 (.inr F3.out))
  obtain ⟨A4, c4, rfl⟩ := own_slice2 o4
  clear o4 r4 t4
  go_wp2_with fail
  refine (Feed_any K4.out.1 ⟨#[120]⟩ (show 5 + 1 ≤ 1000 by omega) (show 1000 ≤ 1000000 by omega)).mono ?_
  rintro e w5 ⟨v5, rfl, o5, r5, t5⟩
  rw [feed_k4] at o5 r5 ⊢
  have K5 := Lib.hid (K4.out.next r5 t5)
  have Q2b := Lib.hid (Q2a.out.keptX t5 (.inr F2.out))
  have Q3b := Lib.hid (Q3a.out.keptX t5 (.inr F3.out))
  obtain ⟨A5, c5, rfl⟩ := own_slice2 o5
  clear o5 r5 t5 Q2a Q3a Q2 R2 R3 K1 K2 K3 K4
  go_wp2_with fail
  have tn := (Touch.refl [] w5).alloc (.cells #[.int .u8 0, .string ⟨#[120]⟩] 23)
  refine (Same_any (Q2b.out.kept0 tn) (row_one w5 ⟨0, ⟨#[120]⟩⟩) ⟨by decide, by decide⟩).mono ?_
  rintro e w6 ⟨rfl, t6⟩
  have T6 := Lib.hid (tn.trans t6 (by simp))
  have Q3c := Lib.hid (Q3b.out.kept0 T6.out)
  have K6 := Lib.hid (K5.out.next ((K5.out.1.kept0 T6.out).top (Nat.le_refl _)) (T6.out.mono (by simp)))
  clear tn t6 T6 Q2b Q3b K5
  go_wp2_with fail
  have tn := (Touch.refl [] w6).alloc (.cells #[.int .u8 81, .string ⟨#[104, 0]⟩] 23)
  refine (Same_any (Q3c.out.kept0 tn) (row_one w6 ⟨81, ⟨#[104, 0]⟩⟩) ⟨by decide, by decide⟩).mono ?_
  rintro e w7 ⟨rfl, t7⟩
  have T7 := Lib.hid (tn.trans t7 (by simp))
  have K7 := Lib.hid (K6.out.next ((K6.out.1.kept0 T7.out).top (Nat.le_refl _)) (T7.out.mono (by simp)))
  clear tn t7 T7 Q3c K6
  go_wp2_with fail
  refine (Bad_any K7.out.1).mono ?_
  rintro e w8 ⟨rfl, rfl⟩
  go_wp2_with fail
  refine (Rest_any K7.out.1).mono ?_
  rintro e w8 ⟨rfl, rfl⟩
  go_wp2_with fail
  refine (Put_any ⟨81, ⟨#[104, 0]⟩⟩ _ (show 2 ≤ 140737488351232 by omega)).mono ?_
  rintro e w8 ⟨rfl, t8⟩
  rw [put_k]
  go_wp2_with fail
  refine (Right_any ⟨0, ⟨#[]⟩⟩ _ (show 0 ≤ 140737488351232 by omega)).mono ?_
  rintro e w9 ⟨rfl, t9⟩
  go_wp2_with fail
  refine (Right_any ⟨1, ⟨#[]⟩⟩ _ (show 0 ≤ 140737488351232 by omega)).mono ?_
  rintro e w10 ⟨rfl, t10⟩
  go_wp2_with fail
  go_ret
  have K10 := K7.out.2.1.trans (((t8.trans t9 (by simp)).trans t10 (by simp)).below K7.out.2.1.size (by simp))
  exact ⟨rfl, K10⟩
end Go.Proofs.Ytkaehhldloclhaa
