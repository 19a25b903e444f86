/- frame: Right, Put. -/
import Derived.Test.YtkaehhldloclhaaFr2
import Derived.Laws.Runes
import Derived.Deep.RegionHeld3
namespace Go.Proofs.Ytkaehhldloclhaa
open Go Go.RowKit

def rightF (m : Msg) : Bool := (decide (m.kind = 0) || printable m.kind) && decide (m.body.size + 4 ≤ 4096)
def headB (c : UInt8) : ByteArray := if c = 0 then ByteArray.empty else ⟨#[c]⟩
def putM (m : Msg) : ByteArray := if rightF m then headB m.kind ++ (putF ByteArray.empty ((m.body.size : Int) + 4) 4 ++ m.body) else ByteArray.empty
def msgV (m : Msg) : Value := .agg #[.int .u8 m.kind.toNat, .string m.body]
theorem kind_zero {c : UInt8} (h : c = 0) : ((c.toNat : Int) == 0) = true := by rw [h]; rfl
theorem kind_not {c : UInt8} (h : c ≠ 0) : ((c.toNat : Int) == 0) = false := by
  rw [beq_eq_false_iff_ne]
  intro e
  exact h (UInt8.toNat_inj.1 (by simpa using e))
theorem printable_zero : printable 0 = false := by decide
theorem encode_small (c : UInt8) (h : printable c = true) : Utf8.encode (c.toNat : Int) = ⟨#[c]⟩ := by
  simp only [printable, Bool.and_eq_true, decide_eq_true_eq] at h
  have hv : Utf8.valid (c.toNat : Int) = true := by simp [Utf8.valid]; omega
  unfold Utf8.encode
  rw [if_pos hv, Int.toNat_natCast, if_pos (by omega)]
  show ByteArray.mk #[UInt8.ofNat c.toNat] = _
  rw [UInt8.ofNat_toNat]
set_option maxHeartbeats 400000 in
theorem Right_any (m : Msg) (w : World) (hs : m.body.size ≤ 140737488351232) :
    Calls Try.prog 8 #[msgV m] w fun e w' => e = .returned (.bool (rightF m)) ∧ Touch [] w w' := by
  obtain ⟨k, b⟩ := m
  dsimp only at hs
  have ta : Touch [] w (w.alloc (.cells #[.int .u8 k.toNat, .string b] 23)) := (Touch.refl _ _).alloc _
  have TA := Lib.hid ta; clear ta
  by_cases h0 : k = 0
  · have K := kind_zero h0
    by_cases hb : b.size + 4 ≤ 4096
    · have hp : Hid (rightF ⟨k, b⟩ = true) := Lib.hid (by simp [rightF, h0, hb])
      clear h0
      unfold msgV
      go_enter Try.func8, Try.ntmps8
      go_wp2_with fail
      go_ret
      exact ⟨by rw [hp.out]; simp <;> omega, TA.out⟩
    · have hp : Hid (rightF ⟨k, b⟩ = false) := Lib.hid (by simp [rightF, hb])
      clear h0
      unfold msgV
      go_enter Try.func8, Try.ntmps8
      go_wp2_with fail
      go_ret
      exact ⟨by rw [hp.out]; simp <;> omega, TA.out⟩
  · have K := kind_not h0
    cases hpr : printable k with
    | true =>
      have hP := printable_any k; rw [hpr] at hP
      have HP := Lib.hid hP; clear hP
      by_cases hb : b.size + 4 ≤ 4096
      · have hp : Hid (rightF ⟨k, b⟩ = true) := Lib.hid (by simp [rightF, hpr, hb])
        clear h0 hpr
        unfold msgV
        go_enter Try.func8, Try.ntmps8
        go_wp2_with (go_at_call 20; refine (HP.out _).mono ?_; rintro e w1 ⟨rfl, rfl⟩)
        go_ret
        exact ⟨by rw [hp.out]; simp <;> omega, TA.out⟩
      · have hp : Hid (rightF ⟨k, b⟩ = false) := Lib.hid (by simp [rightF, hb])
        clear h0 hpr
        unfold msgV
        go_enter Try.func8, Try.ntmps8
        go_wp2_with (go_at_call 20; refine (HP.out _).mono ?_; rintro e w1 ⟨rfl, rfl⟩)
        go_ret
        exact ⟨by rw [hp.out]; simp <;> omega, TA.out⟩
    | false =>
      have hP := printable_any k; rw [hpr] at hP
      have HP := Lib.hid hP; clear hP
      have hp : Hid (rightF ⟨k, b⟩ = false) := Lib.hid (by simp [rightF, hpr, h0])
      clear h0 hpr
      unfold msgV
      go_enter Try.func8, Try.ntmps8
      go_wp2_with (go_at_call 20; refine (HP.out _).mono ?_; rintro e w1 ⟨rfl, rfl⟩)
      go_ret
      exact ⟨by rw [hp.out]; rfl, TA.out⟩
set_option maxHeartbeats 1000000 in
theorem Put_any (m : Msg) (w : World) (hs : m.body.size ≤ 140737488351232) :
    Calls Try.prog 10 #[msgV m] w fun e w' => e = .returned (.string (putM m)) ∧ Touch [] w w' := by
  have hR := fun w => Right_any m w hs
  obtain ⟨k, b⟩ := m
  dsimp only at hs
  have ta : Touch [] w (w.alloc (.cells #[.int .u8 k.toNat, .string b] 23)) := (Touch.refl _ _).alloc _
  have hg : (w.alloc (.cells #[.int .u8 k.toNat, .string b] 23)).heap[w.heap.size]? = some (.cells #[.int .u8 k.toNat, .string b] 23 (0, 0)) := heap_alloc_new w _
  have c0 : (w.alloc (.cells #[.int .u8 k.toNat, .string b] 23)).cell? ⟨w.heap.size, 0, none⟩ = some (.int .u8 k.toNat) := by rw [cell_of hg]; rfl
  have c1 : (w.alloc (.cells #[.int .u8 k.toNat, .string b] 23)).cell? ⟨w.heap.size, 1, none⟩ = some (.string b) := by rw [cell_of hg]; rfl
  have TA := Lib.hid ta; clear ta hg
  unfold msgV at *
  cases hr : rightF ⟨k, b⟩ with
  | false =>
    rw [hr] at hR
    have HR := Lib.hid hR; clear hR
    have hp : Hid (putM ⟨k, b⟩ = ByteArray.empty) := Lib.hid (by simp [putM, hr])
    clear hr
    go_enter Try.func10, Try.ntmps10
    go_wp2_with (go_at_call 8; refine (HR.out _).mono ?_; rintro e w1 ⟨rfl, t1⟩)
    go_ret
    exact ⟨by rw [hp.out]; rfl, TA.out.trans t1 (by simp)⟩
  | true =>
    rw [hr] at hR
    have HR := Lib.hid hR; clear hR
    have hb : b.size ≤ 4092 := by simp [rightF] at hr; omega
    have hp : Hid (putM ⟨k, b⟩ = headB k ++ (putF ByteArray.empty ((b.size : Int) + 4) 4 ++ b)) := Lib.hid (by simp [putM, hr])
    have hz : (putF ByteArray.empty ((b.size : Int) + 4) 4).size = 4 := by rw [putF, ByteArray.size_append, strOfNums_size, beBytes_length]; rfl
    have hwr : IntKind.i64.wrap ((b.size : Int) + 4) = (b.size : Int) + 4 := by rw [IntKind.wrap_i64]; omega
    have hP : ∀ w, Calls Try.prog 21 #[.string ⟨#[]⟩, .int .i64 (IntKind.i64.wrap ((b.size : Int) + 4))] w fun e w' => e = .returned (.string (putF ByteArray.empty ((b.size : Int) + 4) 4)) ∧ Below w.heap.size w w' := fun w => by
      rw [hwr]
      exact Put32_any ByteArray.empty ((b.size : Int) + 4) w (by simp)
    clear hwr
    generalize putF ByteArray.empty ((b.size : Int) + 4) 4 = x at hz hP hp
    have HP := Lib.hid hP; clear hP
    have hx : x.size ≤ 4 := by omega
    have hsum : x.size + b.size ≤ 9223372036854775807 := by omega
    have hsum1 : 1 + (x.size + b.size) ≤ 9223372036854775807 := by omega
    clear hz
    go_enter Try.func10, Try.ntmps10
    go_wp2_with (go_at_call 8; refine (HR.out _).mono ?_; rintro e w1 ⟨rfl, t1⟩; have d0 := t1.cell c0 (by simp); have d1 := t1.cell c1 (by simp); have TB := Lib.hid (TA.out.trans t1 (by simp)); clear t1 c0 c1)
    generalize w.heap.size = g at *
    by_cases h0 : k = 0
    · have K : ((k.toNat : Int) != 0) = false := by rw [bne, kind_zero h0]; rfl
      have hh : Hid (headB k ++ (x ++ b) = x ++ b) := Lib.hid (by simp [headB, h0])
      clear h0 hr
      go_region_with
        (first | (go_at_call 21; refine (HP.out _).mono ?_; rintro e w5 ⟨rfl, b5⟩; have T5 := Touch.of_below b5; have u0 := T5.cell d0 (by simp); have u1 := T5.cell d1 (by simp); have TC := Lib.hid (TB.out.drew.trans T5 (by simp)); clear b5 T5))
      all_goals
        clear d0 d1
        go_wp2_with fail
        go_ret
        exact ⟨by rw [hp.out, hh.out]; rfl, TC.out⟩
    · have K : ((k.toNat : Int) != 0) = true := by rw [bne, kind_not h0]; rfl
      have hpr : printable k = true := by simp [rightF, h0] at hr; exact hr.1
      have hh : Hid (headB k = ⟨#[k]⟩) := Lib.hid (by simp [headB, h0])
      have he := encode_small k hpr
      have hw : IntKind.i32.wrap (k.toNat : Int) = (k.toNat : Int) := by
        have := k.toNat_lt
        simp only [IntKind.wrap, IntKind.bits, IntKind.signed]
        simp
        omega
      have hk1 : (ByteArray.mk #[k]).size = 1 := rfl
      have H3 := Lib.hid (And.intro he (And.intro hw hk1)); clear he hw hk1
      clear h0 hr hpr
      go_region_with
        (first | (go_at_call 21; refine (HP.out _).mono ?_; rintro e w5 ⟨rfl, b5⟩; have T5 := Touch.of_below b5; have u0 := T5.cell d0 (by simp); have u1 := T5.cell d1 (by simp); have TC := Lib.hid (TB.out.drew.trans T5 (by simp)); clear b5 T5))
      all_goals
        clear d0 d1
        obtain ⟨he, hw, hk1⟩ := H3.out
        go_wp2_with fail
        go_ret
        exact ⟨by rw [hp.out, hh.out]; rfl, TC.out⟩
end Go.Proofs.Ytkaehhldloclhaa
