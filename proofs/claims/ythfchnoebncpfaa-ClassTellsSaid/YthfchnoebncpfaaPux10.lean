-- Written by a program of this session's (wip/ext/run.py) over the kit's print, with contracts of its own.
import Derived.Test.YthfchnoebncpfaaPux0
import Derived.Test.YthfchnoebncpfaaPux8
import Derived.Test.YthfchnoebncpfaaPux9
namespace Go.Proofs.Ythfchnoebncpfaa.Pu
open Go Go.Maps Go.Proofs.Ythfchnoebncpfaa Go.RowKit Go.Proofs.YthfchnoebncpfaaW.PrintWords Go.Proofs.YthfchnoebncpfaaW.PrintLast Go.Proofs.YthfchnoebncpfaaW.PrintMore
attribute [local go_sem] max2_int min2_int max_two min_two max_three min_three max_four min_four   -- for this text's walks alone
set_option linter.unusedVariables false
set_option linter.unusedSimpArgs false

/-! ### pontoonref06_Of: function 11 -/
mutual
def pontoonref06_Of.j0 : Nat → List (S33) → ByteArray → Bool → Option (Int)
  | 0, _, _, _ => none
  | k + 1, x0, x7, x8 => if x8 = true then ((pontoonref06_writes.f k x0).bind fun t215 => (if t215 = true then (some 2) else ((pontoonref06_Locks.f k x0).bind fun t216 => (if t216 = true then (some 7) else ((pontoonref06_system.f k x0).bind fun t217 => (if t217 = true then (some 7) else ((pontoonref06_Calls.f k x0 (([(⟨#[110, 111, 119]⟩ : ByteArray), (⟨#[114, 97, 110, 100, 111, 109]⟩ : ByteArray), (⟨#[110, 101, 120, 116, 118, 97, 108]⟩ : ByteArray), (⟨#[99, 117, 114, 114, 118, 97, 108]⟩ : ByteArray), (⟨#[115, 101, 116, 118, 97, 108]⟩ : ByteArray), (⟨#[108, 97, 115, 116, 118, 97, 108]⟩ : ByteArray), (⟨#[99, 108, 111, 99, 107, 95, 116, 105, 109, 101, 115, 116, 97, 109, 112]⟩ : ByteArray), (⟨#[116, 120, 105, 100, 95, 99, 117, 114, 114, 101, 110, 116]⟩ : ByteArray)] : List ByteArray))).bind fun t221 => (if t221 = true then (some 7) else (some 1))))))))) else (if x7.toList = ([105, 110, 115, 101, 114, 116] : List UInt8) then (pontoonref06_Of.j1 k x0 x7 (x7.toList == ([105, 110, 115, 101, 114, 116] : List UInt8))) else (if x7.toList = ([117, 112, 100, 97, 116, 101] : List UInt8) then (pontoonref06_Of.j1 k x0 x7 (x7.toList == ([117, 112, 100, 97, 116, 101] : List UInt8))) else (if x7.toList = ([100, 101, 108, 101, 116, 101] : List UInt8) then (pontoonref06_Of.j1 k x0 x7 (x7.toList == ([100, 101, 108, 101, 116, 101] : List UInt8))) else (if x7.toList = ([116, 114, 117, 110, 99, 97, 116, 101] : List UInt8) then (pontoonref06_Of.j1 k x0 x7 (x7.toList == ([116, 114, 117, 110, 99, 97, 116, 101] : List UInt8))) else (pontoonref06_Of.j1 k x0 x7 (x7.toList == ([109, 101, 114, 103, 101] : List UInt8)))))))
def pontoonref06_Of.j1 : Nat → List (S33) → ByteArray → Bool → Option (Int)
  | 0, _, _, _ => none
  | k + 1, x0, x7, x26 => if x26 = true then (some 2) else (if x7.toList = ([98, 101, 103, 105, 110] : List UInt8) then (some 3) else (if x7.toList = ([115, 116, 97, 114, 116] : List UInt8) then ((pontoonref06_word.f x0 1).bind fun t222 => (if t222.toList = ([116, 114, 97, 110, 115, 97, 99, 116, 105, 111, 110] : List UInt8) then (some 3) else (some 8))) else (if x7.toList = ([99, 111, 109, 109, 105, 116] : List UInt8) then (pontoonref06_Of.j2 k x0 x7 (x7.toList == ([99, 111, 109, 109, 105, 116] : List UInt8))) else (pontoonref06_Of.j2 k x0 x7 (x7.toList == ([101, 110, 100] : List UInt8))))))
def pontoonref06_Of.j2 : Nat → List (S33) → ByteArray → Bool → Option (Int)
  | 0, _, _, _ => none
  | k + 1, x0, x7, x39 => if x39 = true then (some 4) else (if x7.toList = ([114, 111, 108, 108, 98, 97, 99, 107] : List UInt8) then (pontoonref06_Of.j3 k x0 x7 (x7.toList == ([114, 111, 108, 108, 98, 97, 99, 107] : List UInt8))) else (pontoonref06_Of.j3 k x0 x7 (x7.toList == ([97, 98, 111, 114, 116] : List UInt8))))
def pontoonref06_Of.j3 : Nat → List (S33) → ByteArray → Bool → Option (Int)
  | 0, _, _, _ => none
  | k + 1, x0, x7, x42 => if x42 = true then ((pontoonref06_Has.f k x0 (([(⟨#[116, 111]⟩ : ByteArray)] : List ByteArray))).bind fun t226 => (if t226 = true then (some 8) else (some 5))) else (if x7.toList = ([115, 101, 116] : List UInt8) then (some 6) else (if x7.toList = ([114, 101, 115, 101, 116] : List UInt8) then (some 6) else (if x7.toList = ([100, 105, 115, 99, 97, 114, 100] : List UInt8) then (some 6) else (if x7.toList = ([108, 105, 115, 116, 101, 110] : List UInt8) then (some 6) else (if x7.toList = ([117, 110, 108, 105, 115, 116, 101, 110] : List UInt8) then (some 6) else (if x7.toList = ([112, 114, 101, 112, 97, 114, 101] : List UInt8) then (some 6) else (if x7.toList = ([100, 101, 97, 108, 108, 111, 99, 97, 116, 101] : List UInt8) then (some 6) else (if x7.toList = ([100, 101, 99, 108, 97, 114, 101] : List UInt8) then (some 6) else (if x7.toList = ([108, 111, 97, 100] : List UInt8) then (some 6) else (some 8))))))))))
end
def pontoonref06_Of.f (k : Nat) (l0 : List (S33)) : Option (Int) := if (l0.length : Int) = 0 then (some 0) else ((pontoonref06_word.f l0 0).bind fun t214 => (if t214.toList = ([115, 101, 108, 101, 99, 116] : List UInt8) then (pontoonref06_Of.j0 k l0 t214 (t214.toList == ([115, 101, 108, 101, 99, 116] : List UInt8))) else (if t214.toList = ([118, 97, 108, 117, 101, 115] : List UInt8) then (pontoonref06_Of.j0 k l0 t214 (t214.toList == ([118, 97, 108, 117, 101, 115] : List UInt8))) else (if t214.toList = ([116, 97, 98, 108, 101] : List UInt8) then (pontoonref06_Of.j0 k l0 t214 (t214.toList == ([116, 97, 98, 108, 101] : List UInt8))) else (pontoonref06_Of.j0 k l0 t214 (t214.toList == ([119, 105, 116, 104] : List UInt8)))))))
theorem pontoonref06_Of.mono_l : ∀ k, (∀ y0 y1 y2, LeO (pontoonref06_Of.j0 k y0 y1 y2) (pontoonref06_Of.j0 (k + 1) y0 y1 y2)) ∧ (∀ y0 y1 y2, LeO (pontoonref06_Of.j1 k y0 y1 y2) (pontoonref06_Of.j1 (k + 1) y0 y1 y2)) ∧ (∀ y0 y1 y2, LeO (pontoonref06_Of.j2 k y0 y1 y2) (pontoonref06_Of.j2 (k + 1) y0 y1 y2)) ∧ (∀ y0 y1 y2, LeO (pontoonref06_Of.j3 k y0 y1 y2) (pontoonref06_Of.j3 (k + 1) y0 y1 y2))
  | 0 => ⟨fun _ _ _ r h => by simp [pontoonref06_Of.j0] at h, fun _ _ _ r h => by simp [pontoonref06_Of.j1] at h, fun _ _ _ r h => by simp [pontoonref06_Of.j2] at h, fun _ _ _ r h => by simp [pontoonref06_Of.j3] at h⟩
  | k + 1 => by
    obtain ⟨ih0, ih1, ih2, ih3⟩ := pontoonref06_Of.mono_l k
    refine ⟨?_, ?_, ?_, ?_⟩
    · intro y0 y1 y2
      unfold pontoonref06_Of.j0
      repeat' first
      | (with_reducible exact ih0 _ _ _)
      | (with_reducible exact ih1 _ _ _)
      | (with_reducible exact ih2 _ _ _)
      | (with_reducible exact ih3 _ _ _)
      | (with_reducible exact pontoonref06_Calls.mono _ _ _)
      | (with_reducible exact pontoonref06_Has.mono _ _ _)
      | (with_reducible exact pontoonref06_Locks.mono _ _)
      | (with_reducible exact pontoonref06_system.mono _ _)
      | (with_reducible exact pontoonref06_writes.mono _ _)
      | (with_reducible exact LeO.refl _)
      | (with_reducible exact LeO.none _)
      | (with_reducible refine LeO.ite ?_ ?_)
      | (with_reducible refine LeO.bind ?_ (fun _ => ?_))
      | exact ih0 _ _ _
      | exact ih1 _ _ _
      | exact ih2 _ _ _
      | exact ih3 _ _ _
      | exact pontoonref06_Calls.mono _ _ _
      | exact pontoonref06_Has.mono _ _ _
      | exact pontoonref06_Locks.mono _ _
      | exact pontoonref06_system.mono _ _
      | exact pontoonref06_writes.mono _ _
      | exact LeO.none _
      | refine LeO.ite ?_ ?_
      | refine LeO.bind ?_ (fun _ => ?_)
    · intro y0 y1 y2
      unfold pontoonref06_Of.j1
      repeat' first
      | (with_reducible exact ih0 _ _ _)
      | (with_reducible exact ih1 _ _ _)
      | (with_reducible exact ih2 _ _ _)
      | (with_reducible exact ih3 _ _ _)
      | (with_reducible exact pontoonref06_Calls.mono _ _ _)
      | (with_reducible exact pontoonref06_Has.mono _ _ _)
      | (with_reducible exact pontoonref06_Locks.mono _ _)
      | (with_reducible exact pontoonref06_system.mono _ _)
      | (with_reducible exact pontoonref06_writes.mono _ _)
      | (with_reducible exact LeO.refl _)
      | (with_reducible exact LeO.none _)
      | (with_reducible refine LeO.ite ?_ ?_)
      | (with_reducible refine LeO.bind ?_ (fun _ => ?_))
      | exact ih0 _ _ _
      | exact ih1 _ _ _
      | exact ih2 _ _ _
      | exact ih3 _ _ _
      | exact pontoonref06_Calls.mono _ _ _
      | exact pontoonref06_Has.mono _ _ _
      | exact pontoonref06_Locks.mono _ _
      | exact pontoonref06_system.mono _ _
      | exact pontoonref06_writes.mono _ _
      | exact LeO.none _
      | refine LeO.ite ?_ ?_
      | refine LeO.bind ?_ (fun _ => ?_)
    · intro y0 y1 y2
      unfold pontoonref06_Of.j2
      repeat' first
      | (with_reducible exact ih0 _ _ _)
      | (with_reducible exact ih1 _ _ _)
      | (with_reducible exact ih2 _ _ _)
      | (with_reducible exact ih3 _ _ _)
      | (with_reducible exact pontoonref06_Calls.mono _ _ _)
      | (with_reducible exact pontoonref06_Has.mono _ _ _)
      | (with_reducible exact pontoonref06_Locks.mono _ _)
      | (with_reducible exact pontoonref06_system.mono _ _)
      | (with_reducible exact pontoonref06_writes.mono _ _)
      | (with_reducible exact LeO.refl _)
      | (with_reducible exact LeO.none _)
      | (with_reducible refine LeO.ite ?_ ?_)
      | (with_reducible refine LeO.bind ?_ (fun _ => ?_))
      | exact ih0 _ _ _
      | exact ih1 _ _ _
      | exact ih2 _ _ _
      | exact ih3 _ _ _
      | exact pontoonref06_Calls.mono _ _ _
      | exact pontoonref06_Has.mono _ _ _
      | exact pontoonref06_Locks.mono _ _
      | exact pontoonref06_system.mono _ _
      | exact pontoonref06_writes.mono _ _
      | exact LeO.none _
      | refine LeO.ite ?_ ?_
      | refine LeO.bind ?_ (fun _ => ?_)
    · intro y0 y1 y2
      unfold pontoonref06_Of.j3
      repeat' first
      | (with_reducible exact ih0 _ _ _)
      | (with_reducible exact ih1 _ _ _)
      | (with_reducible exact ih2 _ _ _)
      | (with_reducible exact ih3 _ _ _)
      | (with_reducible exact pontoonref06_Calls.mono _ _ _)
      | (with_reducible exact pontoonref06_Has.mono _ _ _)
      | (with_reducible exact pontoonref06_Locks.mono _ _)
      | (with_reducible exact pontoonref06_system.mono _ _)
      | (with_reducible exact pontoonref06_writes.mono _ _)
      | (with_reducible exact LeO.refl _)
      | (with_reducible exact LeO.none _)
      | (with_reducible refine LeO.ite ?_ ?_)
      | (with_reducible refine LeO.bind ?_ (fun _ => ?_))
      | exact ih0 _ _ _
      | exact ih1 _ _ _
      | exact ih2 _ _ _
      | exact ih3 _ _ _
      | exact pontoonref06_Calls.mono _ _ _
      | exact pontoonref06_Has.mono _ _ _
      | exact pontoonref06_Locks.mono _ _
      | exact pontoonref06_system.mono _ _
      | exact pontoonref06_writes.mono _ _
      | exact LeO.none _
      | refine LeO.ite ?_ ?_
      | refine LeO.bind ?_ (fun _ => ?_)
theorem pontoonref06_Of.mono : ∀ a0 k, LeO (pontoonref06_Of.f k a0) (pontoonref06_Of.f (k + 1) a0) := by
  intro a0 k
  obtain ⟨ih0, ih1, ih2, ih3⟩ := pontoonref06_Of.mono_l k
  unfold pontoonref06_Of.f
  repeat' first
      | (with_reducible exact ih0 _ _ _)
      | (with_reducible exact ih1 _ _ _)
      | (with_reducible exact ih2 _ _ _)
      | (with_reducible exact ih3 _ _ _)
      | (with_reducible exact pontoonref06_Calls.mono _ _ _)
      | (with_reducible exact pontoonref06_Has.mono _ _ _)
      | (with_reducible exact pontoonref06_Locks.mono _ _)
      | (with_reducible exact pontoonref06_system.mono _ _)
      | (with_reducible exact pontoonref06_writes.mono _ _)
      | (with_reducible exact LeO.refl _)
      | (with_reducible exact LeO.none _)
      | (with_reducible refine LeO.ite ?_ ?_)
      | (with_reducible refine LeO.bind ?_ (fun _ => ?_))
      | exact ih0 _ _ _
      | exact ih1 _ _ _
      | exact ih2 _ _ _
      | exact ih3 _ _ _
      | exact pontoonref06_Calls.mono _ _ _
      | exact pontoonref06_Has.mono _ _ _
      | exact pontoonref06_Locks.mono _ _
      | exact pontoonref06_system.mono _ _
      | exact pontoonref06_writes.mono _ _
      | exact LeO.none _
      | refine LeO.ite ?_ ?_
      | refine LeO.bind ?_ (fun _ => ?_)
set_option maxHeartbeats 8000000 in
set_option maxRecDepth 100000 in
theorem pontoonref06_Of.calls (k : Nat) (A0 : Option Addr) (c0 : Nat) (l0 : List (S33)) (r : Int) (w : World) (hr0 : Kd.C k33 w A0 l0.length l0) (hc0 : l0.length ≤ c0) (h : pontoonref06_Of.f k l0 = some r) :
    Calls Try.prog 11 #[.slice A0 l0.length c0] w fun e w' => e = .returned (.int .i64 r) ∧ Below w.heap.size w w' := by
  have HR0 := Aside0.mk hr0
  have HC0 := Aside0.mk hc0
  clear hr0 hc0
  have HB := Aside0.mk (Below.refl w.heap.size w)
  have H : (if (l0.length : Int) = 0 then (some 0) else ((pontoonref06_word.f l0 0).bind fun t214 => (if t214.toList = ([115, 101, 108, 101, 99, 116] : List UInt8) then (pontoonref06_Of.j0 k l0 t214 (t214.toList == ([115, 101, 108, 101, 99, 116] : List UInt8))) else (if t214.toList = ([118, 97, 108, 117, 101, 115] : List UInt8) then (pontoonref06_Of.j0 k l0 t214 (t214.toList == ([118, 97, 108, 117, 101, 115] : List UInt8))) else (if t214.toList = ([116, 97, 98, 108, 101] : List UInt8) then (pontoonref06_Of.j0 k l0 t214 (t214.toList == ([116, 97, 98, 108, 101] : List UInt8))) else (pontoonref06_Of.j0 k l0 t214 (t214.toList == ([119, 105, 116, 104] : List UInt8)))))))) = some r := h
  clear h
  by_cases c2 : (l0.length : Int) = 0
  · rw [if_pos c2] at H
    have c2b0 : ((l0.length : Int) == 0) = true := beq_iff_eq.mpr c2
    have c2b1 : ((l0.length : Int) != 0) = false := bne_eq_false_iff_eq.mpr c2
    clear c2
    obtain rfl := Option.some.inj H
    go_enter Try.func11, Try.ntmps11
    go_wp2
    go_ret
    exact ⟨by first | rfl | (simp [errW_none, errW_some] <;> rfl) | (simp [*, errW_none, errW_some] <;> rfl), by repeat (first | (with_reducible first | exact HB.out | apply below_alloc | apply pw_below_drewN | apply below_drew1) | exact HB.out)⟩
  · rw [if_neg c2] at H
    have c2b0 : ((l0.length : Int) == 0) = false := beq_eq_false_iff_ne.mpr c2
    have c2b1 : ((l0.length : Int) != 0) = true := bne_iff_ne.mpr c2
    have c2b2 : ¬ (l0 = []) := fun h_ => c2 (by rw [h_]; rfl)
    replace H := Option.bind_eq_some_iff.mp H
    obtain ⟨t214, A30, H⟩ := H
    replace H : (if t214.toList = ([115, 101, 108, 101, 99, 116] : List UInt8) then (pontoonref06_Of.j0 k l0 t214 (t214.toList == ([115, 101, 108, 101, 99, 116] : List UInt8))) else (if t214.toList = ([118, 97, 108, 117, 101, 115] : List UInt8) then (pontoonref06_Of.j0 k l0 t214 (t214.toList == ([118, 97, 108, 117, 101, 115] : List UInt8))) else (if t214.toList = ([116, 97, 98, 108, 101] : List UInt8) then (pontoonref06_Of.j0 k l0 t214 (t214.toList == ([116, 97, 98, 108, 101] : List UInt8))) else (pontoonref06_Of.j0 k l0 t214 (t214.toList == ([119, 105, 116, 104] : List UInt8)))))) = some r := H
    have A3 := Aside0.mk A30
    clear A30
    have HC4 := Aside0.mk H
    clear H
    go_enter Try.func11, Try.ntmps11
    go_upto_if 8 with (first | ((with_reducible refine gate_callee (f := 25) rfl ?_); refine goesL_ (some 7) rfl rfl Try.func25 (by kernel_rfl) rfl #[.slice A0 l0.length c0, .int .i64 0] rfl (by (try simp only [List.map_toArray, List.map_cons, List.map_nil]); first | done | rfl | (simp only [List.length_drop, List.length_take]; rfl)) ?_; (with_reducible refine (pontoonref06_word.calls _ _ l0 0 t214 _ ?side1 ?side2 A3.out).mono ?_); (case side1 => repeat (first | exact HR0.out | (with_reducible refine Kd.C_alloc ?_ _) | (with_reducible refine Kd.C_drewN ?_ _) | (with_reducible refine Kd.C_drew ?_))); (case side2 => exact HC0.out); rintro e w' ⟨rfl, ⟨nd, rfl⟩⟩; refine ⟨_, rfl, ?_⟩))
    (try simp only [Act.put, List.setIfInBounds_toArray, List.set_cons_zero, List.set_cons_succ])
    go_cut [8] (fun v8 wc => ∃ (kq : Nat) (x8_3 : Bool), v8 = .bool x8_3 ∧ Aside0 (pontoonref06_Of.j0 kq l0 t214 x8_3 = some r) ∧ Aside0 (kq ≤ k) ∧ Aside0 (Below w.heap.size w wc))
    case first =>
      have H := HC4.out
      clear HC4
      by_cases c5 : t214.toList = ([115, 101, 108, 101, 99, 116] : List UInt8)
      · rw [if_pos c5] at H
        have c5b0 : (t214.toList == ([115, 101, 108, 101, 99, 116] : List UInt8)) = true := beq_iff_eq.mpr c5
        have c5b1 : (t214.toList != ([115, 101, 108, 101, 99, 116] : List UInt8)) = false := bne_eq_false_iff_eq.mpr c5
        clear c5
        (first | rw [c5b0] | (simp only [i64_w, i32_w]; rw [c5b0]) | skip)
        have H' := Aside0.mk H
        clear H
        go_wp2
        go_meet
        case rel => exact ⟨_, ((t214.toList == ([115, 101, 108, 101, 99, 116] : List UInt8))), (by first | rfl | (simp; done) | (simp [*]; done)), H', ⟨by first | omega | exact Nat.le_refl _⟩, ⟨by repeat (first | (with_reducible first | exact HB.out | apply below_alloc | apply pw_below_drewN | apply below_drew1) | exact HB.out)⟩⟩
      · rw [if_neg c5] at H
        have c5b0 : (t214.toList == ([115, 101, 108, 101, 99, 116] : List UInt8)) = false := beq_eq_false_iff_ne.mpr c5
        have c5b1 : (t214.toList != ([115, 101, 108, 101, 99, 116] : List UInt8)) = true := bne_iff_ne.mpr c5
        (first | rw [c5b0] | (simp only [i64_w, i32_w]; rw [c5b0]) | skip)
        by_cases c6 : t214.toList = ([118, 97, 108, 117, 101, 115] : List UInt8)
        · rw [if_pos c6] at H
          have c6b0 : (t214.toList == ([118, 97, 108, 117, 101, 115] : List UInt8)) = true := beq_iff_eq.mpr c6
          have c6b1 : (t214.toList != ([118, 97, 108, 117, 101, 115] : List UInt8)) = false := bne_eq_false_iff_eq.mpr c6
          clear c6
          have H' := Aside0.mk H
          clear H
          go_wp2
          go_meet
          case rel => exact ⟨_, ((t214.toList == ([118, 97, 108, 117, 101, 115] : List UInt8))), (by first | rfl | (simp; done) | (simp [*]; done)), H', ⟨by first | omega | exact Nat.le_refl _⟩, ⟨by repeat (first | (with_reducible first | exact HB.out | apply below_alloc | apply pw_below_drewN | apply below_drew1) | exact HB.out)⟩⟩
        · rw [if_neg c6] at H
          have c6b0 : (t214.toList == ([118, 97, 108, 117, 101, 115] : List UInt8)) = false := beq_eq_false_iff_ne.mpr c6
          have c6b1 : (t214.toList != ([118, 97, 108, 117, 101, 115] : List UInt8)) = true := bne_iff_ne.mpr c6
          by_cases c7 : t214.toList = ([116, 97, 98, 108, 101] : List UInt8)
          · rw [if_pos c7] at H
            have c7b0 : (t214.toList == ([116, 97, 98, 108, 101] : List UInt8)) = true := beq_iff_eq.mpr c7
            have c7b1 : (t214.toList != ([116, 97, 98, 108, 101] : List UInt8)) = false := bne_eq_false_iff_eq.mpr c7
            clear c7
            have H' := Aside0.mk H
            clear H
            go_wp2
            go_meet
            case rel => exact ⟨_, ((t214.toList == ([116, 97, 98, 108, 101] : List UInt8))), (by first | rfl | (simp; done) | (simp [*]; done)), H', ⟨by first | omega | exact Nat.le_refl _⟩, ⟨by repeat (first | (with_reducible first | exact HB.out | apply below_alloc | apply pw_below_drewN | apply below_drew1) | exact HB.out)⟩⟩
          · rw [if_neg c7] at H
            have c7b0 : (t214.toList == ([116, 97, 98, 108, 101] : List UInt8)) = false := beq_eq_false_iff_ne.mpr c7
            have c7b1 : (t214.toList != ([116, 97, 98, 108, 101] : List UInt8)) = true := bne_iff_ne.mpr c7
            have H' := Aside0.mk H
            clear H
            go_wp2
            go_meet
            case rel => exact ⟨_, ((t214.toList == ([119, 105, 116, 104] : List UInt8))), (by first | rfl | (simp; done) | (simp [*]; done)), H', ⟨by first | omega | exact Nat.le_refl _⟩, ⟨by repeat (first | (with_reducible first | exact HB.out | apply below_alloc | apply pw_below_drewN | apply below_drew1) | exact HB.out)⟩⟩
    case rest =>
      clear HC4
      try clear c1
      try clear c2
      try clear c2b0
      try clear c2b1
      try clear c2b2
      try clear p2
      try clear c5
      try clear c5b0
      try clear c5b1
      try clear c6
      try clear c6b0
      try clear c6b1
      try clear c7
      try clear c7b0
      try clear c7b1
      obtain ⟨kq, x8_3, rfl, HA, HJ3, HB⟩ := hcut
      cases kq with
      | zero => exact absurd HA.out (by simp [pontoonref06_Of.j0])
      | succ kj3 =>
        have H := HA.out
        clear HA
        simp only [pontoonref06_Of.j0] at H
        by_cases c8 : x8_3 = true
        · subst c8
          have H1 : ((pontoonref06_writes.f kj3 l0).bind fun t215 => (if t215 = true then (some 2) else ((pontoonref06_Locks.f kj3 l0).bind fun t216 => (if t216 = true then (some 7) else ((pontoonref06_system.f kj3 l0).bind fun t217 => (if t217 = true then (some 7) else ((pontoonref06_Calls.f kj3 l0 (([(⟨#[110, 111, 119]⟩ : ByteArray), (⟨#[114, 97, 110, 100, 111, 109]⟩ : ByteArray), (⟨#[110, 101, 120, 116, 118, 97, 108]⟩ : ByteArray), (⟨#[99, 117, 114, 114, 118, 97, 108]⟩ : ByteArray), (⟨#[115, 101, 116, 118, 97, 108]⟩ : ByteArray), (⟨#[108, 97, 115, 116, 118, 97, 108]⟩ : ByteArray), (⟨#[99, 108, 111, 99, 107, 95, 116, 105, 109, 101, 115, 116, 97, 109, 112]⟩ : ByteArray), (⟨#[116, 120, 105, 100, 95, 99, 117, 114, 114, 101, 110, 116]⟩ : ByteArray)] : List ByteArray))).bind fun t221 => (if t221 = true then (some 7) else (some 1))))))))) = some r := by rw [if_pos rfl] at H; exact H
          clear H
          have H := H1
          clear H1
          replace H := Option.bind_eq_some_iff.mp H
          obtain ⟨t215, A90, H⟩ := H
          replace H : (if t215 = true then (some 2) else ((pontoonref06_Locks.f kj3 l0).bind fun t216 => (if t216 = true then (some 7) else ((pontoonref06_system.f kj3 l0).bind fun t217 => (if t217 = true then (some 7) else ((pontoonref06_Calls.f kj3 l0 (([(⟨#[110, 111, 119]⟩ : ByteArray), (⟨#[114, 97, 110, 100, 111, 109]⟩ : ByteArray), (⟨#[110, 101, 120, 116, 118, 97, 108]⟩ : ByteArray), (⟨#[99, 117, 114, 114, 118, 97, 108]⟩ : ByteArray), (⟨#[115, 101, 116, 118, 97, 108]⟩ : ByteArray), (⟨#[108, 97, 115, 116, 118, 97, 108]⟩ : ByteArray), (⟨#[99, 108, 111, 99, 107, 95, 116, 105, 109, 101, 115, 116, 97, 109, 112]⟩ : ByteArray), (⟨#[116, 120, 105, 100, 95, 99, 117, 114, 114, 101, 110, 116]⟩ : ByteArray)] : List ByteArray))).bind fun t221 => (if t221 = true then (some 7) else (some 1)))))))) = some r := H
          have A9 := Aside0.mk A90
          clear A90
          by_cases c10 : t215 = true
          · subst c10
            have H1 : (some 2) = some r := by rw [if_pos rfl] at H; exact H
            clear H
            have H := H1
            clear H1
            obtain rfl := Option.some.inj H
            go_wp2_with (first | ((with_reducible refine gate_callee (f := 26) rfl ?_); refine goesL_ (some 14) rfl rfl Try.func26 (by kernel_rfl) rfl #[.slice A0 l0.length c0] rfl (by (try simp only [List.map_toArray, List.map_cons, List.map_nil]); first | done | rfl | (simp only [List.length_drop, List.length_take]; rfl)) ?_; (with_reducible refine (pontoonref06_writes.calls kj3 _ _ l0 true _ ?side1 ?side2 A9.out).mono ?_); (case side1 => repeat (first | exact (Kd.C_below HR0.out HB.out) | (with_reducible refine Kd.C_alloc ?_ _) | (with_reducible refine Kd.C_drewN ?_ _) | (with_reducible refine Kd.C_drew ?_))); (case side2 => exact HC0.out); rintro e w11 ⟨rfl, hb⟩; refine ⟨_, rfl, ?_⟩; have n0_ := Aside0.mk (below_step (by repeat (first | (with_reducible first | exact HB.out | apply below_alloc | apply pw_below_drewN | apply below_drew1) | exact HB.out)) hb); clear HB; have HB := n0_; clear n0_; (try clear hb); (try clear hb2); (try clear hk); (try clear hi)))
            go_ret
            exact ⟨by first | rfl | (simp [errW_none, errW_some] <;> rfl) | (simp [*, errW_none, errW_some] <;> rfl), by repeat (first | (with_reducible first | exact HB.out | apply below_alloc | apply pw_below_drewN | apply below_drew1) | exact HB.out)⟩
          · replace c10 := Bool.eq_false_iff.mpr c10
            subst c10
            have H1 : ((pontoonref06_Locks.f kj3 l0).bind fun t216 => (if t216 = true then (some 7) else ((pontoonref06_system.f kj3 l0).bind fun t217 => (if t217 = true then (some 7) else ((pontoonref06_Calls.f kj3 l0 (([(⟨#[110, 111, 119]⟩ : ByteArray), (⟨#[114, 97, 110, 100, 111, 109]⟩ : ByteArray), (⟨#[110, 101, 120, 116, 118, 97, 108]⟩ : ByteArray), (⟨#[99, 117, 114, 114, 118, 97, 108]⟩ : ByteArray), (⟨#[115, 101, 116, 118, 97, 108]⟩ : ByteArray), (⟨#[108, 97, 115, 116, 118, 97, 108]⟩ : ByteArray), (⟨#[99, 108, 111, 99, 107, 95, 116, 105, 109, 101, 115, 116, 97, 109, 112]⟩ : ByteArray), (⟨#[116, 120, 105, 100, 95, 99, 117, 114, 114, 101, 110, 116]⟩ : ByteArray)] : List ByteArray))).bind fun t221 => (if t221 = true then (some 7) else (some 1))))))) = some r := by rw [if_neg (show ¬ (false = true) by decide)] at H; exact H
            clear H
            have H := H1
            clear H1
            replace H := Option.bind_eq_some_iff.mp H
            obtain ⟨t216, A120, H⟩ := H
            replace H : (if t216 = true then (some 7) else ((pontoonref06_system.f kj3 l0).bind fun t217 => (if t217 = true then (some 7) else ((pontoonref06_Calls.f kj3 l0 (([(⟨#[110, 111, 119]⟩ : ByteArray), (⟨#[114, 97, 110, 100, 111, 109]⟩ : ByteArray), (⟨#[110, 101, 120, 116, 118, 97, 108]⟩ : ByteArray), (⟨#[99, 117, 114, 114, 118, 97, 108]⟩ : ByteArray), (⟨#[115, 101, 116, 118, 97, 108]⟩ : ByteArray), (⟨#[108, 97, 115, 116, 118, 97, 108]⟩ : ByteArray), (⟨#[99, 108, 111, 99, 107, 95, 116, 105, 109, 101, 115, 116, 97, 109, 112]⟩ : ByteArray), (⟨#[116, 120, 105, 100, 95, 99, 117, 114, 114, 101, 110, 116]⟩ : ByteArray)] : List ByteArray))).bind fun t221 => (if t221 = true then (some 7) else (some 1)))))) = some r := H
            have A12 := Aside0.mk A120
            clear A120
            by_cases c13 : t216 = true
            · subst c13
              have H1 : (some 7) = some r := by rw [if_pos rfl] at H; exact H
              clear H
              have H := H1
              clear H1
              obtain rfl := Option.some.inj H
              go_wp2_with (first | ((with_reducible refine gate_callee (f := 26) rfl ?_); refine goesL_ (some 14) rfl rfl Try.func26 (by kernel_rfl) rfl #[.slice A0 l0.length c0] rfl (by (try simp only [List.map_toArray, List.map_cons, List.map_nil]); first | done | rfl | (simp only [List.length_drop, List.length_take]; rfl)) ?_; (with_reducible refine (pontoonref06_writes.calls kj3 _ _ l0 false _ ?side1 ?side2 A9.out).mono ?_); (case side1 => repeat (first | exact (Kd.C_below HR0.out HB.out) | (with_reducible refine Kd.C_alloc ?_ _) | (with_reducible refine Kd.C_drewN ?_ _) | (with_reducible refine Kd.C_drew ?_))); (case side2 => exact HC0.out); rintro e w14 ⟨rfl, hb⟩; refine ⟨_, rfl, ?_⟩; have n0_ := Aside0.mk (below_step (by repeat (first | (with_reducible first | exact HB.out | apply below_alloc | apply pw_below_drewN | apply below_drew1) | exact HB.out)) hb); clear HB; have HB := n0_; clear n0_; (try clear hb); (try clear hb2); (try clear hk); (try clear hi)) | ((with_reducible refine gate_callee (f := 18) rfl ?_); refine goesL_ (some 16) rfl rfl Try.func18 (by kernel_rfl) rfl #[.slice A0 l0.length c0] rfl (by (try simp only [List.map_toArray, List.map_cons, List.map_nil]); first | done | rfl | (simp only [List.length_drop, List.length_take]; rfl)) ?_; (with_reducible refine (pontoonref06_Locks.calls kj3 _ _ l0 true _ ?side1 ?side2 A12.out).mono ?_); (case side1 => repeat (first | exact (Kd.C_below HR0.out HB.out) | (with_reducible refine Kd.C_alloc ?_ _) | (with_reducible refine Kd.C_drewN ?_ _) | (with_reducible refine Kd.C_drew ?_))); (case side2 => exact HC0.out); rintro e w15 ⟨rfl, hb⟩; refine ⟨_, rfl, ?_⟩; have n0_ := Aside0.mk (below_step (by repeat (first | (with_reducible first | exact HB.out | apply below_alloc | apply pw_below_drewN | apply below_drew1) | exact HB.out)) hb); clear HB; have HB := n0_; clear n0_; (try clear hb); (try clear hb2); (try clear hk); (try clear hi)))
              go_ret
              exact ⟨by first | rfl | (simp [errW_none, errW_some] <;> rfl) | (simp [*, errW_none, errW_some] <;> rfl), by repeat (first | (with_reducible first | exact HB.out | apply below_alloc | apply pw_below_drewN | apply below_drew1) | exact HB.out)⟩
            · replace c13 := Bool.eq_false_iff.mpr c13
              subst c13
              have H1 : ((pontoonref06_system.f kj3 l0).bind fun t217 => (if t217 = true then (some 7) else ((pontoonref06_Calls.f kj3 l0 (([(⟨#[110, 111, 119]⟩ : ByteArray), (⟨#[114, 97, 110, 100, 111, 109]⟩ : ByteArray), (⟨#[110, 101, 120, 116, 118, 97, 108]⟩ : ByteArray), (⟨#[99, 117, 114, 114, 118, 97, 108]⟩ : ByteArray), (⟨#[115, 101, 116, 118, 97, 108]⟩ : ByteArray), (⟨#[108, 97, 115, 116, 118, 97, 108]⟩ : ByteArray), (⟨#[99, 108, 111, 99, 107, 95, 116, 105, 109, 101, 115, 116, 97, 109, 112]⟩ : ByteArray), (⟨#[116, 120, 105, 100, 95, 99, 117, 114, 114, 101, 110, 116]⟩ : ByteArray)] : List ByteArray))).bind fun t221 => (if t221 = true then (some 7) else (some 1))))) = some r := by rw [if_neg (show ¬ (false = true) by decide)] at H; exact H
              clear H
              have H := H1
              clear H1
              replace H := Option.bind_eq_some_iff.mp H
              obtain ⟨t217, A160, H⟩ := H
              replace H : (if t217 = true then (some 7) else ((pontoonref06_Calls.f kj3 l0 (([(⟨#[110, 111, 119]⟩ : ByteArray), (⟨#[114, 97, 110, 100, 111, 109]⟩ : ByteArray), (⟨#[110, 101, 120, 116, 118, 97, 108]⟩ : ByteArray), (⟨#[99, 117, 114, 114, 118, 97, 108]⟩ : ByteArray), (⟨#[115, 101, 116, 118, 97, 108]⟩ : ByteArray), (⟨#[108, 97, 115, 116, 118, 97, 108]⟩ : ByteArray), (⟨#[99, 108, 111, 99, 107, 95, 116, 105, 109, 101, 115, 116, 97, 109, 112]⟩ : ByteArray), (⟨#[116, 120, 105, 100, 95, 99, 117, 114, 114, 101, 110, 116]⟩ : ByteArray)] : List ByteArray))).bind fun t221 => (if t221 = true then (some 7) else (some 1)))) = some r := H
              have A16 := Aside0.mk A160
              clear A160
              by_cases c17 : t217 = true
              · subst c17
                have H1 : (some 7) = some r := by rw [if_pos rfl] at H; exact H
                clear H
                have H := H1
                clear H1
                obtain rfl := Option.some.inj H
                go_wp2_with (first | ((with_reducible refine gate_callee (f := 26) rfl ?_); refine goesL_ (some 14) rfl rfl Try.func26 (by kernel_rfl) rfl #[.slice A0 l0.length c0] rfl (by (try simp only [List.map_toArray, List.map_cons, List.map_nil]); first | done | rfl | (simp only [List.length_drop, List.length_take]; rfl)) ?_; (with_reducible refine (pontoonref06_writes.calls kj3 _ _ l0 false _ ?side1 ?side2 A9.out).mono ?_); (case side1 => repeat (first | exact (Kd.C_below HR0.out HB.out) | (with_reducible refine Kd.C_alloc ?_ _) | (with_reducible refine Kd.C_drewN ?_ _) | (with_reducible refine Kd.C_drew ?_))); (case side2 => exact HC0.out); rintro e w18 ⟨rfl, hb⟩; refine ⟨_, rfl, ?_⟩; have n0_ := Aside0.mk (below_step (by repeat (first | (with_reducible first | exact HB.out | apply below_alloc | apply pw_below_drewN | apply below_drew1) | exact HB.out)) hb); clear HB; have HB := n0_; clear n0_; (try clear hb); (try clear hb2); (try clear hk); (try clear hi)) | ((with_reducible refine gate_callee (f := 18) rfl ?_); refine goesL_ (some 16) rfl rfl Try.func18 (by kernel_rfl) rfl #[.slice A0 l0.length c0] rfl (by (try simp only [List.map_toArray, List.map_cons, List.map_nil]); first | done | rfl | (simp only [List.length_drop, List.length_take]; rfl)) ?_; (with_reducible refine (pontoonref06_Locks.calls kj3 _ _ l0 false _ ?side1 ?side2 A12.out).mono ?_); (case side1 => repeat (first | exact (Kd.C_below HR0.out HB.out) | (with_reducible refine Kd.C_alloc ?_ _) | (with_reducible refine Kd.C_drewN ?_ _) | (with_reducible refine Kd.C_drew ?_))); (case side2 => exact HC0.out); rintro e w19 ⟨rfl, hb⟩; refine ⟨_, rfl, ?_⟩; have n0_ := Aside0.mk (below_step (by repeat (first | (with_reducible first | exact HB.out | apply below_alloc | apply pw_below_drewN | apply below_drew1) | exact HB.out)) hb); clear HB; have HB := n0_; clear n0_; (try clear hb); (try clear hb2); (try clear hk); (try clear hi)) | (go_at_call 27; (with_reducible refine (pontoonref06_system.calls kj3 _ _ l0 true _ ?side1 ?side2 A16.out).mono ?_); (case side1 => repeat (first | exact (Kd.C_below HR0.out HB.out) | (with_reducible refine Kd.C_alloc ?_ _) | (with_reducible refine Kd.C_drewN ?_ _) | (with_reducible refine Kd.C_drew ?_))); (case side2 => exact HC0.out); rintro e w' ⟨rfl, ⟨nd, rfl⟩⟩))
                go_ret
                exact ⟨by first | rfl | (simp [errW_none, errW_some] <;> rfl) | (simp [*, errW_none, errW_some] <;> rfl), by repeat (first | (with_reducible first | exact HB.out | apply below_alloc | apply pw_below_drewN | apply below_drew1) | exact HB.out)⟩
              · replace c17 := Bool.eq_false_iff.mpr c17
                subst c17
                have H1 : ((pontoonref06_Calls.f kj3 l0 (([(⟨#[110, 111, 119]⟩ : ByteArray), (⟨#[114, 97, 110, 100, 111, 109]⟩ : ByteArray), (⟨#[110, 101, 120, 116, 118, 97, 108]⟩ : ByteArray), (⟨#[99, 117, 114, 114, 118, 97, 108]⟩ : ByteArray), (⟨#[115, 101, 116, 118, 97, 108]⟩ : ByteArray), (⟨#[108, 97, 115, 116, 118, 97, 108]⟩ : ByteArray), (⟨#[99, 108, 111, 99, 107, 95, 116, 105, 109, 101, 115, 116, 97, 109, 112]⟩ : ByteArray), (⟨#[116, 120, 105, 100, 95, 99, 117, 114, 114, 101, 110, 116]⟩ : ByteArray)] : List ByteArray))).bind fun t221 => (if t221 = true then (some 7) else (some 1))) = some r := by rw [if_neg (show ¬ (false = true) by decide)] at H; exact H
                clear H
                have H := H1
                clear H1
                obtain ⟨y218, hy218⟩ : ∃ y_ : List ByteArray, y_ = (([(⟨#[110, 111, 119]⟩ : ByteArray), (⟨#[114, 97, 110, 100, 111, 109]⟩ : ByteArray), (⟨#[110, 101, 120, 116, 118, 97, 108]⟩ : ByteArray), (⟨#[99, 117, 114, 114, 118, 97, 108]⟩ : ByteArray), (⟨#[115, 101, 116, 118, 97, 108]⟩ : ByteArray), (⟨#[108, 97, 115, 116, 118, 97, 108]⟩ : ByteArray), (⟨#[99, 108, 111, 99, 107, 95, 116, 105, 109, 101, 115, 116, 97, 109, 112]⟩ : ByteArray), (⟨#[116, 120, 105, 100, 95, 99, 117, 114, 114, 101, 110, 116]⟩ : ByteArray)] : List ByteArray)) := ⟨_, rfl⟩
                replace H : ((pontoonref06_Calls.f kj3 l0 y218).bind fun t221 => (if t221 = true then (some 7) else (some 1))) = some r := by first | (rw [hy218]; with_reducible exact H) | (have H2_ := (Option.bind_some _ _).symm.trans H; rw [hy218]; with_reducible exact H2_) | (have H2_ := (Option.bind_some _ _).symm.trans H; with_reducible exact H2_) | with_reducible exact H | (rw [hy218]; exact H) | exact H
                have Ny218 := Aside0.mk hy218
                clear hy218
                replace H := Option.bind_eq_some_iff.mp H
                obtain ⟨t221, A200, H⟩ := H
                replace H : (if t221 = true then (some 7) else (some 1)) = some r := H
                have A20 := Aside0.mk A200
                clear A200
                by_cases c21 : t221 = true
                · subst c21
                  have H1 : (some 7) = some r := by rw [if_pos rfl] at H; exact H
                  clear H
                  have H := H1
                  clear H1
                  obtain rfl := Option.some.inj H
                  go_wp2_with (first | ((with_reducible refine gate_callee (f := 26) rfl ?_); refine goesL_ (some 14) rfl rfl Try.func26 (by kernel_rfl) rfl #[.slice A0 l0.length c0] rfl (by (try simp only [List.map_toArray, List.map_cons, List.map_nil]); first | done | rfl | (simp only [List.length_drop, List.length_take]; rfl)) ?_; (with_reducible refine (pontoonref06_writes.calls kj3 _ _ l0 false _ ?side1 ?side2 A9.out).mono ?_); (case side1 => repeat (first | exact (Kd.C_below HR0.out HB.out) | (with_reducible refine Kd.C_alloc ?_ _) | (with_reducible refine Kd.C_drewN ?_ _) | (with_reducible refine Kd.C_drew ?_))); (case side2 => exact HC0.out); rintro e w22 ⟨rfl, hb⟩; refine ⟨_, rfl, ?_⟩; have n0_ := Aside0.mk (below_step (by repeat (first | (with_reducible first | exact HB.out | apply below_alloc | apply pw_below_drewN | apply below_drew1) | exact HB.out)) hb); clear HB; have HB := n0_; clear n0_; (try clear hb); (try clear hb2); (try clear hk); (try clear hi)) | ((with_reducible refine gate_callee (f := 18) rfl ?_); refine goesL_ (some 16) rfl rfl Try.func18 (by kernel_rfl) rfl #[.slice A0 l0.length c0] rfl (by (try simp only [List.map_toArray, List.map_cons, List.map_nil]); first | done | rfl | (simp only [List.length_drop, List.length_take]; rfl)) ?_; (with_reducible refine (pontoonref06_Locks.calls kj3 _ _ l0 false _ ?side1 ?side2 A12.out).mono ?_); (case side1 => repeat (first | exact (Kd.C_below HR0.out HB.out) | (with_reducible refine Kd.C_alloc ?_ _) | (with_reducible refine Kd.C_drewN ?_ _) | (with_reducible refine Kd.C_drew ?_))); (case side2 => exact HC0.out); rintro e w23 ⟨rfl, hb⟩; refine ⟨_, rfl, ?_⟩; have n0_ := Aside0.mk (below_step (by repeat (first | (with_reducible first | exact HB.out | apply below_alloc | apply pw_below_drewN | apply below_drew1) | exact HB.out)) hb); clear HB; have HB := n0_; clear n0_; (try clear hb); (try clear hb2); (try clear hk); (try clear hi)) | (go_at_call 27; (with_reducible refine (pontoonref06_system.calls kj3 _ _ l0 false _ ?side1 ?side2 A16.out).mono ?_); (case side1 => repeat (first | exact (Kd.C_below HR0.out HB.out) | (with_reducible refine Kd.C_alloc ?_ _) | (with_reducible refine Kd.C_drewN ?_ _) | (with_reducible refine Kd.C_drew ?_))); (case side2 => exact HC0.out); rintro e w' ⟨rfl, ⟨nd, rfl⟩⟩) | ((with_reducible refine gate_dst (N := 23) rfl ?_); (try (refine gate_guard (by rfl) ?_; dsimp only)); refine Kd.R_lit Kd.string _ 9 ?hg (N := 23) ?hd (xs := ([(⟨#[110, 111, 119]⟩ : ByteArray), (⟨#[114, 97, 110, 100, 111, 109]⟩ : ByteArray), (⟨#[110, 101, 120, 116, 118, 97, 108]⟩ : ByteArray), (⟨#[99, 117, 114, 114, 118, 97, 108]⟩ : ByteArray), (⟨#[115, 101, 116, 118, 97, 108]⟩ : ByteArray), (⟨#[108, 97, 115, 116, 118, 97, 108]⟩ : ByteArray), (⟨#[99, 108, 111, 99, 107, 95, 116, 105, 109, 101, 115, 116, 97, 109, 112]⟩ : ByteArray), (⟨#[116, 120, 105, 100, 95, 99, 117, 114, 114, 101, 110, 116]⟩ : ByteArray)] : List ByteArray)) (inner := [.string (⟨#[110, 111, 119]⟩ : ByteArray), .string (⟨#[114, 97, 110, 100, 111, 109]⟩ : ByteArray), .string (⟨#[110, 101, 120, 116, 118, 97, 108]⟩ : ByteArray), .string (⟨#[99, 117, 114, 114, 118, 97, 108]⟩ : ByteArray), .string (⟨#[115, 101, 116, 118, 97, 108]⟩ : ByteArray), .string (⟨#[108, 97, 115, 116, 118, 97, 108]⟩ : ByteArray), .string (⟨#[99, 108, 111, 99, 107, 95, 116, 105, 109, 101, 115, 116, 97, 109, 112]⟩ : ByteArray), .string (⟨#[116, 120, 105, 100, 95, 99, 117, 114, 114, 101, 110, 116]⟩ : ByteArray)]) (ok := fun _ => True) (okp := fun _ => True) ?hr ?hp (fun _ hk => hk) trivial (Below.refl _ _) (Nat.le_refl _) (by simp) ?_; (case hd => rfl); (case hg => rfl); (case hr => first | (go_simp; done) | (go_simp; rfl)); (case hp => exact (Reps.one (show Kd.M Kd.string _ _ _ (⟨#[110, 111, 119]⟩ : ByteArray) [.string (⟨#[110, 111, 119]⟩ : ByteArray)] from rfl) (Reps.one (show Kd.M Kd.string _ _ _ (⟨#[114, 97, 110, 100, 111, 109]⟩ : ByteArray) [.string (⟨#[114, 97, 110, 100, 111, 109]⟩ : ByteArray)] from rfl) (Reps.one (show Kd.M Kd.string _ _ _ (⟨#[110, 101, 120, 116, 118, 97, 108]⟩ : ByteArray) [.string (⟨#[110, 101, 120, 116, 118, 97, 108]⟩ : ByteArray)] from rfl) (Reps.one (show Kd.M Kd.string _ _ _ (⟨#[99, 117, 114, 114, 118, 97, 108]⟩ : ByteArray) [.string (⟨#[99, 117, 114, 114, 118, 97, 108]⟩ : ByteArray)] from rfl) (Reps.one (show Kd.M Kd.string _ _ _ (⟨#[115, 101, 116, 118, 97, 108]⟩ : ByteArray) [.string (⟨#[115, 101, 116, 118, 97, 108]⟩ : ByteArray)] from rfl) (Reps.one (show Kd.M Kd.string _ _ _ (⟨#[108, 97, 115, 116, 118, 97, 108]⟩ : ByteArray) [.string (⟨#[108, 97, 115, 116, 118, 97, 108]⟩ : ByteArray)] from rfl) (Reps.one (show Kd.M Kd.string _ _ _ (⟨#[99, 108, 111, 99, 107, 95, 116, 105, 109, 101, 115, 116, 97, 109, 112]⟩ : ByteArray) [.string (⟨#[99, 108, 111, 99, 107, 95, 116, 105, 109, 101, 115, 116, 97, 109, 112]⟩ : ByteArray)] from rfl) (Reps.one (show Kd.M Kd.string _ _ _ (⟨#[116, 120, 105, 100, 95, 99, 117, 114, 114, 101, 110, 116]⟩ : ByteArray) [.string (⟨#[116, 120, 105, 100, 95, 99, 117, 114, 114, 101, 110, 116]⟩ : ByteArray)] from rfl) (Reps.none _ _)))))))))); intro v219 w24 ho25 hb hg_ hnew_; clear hg_ hnew_; (first | rw [← Ny218.out] at ho25 | (simp only [Int.reduceToNat] at ho25; rw [← Ny218.out] at ho25)); have n0_ := Aside0.mk (Kd.R_lower ho25 (below_size (by repeat (first | (with_reducible first | exact HB.out | apply below_alloc | apply pw_below_drewN | apply below_drew1) | exact HB.out)))); have n1_ := Aside0.mk (below_step (by repeat (first | (with_reducible first | exact HB.out | apply below_alloc | apply pw_below_drewN | apply below_drew1) | exact HB.out)) hb); clear HB; have HO220 := n0_; have HB := n1_; clear n0_ n1_; clear hb ho25; obtain ⟨Ao26, co26, eo26⟩ := Kd.R_slice HO220.out; subst eo26) | (go_at_call 16; (with_reducible refine (pontoonref06_Calls.calls kj3 _ _ l0 _ _ y218 true _ ?side1 ?side2 ?side3 ?side4 A20.out).mono ?_); (case side1 => repeat (first | exact (Kd.C_below HR0.out HB.out) | (with_reducible refine Kd.C_alloc ?_ _) | (with_reducible refine Kd.C_drewN ?_ _) | (with_reducible refine Kd.C_drew ?_))); (case side2 => exact HC0.out); (case side3 => repeat (first | exact (Kd.R_reads' HO220.out).2.2 | (with_reducible refine Kd.C_alloc ?_ _) | (with_reducible refine Kd.C_drewN ?_ _) | (with_reducible refine Kd.C_drew ?_))); (case side4 => exact (Kd.R_reads' HO220.out).2.1); rintro e w' ⟨rfl, ⟨nd, rfl⟩⟩))
                  go_ret
                  exact ⟨by first | rfl | (simp [errW_none, errW_some] <;> rfl) | (simp [*, errW_none, errW_some] <;> rfl), by repeat (first | (with_reducible first | exact HB.out | apply below_alloc | apply pw_below_drewN | apply below_drew1) | exact HB.out)⟩
                · replace c21 := Bool.eq_false_iff.mpr c21
                  subst c21
                  have H1 : (some 1) = some r := by rw [if_neg (show ¬ (false = true) by decide)] at H; exact H
                  clear H
                  have H := H1
                  clear H1
                  obtain rfl := Option.some.inj H
                  go_wp2_with (first | ((with_reducible refine gate_callee (f := 26) rfl ?_); refine goesL_ (some 14) rfl rfl Try.func26 (by kernel_rfl) rfl #[.slice A0 l0.length c0] rfl (by (try simp only [List.map_toArray, List.map_cons, List.map_nil]); first | done | rfl | (simp only [List.length_drop, List.length_take]; rfl)) ?_; (with_reducible refine (pontoonref06_writes.calls kj3 _ _ l0 false _ ?side1 ?side2 A9.out).mono ?_); (case side1 => repeat (first | exact (Kd.C_below HR0.out HB.out) | (with_reducible refine Kd.C_alloc ?_ _) | (with_reducible refine Kd.C_drewN ?_ _) | (with_reducible refine Kd.C_drew ?_))); (case side2 => exact HC0.out); rintro e w27 ⟨rfl, hb⟩; refine ⟨_, rfl, ?_⟩; have n0_ := Aside0.mk (below_step (by repeat (first | (with_reducible first | exact HB.out | apply below_alloc | apply pw_below_drewN | apply below_drew1) | exact HB.out)) hb); clear HB; have HB := n0_; clear n0_; (try clear hb); (try clear hb2); (try clear hk); (try clear hi)) | ((with_reducible refine gate_callee (f := 18) rfl ?_); refine goesL_ (some 16) rfl rfl Try.func18 (by kernel_rfl) rfl #[.slice A0 l0.length c0] rfl (by (try simp only [List.map_toArray, List.map_cons, List.map_nil]); first | done | rfl | (simp only [List.length_drop, List.length_take]; rfl)) ?_; (with_reducible refine (pontoonref06_Locks.calls kj3 _ _ l0 false _ ?side1 ?side2 A12.out).mono ?_); (case side1 => repeat (first | exact (Kd.C_below HR0.out HB.out) | (with_reducible refine Kd.C_alloc ?_ _) | (with_reducible refine Kd.C_drewN ?_ _) | (with_reducible refine Kd.C_drew ?_))); (case side2 => exact HC0.out); rintro e w28 ⟨rfl, hb⟩; refine ⟨_, rfl, ?_⟩; have n0_ := Aside0.mk (below_step (by repeat (first | (with_reducible first | exact HB.out | apply below_alloc | apply pw_below_drewN | apply below_drew1) | exact HB.out)) hb); clear HB; have HB := n0_; clear n0_; (try clear hb); (try clear hb2); (try clear hk); (try clear hi)) | (go_at_call 27; (with_reducible refine (pontoonref06_system.calls kj3 _ _ l0 false _ ?side1 ?side2 A16.out).mono ?_); (case side1 => repeat (first | exact (Kd.C_below HR0.out HB.out) | (with_reducible refine Kd.C_alloc ?_ _) | (with_reducible refine Kd.C_drewN ?_ _) | (with_reducible refine Kd.C_drew ?_))); (case side2 => exact HC0.out); rintro e w' ⟨rfl, ⟨nd, rfl⟩⟩) | ((with_reducible refine gate_dst (N := 23) rfl ?_); (try (refine gate_guard (by rfl) ?_; dsimp only)); refine Kd.R_lit Kd.string _ 9 ?hg (N := 23) ?hd (xs := ([(⟨#[110, 111, 119]⟩ : ByteArray), (⟨#[114, 97, 110, 100, 111, 109]⟩ : ByteArray), (⟨#[110, 101, 120, 116, 118, 97, 108]⟩ : ByteArray), (⟨#[99, 117, 114, 114, 118, 97, 108]⟩ : ByteArray), (⟨#[115, 101, 116, 118, 97, 108]⟩ : ByteArray), (⟨#[108, 97, 115, 116, 118, 97, 108]⟩ : ByteArray), (⟨#[99, 108, 111, 99, 107, 95, 116, 105, 109, 101, 115, 116, 97, 109, 112]⟩ : ByteArray), (⟨#[116, 120, 105, 100, 95, 99, 117, 114, 114, 101, 110, 116]⟩ : ByteArray)] : List ByteArray)) (inner := [.string (⟨#[110, 111, 119]⟩ : ByteArray), .string (⟨#[114, 97, 110, 100, 111, 109]⟩ : ByteArray), .string (⟨#[110, 101, 120, 116, 118, 97, 108]⟩ : ByteArray), .string (⟨#[99, 117, 114, 114, 118, 97, 108]⟩ : ByteArray), .string (⟨#[115, 101, 116, 118, 97, 108]⟩ : ByteArray), .string (⟨#[108, 97, 115, 116, 118, 97, 108]⟩ : ByteArray), .string (⟨#[99, 108, 111, 99, 107, 95, 116, 105, 109, 101, 115, 116, 97, 109, 112]⟩ : ByteArray), .string (⟨#[116, 120, 105, 100, 95, 99, 117, 114, 114, 101, 110, 116]⟩ : ByteArray)]) (ok := fun _ => True) (okp := fun _ => True) ?hr ?hp (fun _ hk => hk) trivial (Below.refl _ _) (Nat.le_refl _) (by simp) ?_; (case hd => rfl); (case hg => rfl); (case hr => first | (go_simp; done) | (go_simp; rfl)); (case hp => exact (Reps.one (show Kd.M Kd.string _ _ _ (⟨#[110, 111, 119]⟩ : ByteArray) [.string (⟨#[110, 111, 119]⟩ : ByteArray)] from rfl) (Reps.one (show Kd.M Kd.string _ _ _ (⟨#[114, 97, 110, 100, 111, 109]⟩ : ByteArray) [.string (⟨#[114, 97, 110, 100, 111, 109]⟩ : ByteArray)] from rfl) (Reps.one (show Kd.M Kd.string _ _ _ (⟨#[110, 101, 120, 116, 118, 97, 108]⟩ : ByteArray) [.string (⟨#[110, 101, 120, 116, 118, 97, 108]⟩ : ByteArray)] from rfl) (Reps.one (show Kd.M Kd.string _ _ _ (⟨#[99, 117, 114, 114, 118, 97, 108]⟩ : ByteArray) [.string (⟨#[99, 117, 114, 114, 118, 97, 108]⟩ : ByteArray)] from rfl) (Reps.one (show Kd.M Kd.string _ _ _ (⟨#[115, 101, 116, 118, 97, 108]⟩ : ByteArray) [.string (⟨#[115, 101, 116, 118, 97, 108]⟩ : ByteArray)] from rfl) (Reps.one (show Kd.M Kd.string _ _ _ (⟨#[108, 97, 115, 116, 118, 97, 108]⟩ : ByteArray) [.string (⟨#[108, 97, 115, 116, 118, 97, 108]⟩ : ByteArray)] from rfl) (Reps.one (show Kd.M Kd.string _ _ _ (⟨#[99, 108, 111, 99, 107, 95, 116, 105, 109, 101, 115, 116, 97, 109, 112]⟩ : ByteArray) [.string (⟨#[99, 108, 111, 99, 107, 95, 116, 105, 109, 101, 115, 116, 97, 109, 112]⟩ : ByteArray)] from rfl) (Reps.one (show Kd.M Kd.string _ _ _ (⟨#[116, 120, 105, 100, 95, 99, 117, 114, 114, 101, 110, 116]⟩ : ByteArray) [.string (⟨#[116, 120, 105, 100, 95, 99, 117, 114, 114, 101, 110, 116]⟩ : ByteArray)] from rfl) (Reps.none _ _)))))))))); intro v219 w29 ho30 hb hg_ hnew_; clear hg_ hnew_; (first | rw [← Ny218.out] at ho30 | (simp only [Int.reduceToNat] at ho30; rw [← Ny218.out] at ho30)); have n0_ := Aside0.mk (Kd.R_lower ho30 (below_size (by repeat (first | (with_reducible first | exact HB.out | apply below_alloc | apply pw_below_drewN | apply below_drew1) | exact HB.out)))); have n1_ := Aside0.mk (below_step (by repeat (first | (with_reducible first | exact HB.out | apply below_alloc | apply pw_below_drewN | apply below_drew1) | exact HB.out)) hb); clear HB; have HO220 := n0_; have HB := n1_; clear n0_ n1_; clear hb ho30; obtain ⟨Ao31, co31, eo31⟩ := Kd.R_slice HO220.out; subst eo31) | (go_at_call 16; (with_reducible refine (pontoonref06_Calls.calls kj3 _ _ l0 _ _ y218 false _ ?side1 ?side2 ?side3 ?side4 A20.out).mono ?_); (case side1 => repeat (first | exact (Kd.C_below HR0.out HB.out) | (with_reducible refine Kd.C_alloc ?_ _) | (with_reducible refine Kd.C_drewN ?_ _) | (with_reducible refine Kd.C_drew ?_))); (case side2 => exact HC0.out); (case side3 => repeat (first | exact (Kd.R_reads' HO220.out).2.2 | (with_reducible refine Kd.C_alloc ?_ _) | (with_reducible refine Kd.C_drewN ?_ _) | (with_reducible refine Kd.C_drew ?_))); (case side4 => exact (Kd.R_reads' HO220.out).2.1); rintro e w' ⟨rfl, ⟨nd, rfl⟩⟩))
                  go_ret
                  exact ⟨by first | rfl | (simp [errW_none, errW_some] <;> rfl) | (simp [*, errW_none, errW_some] <;> rfl), by repeat (first | (with_reducible first | exact HB.out | apply below_alloc | apply pw_below_drewN | apply below_drew1) | exact HB.out)⟩
        · replace c8 := Bool.eq_false_iff.mpr c8
          subst c8
          have H1 : (if t214.toList = ([105, 110, 115, 101, 114, 116] : List UInt8) then (pontoonref06_Of.j1 kj3 l0 t214 (t214.toList == ([105, 110, 115, 101, 114, 116] : List UInt8))) else (if t214.toList = ([117, 112, 100, 97, 116, 101] : List UInt8) then (pontoonref06_Of.j1 kj3 l0 t214 (t214.toList == ([117, 112, 100, 97, 116, 101] : List UInt8))) else (if t214.toList = ([100, 101, 108, 101, 116, 101] : List UInt8) then (pontoonref06_Of.j1 kj3 l0 t214 (t214.toList == ([100, 101, 108, 101, 116, 101] : List UInt8))) else (if t214.toList = ([116, 114, 117, 110, 99, 97, 116, 101] : List UInt8) then (pontoonref06_Of.j1 kj3 l0 t214 (t214.toList == ([116, 114, 117, 110, 99, 97, 116, 101] : List UInt8))) else (pontoonref06_Of.j1 kj3 l0 t214 (t214.toList == ([109, 101, 114, 103, 101] : List UInt8))))))) = some r := by rw [if_neg (show ¬ (false = true) by decide)] at H; exact H
          clear H
          have H := H1
          clear H1
          have HC32 := Aside0.mk H
          clear H
          go_upto_if 26 with (fail)
          go_cut [26] (fun v26 wc => ∃ (kq : Nat) (x26_31 : Bool), v26 = .bool x26_31 ∧ Aside0 (pontoonref06_Of.j1 kq l0 t214 x26_31 = some r) ∧ Aside0 (kq ≤ kj3) ∧ Aside0 (Below w.heap.size w wc))
          case first =>
            have H := HC32.out
            clear HC32
            by_cases c33 : t214.toList = ([105, 110, 115, 101, 114, 116] : List UInt8)
            · rw [if_pos c33] at H
              have c33b0 : (t214.toList == ([105, 110, 115, 101, 114, 116] : List UInt8)) = true := beq_iff_eq.mpr c33
              have c33b1 : (t214.toList != ([105, 110, 115, 101, 114, 116] : List UInt8)) = false := bne_eq_false_iff_eq.mpr c33
              clear c33
              (first | rw [c33b0] | (simp only [i64_w, i32_w]; rw [c33b0]) | skip)
              have H' := Aside0.mk H
              clear H
              go_wp2
              go_meet
              case rel => exact ⟨_, ((t214.toList == ([105, 110, 115, 101, 114, 116] : List UInt8))), (by first | rfl | (simp; done) | (simp [*]; done)), H', ⟨by have := HJ3.out; first | omega | exact Nat.le_refl _⟩, ⟨by repeat (first | (with_reducible first | exact HB.out | apply below_alloc | apply pw_below_drewN | apply below_drew1) | exact HB.out)⟩⟩
            · rw [if_neg c33] at H
              have c33b0 : (t214.toList == ([105, 110, 115, 101, 114, 116] : List UInt8)) = false := beq_eq_false_iff_ne.mpr c33
              have c33b1 : (t214.toList != ([105, 110, 115, 101, 114, 116] : List UInt8)) = true := bne_iff_ne.mpr c33
              (first | rw [c33b0] | (simp only [i64_w, i32_w]; rw [c33b0]) | skip)
              by_cases c34 : t214.toList = ([117, 112, 100, 97, 116, 101] : List UInt8)
              · rw [if_pos c34] at H
                have c34b0 : (t214.toList == ([117, 112, 100, 97, 116, 101] : List UInt8)) = true := beq_iff_eq.mpr c34
                have c34b1 : (t214.toList != ([117, 112, 100, 97, 116, 101] : List UInt8)) = false := bne_eq_false_iff_eq.mpr c34
                clear c34
                have H' := Aside0.mk H
                clear H
                go_wp2
                go_meet
                case rel => exact ⟨_, ((t214.toList == ([117, 112, 100, 97, 116, 101] : List UInt8))), (by first | rfl | (simp; done) | (simp [*]; done)), H', ⟨by have := HJ3.out; first | omega | exact Nat.le_refl _⟩, ⟨by repeat (first | (with_reducible first | exact HB.out | apply below_alloc | apply pw_below_drewN | apply below_drew1) | exact HB.out)⟩⟩
              · rw [if_neg c34] at H
                have c34b0 : (t214.toList == ([117, 112, 100, 97, 116, 101] : List UInt8)) = false := beq_eq_false_iff_ne.mpr c34
                have c34b1 : (t214.toList != ([117, 112, 100, 97, 116, 101] : List UInt8)) = true := bne_iff_ne.mpr c34
                by_cases c35 : t214.toList = ([100, 101, 108, 101, 116, 101] : List UInt8)
                · rw [if_pos c35] at H
                  have c35b0 : (t214.toList == ([100, 101, 108, 101, 116, 101] : List UInt8)) = true := beq_iff_eq.mpr c35
                  have c35b1 : (t214.toList != ([100, 101, 108, 101, 116, 101] : List UInt8)) = false := bne_eq_false_iff_eq.mpr c35
                  clear c35
                  have H' := Aside0.mk H
                  clear H
                  go_wp2
                  go_meet
                  case rel => exact ⟨_, ((t214.toList == ([100, 101, 108, 101, 116, 101] : List UInt8))), (by first | rfl | (simp; done) | (simp [*]; done)), H', ⟨by have := HJ3.out; first | omega | exact Nat.le_refl _⟩, ⟨by repeat (first | (with_reducible first | exact HB.out | apply below_alloc | apply pw_below_drewN | apply below_drew1) | exact HB.out)⟩⟩
                · rw [if_neg c35] at H
                  have c35b0 : (t214.toList == ([100, 101, 108, 101, 116, 101] : List UInt8)) = false := beq_eq_false_iff_ne.mpr c35
                  have c35b1 : (t214.toList != ([100, 101, 108, 101, 116, 101] : List UInt8)) = true := bne_iff_ne.mpr c35
                  by_cases c36 : t214.toList = ([116, 114, 117, 110, 99, 97, 116, 101] : List UInt8)
                  · rw [if_pos c36] at H
                    have c36b0 : (t214.toList == ([116, 114, 117, 110, 99, 97, 116, 101] : List UInt8)) = true := beq_iff_eq.mpr c36
                    have c36b1 : (t214.toList != ([116, 114, 117, 110, 99, 97, 116, 101] : List UInt8)) = false := bne_eq_false_iff_eq.mpr c36
                    clear c36
                    have H' := Aside0.mk H
                    clear H
                    go_wp2
                    go_meet
                    case rel => exact ⟨_, ((t214.toList == ([116, 114, 117, 110, 99, 97, 116, 101] : List UInt8))), (by first | rfl | (simp; done) | (simp [*]; done)), H', ⟨by have := HJ3.out; first | omega | exact Nat.le_refl _⟩, ⟨by repeat (first | (with_reducible first | exact HB.out | apply below_alloc | apply pw_below_drewN | apply below_drew1) | exact HB.out)⟩⟩
                  · rw [if_neg c36] at H
                    have c36b0 : (t214.toList == ([116, 114, 117, 110, 99, 97, 116, 101] : List UInt8)) = false := beq_eq_false_iff_ne.mpr c36
                    have c36b1 : (t214.toList != ([116, 114, 117, 110, 99, 97, 116, 101] : List UInt8)) = true := bne_iff_ne.mpr c36
                    have H' := Aside0.mk H
                    clear H
                    go_wp2
                    go_meet
                    case rel => exact ⟨_, ((t214.toList == ([109, 101, 114, 103, 101] : List UInt8))), (by first | rfl | (simp; done) | (simp [*]; done)), H', ⟨by have := HJ3.out; first | omega | exact Nat.le_refl _⟩, ⟨by repeat (first | (with_reducible first | exact HB.out | apply below_alloc | apply pw_below_drewN | apply below_drew1) | exact HB.out)⟩⟩
          case rest =>
            clear HC32
            try clear c1
            try clear c2
            try clear c2b0
            try clear c2b1
            try clear c2b2
            try clear p2
            try clear c3
            try clear c5
            try clear c5b0
            try clear c5b1
            try clear c6
            try clear c6b0
            try clear c6b1
            try clear c7
            try clear c7b0
            try clear c7b1
            try clear c8
            try clear c10
            try clear c11
            try clear c13
            try clear c17
            try clear c18
            try clear c21
            try clear c25
            try clear c26
            try clear c33
            try clear c33b0
            try clear c33b1
            try clear c34
            try clear c34b0
            try clear c34b1
            try clear c35
            try clear c35b0
            try clear c35b1
            try clear c36
            try clear c36b0
            try clear c36b1
            try clear p2
            obtain ⟨kq, x26_31, rfl, HA, HJ31, HB⟩ := hcut
            cases kq with
            | zero => exact absurd HA.out (by simp [pontoonref06_Of.j1])
            | succ kj31 =>
              have H := HA.out
              clear HA
              simp only [pontoonref06_Of.j1] at H
              by_cases c37 : x26_31 = true
              · subst c37
                have H1 : (some 2) = some r := by rw [if_pos rfl] at H; exact H
                clear H
                have H := H1
                clear H1
                obtain rfl := Option.some.inj H
                go_wp2
                go_ret
                exact ⟨by first | rfl | (simp [errW_none, errW_some] <;> rfl) | (simp [*, errW_none, errW_some] <;> rfl), by repeat (first | (with_reducible first | exact HB.out | apply below_alloc | apply pw_below_drewN | apply below_drew1) | exact HB.out)⟩
              · replace c37 := Bool.eq_false_iff.mpr c37
                subst c37
                have H1 : (if t214.toList = ([98, 101, 103, 105, 110] : List UInt8) then (some 3) else (if t214.toList = ([115, 116, 97, 114, 116] : List UInt8) then ((pontoonref06_word.f l0 1).bind fun t222 => (if t222.toList = ([116, 114, 97, 110, 115, 97, 99, 116, 105, 111, 110] : List UInt8) then (some 3) else (some 8))) else (if t214.toList = ([99, 111, 109, 109, 105, 116] : List UInt8) then (pontoonref06_Of.j2 kj31 l0 t214 (t214.toList == ([99, 111, 109, 109, 105, 116] : List UInt8))) else (pontoonref06_Of.j2 kj31 l0 t214 (t214.toList == ([101, 110, 100] : List UInt8)))))) = some r := by rw [if_neg (show ¬ (false = true) by decide)] at H; exact H
                clear H
                have H := H1
                clear H1
                by_cases c38 : t214.toList = ([98, 101, 103, 105, 110] : List UInt8)
                · rw [if_pos c38] at H
                  have c38b0 : (t214.toList == ([98, 101, 103, 105, 110] : List UInt8)) = true := beq_iff_eq.mpr c38
                  have c38b1 : (t214.toList != ([98, 101, 103, 105, 110] : List UInt8)) = false := bne_eq_false_iff_eq.mpr c38
                  clear c38
                  obtain rfl := Option.some.inj H
                  go_wp2
                  go_ret
                  exact ⟨by first | rfl | (simp [errW_none, errW_some] <;> rfl) | (simp [*, errW_none, errW_some] <;> rfl), by repeat (first | (with_reducible first | exact HB.out | apply below_alloc | apply pw_below_drewN | apply below_drew1) | exact HB.out)⟩
                · rw [if_neg c38] at H
                  have c38b0 : (t214.toList == ([98, 101, 103, 105, 110] : List UInt8)) = false := beq_eq_false_iff_ne.mpr c38
                  have c38b1 : (t214.toList != ([98, 101, 103, 105, 110] : List UInt8)) = true := bne_iff_ne.mpr c38
                  by_cases c39 : t214.toList = ([115, 116, 97, 114, 116] : List UInt8)
                  · rw [if_pos c39] at H
                    have c39b0 : (t214.toList == ([115, 116, 97, 114, 116] : List UInt8)) = true := beq_iff_eq.mpr c39
                    have c39b1 : (t214.toList != ([115, 116, 97, 114, 116] : List UInt8)) = false := bne_eq_false_iff_eq.mpr c39
                    clear c39
                    replace H := Option.bind_eq_some_iff.mp H
                    obtain ⟨t222, A400, H⟩ := H
                    replace H : (if t222.toList = ([116, 114, 97, 110, 115, 97, 99, 116, 105, 111, 110] : List UInt8) then (some 3) else (some 8)) = some r := H
                    have A40 := Aside0.mk A400
                    clear A400
                    by_cases c41 : t222.toList = ([116, 114, 97, 110, 115, 97, 99, 116, 105, 111, 110] : List UInt8)
                    · rw [if_pos c41] at H
                      have c41b0 : (t222.toList == ([116, 114, 97, 110, 115, 97, 99, 116, 105, 111, 110] : List UInt8)) = true := beq_iff_eq.mpr c41
                      have c41b1 : (t222.toList != ([116, 114, 97, 110, 115, 97, 99, 116, 105, 111, 110] : List UInt8)) = false := bne_eq_false_iff_eq.mpr c41
                      clear c41
                      obtain rfl := Option.some.inj H
                      go_wp2_with (first | ((with_reducible refine gate_callee (f := 25) rfl ?_); refine goesL_ (some 37) rfl rfl Try.func25 (by kernel_rfl) rfl #[.slice A0 l0.length c0, .int .i64 1] rfl (by (try simp only [List.map_toArray, List.map_cons, List.map_nil]); first | done | rfl | (simp only [List.length_drop, List.length_take]; rfl)) ?_; (with_reducible refine (pontoonref06_word.calls _ _ l0 1 t222 _ ?side1 ?side2 A40.out).mono ?_); (case side1 => repeat (first | exact (Kd.C_below HR0.out HB.out) | (with_reducible refine Kd.C_alloc ?_ _) | (with_reducible refine Kd.C_drewN ?_ _) | (with_reducible refine Kd.C_drew ?_))); (case side2 => exact HC0.out); rintro e w' ⟨rfl, ⟨nd, rfl⟩⟩; refine ⟨_, rfl, ?_⟩))
                      go_ret
                      exact ⟨by first | rfl | (simp [errW_none, errW_some] <;> rfl) | (simp [*, errW_none, errW_some] <;> rfl), by repeat (first | (with_reducible first | exact HB.out | apply below_alloc | apply pw_below_drewN | apply below_drew1) | exact HB.out)⟩
                    · rw [if_neg c41] at H
                      have c41b0 : (t222.toList == ([116, 114, 97, 110, 115, 97, 99, 116, 105, 111, 110] : List UInt8)) = false := beq_eq_false_iff_ne.mpr c41
                      have c41b1 : (t222.toList != ([116, 114, 97, 110, 115, 97, 99, 116, 105, 111, 110] : List UInt8)) = true := bne_iff_ne.mpr c41
                      obtain rfl := Option.some.inj H
                      go_wp2_with (first | ((with_reducible refine gate_callee (f := 25) rfl ?_); refine goesL_ (some 37) rfl rfl Try.func25 (by kernel_rfl) rfl #[.slice A0 l0.length c0, .int .i64 1] rfl (by (try simp only [List.map_toArray, List.map_cons, List.map_nil]); first | done | rfl | (simp only [List.length_drop, List.length_take]; rfl)) ?_; (with_reducible refine (pontoonref06_word.calls _ _ l0 1 t222 _ ?side1 ?side2 A40.out).mono ?_); (case side1 => repeat (first | exact (Kd.C_below HR0.out HB.out) | (with_reducible refine Kd.C_alloc ?_ _) | (with_reducible refine Kd.C_drewN ?_ _) | (with_reducible refine Kd.C_drew ?_))); (case side2 => exact HC0.out); rintro e w' ⟨rfl, ⟨nd, rfl⟩⟩; refine ⟨_, rfl, ?_⟩))
                      go_ret
                      exact ⟨by first | rfl | (simp [errW_none, errW_some] <;> rfl) | (simp [*, errW_none, errW_some] <;> rfl), by repeat (first | (with_reducible first | exact HB.out | apply below_alloc | apply pw_below_drewN | apply below_drew1) | exact HB.out)⟩
                  · rw [if_neg c39] at H
                    have c39b0 : (t214.toList == ([115, 116, 97, 114, 116] : List UInt8)) = false := beq_eq_false_iff_ne.mpr c39
                    have c39b1 : (t214.toList != ([115, 116, 97, 114, 116] : List UInt8)) = true := bne_iff_ne.mpr c39
                    have HC42 := Aside0.mk H
                    clear H
                    go_upto_if 39 with (fail)
                    go_cut [39] (fun v39 wc => ∃ (kq : Nat) (x39_41 : Bool), v39 = .bool x39_41 ∧ Aside0 (pontoonref06_Of.j2 kq l0 t214 x39_41 = some r) ∧ Aside0 (kq ≤ kj31) ∧ Aside0 (Below w.heap.size w wc))
                    case first =>
                      have H := HC42.out
                      clear HC42
                      by_cases c43 : t214.toList = ([99, 111, 109, 109, 105, 116] : List UInt8)
                      · rw [if_pos c43] at H
                        have c43b0 : (t214.toList == ([99, 111, 109, 109, 105, 116] : List UInt8)) = true := beq_iff_eq.mpr c43
                        have c43b1 : (t214.toList != ([99, 111, 109, 109, 105, 116] : List UInt8)) = false := bne_eq_false_iff_eq.mpr c43
                        clear c43
                        (first | rw [c43b0] | (simp only [i64_w, i32_w]; rw [c43b0]) | skip)
                        have H' := Aside0.mk H
                        clear H
                        go_wp2
                        go_meet
                        case rel => exact ⟨_, ((t214.toList == ([99, 111, 109, 109, 105, 116] : List UInt8))), (by first | rfl | (simp; done) | (simp [*]; done)), H', ⟨by have := HJ3.out; have := HJ31.out; first | omega | exact Nat.le_refl _⟩, ⟨by repeat (first | (with_reducible first | exact HB.out | apply below_alloc | apply pw_below_drewN | apply below_drew1) | exact HB.out)⟩⟩
                      · rw [if_neg c43] at H
                        have c43b0 : (t214.toList == ([99, 111, 109, 109, 105, 116] : List UInt8)) = false := beq_eq_false_iff_ne.mpr c43
                        have c43b1 : (t214.toList != ([99, 111, 109, 109, 105, 116] : List UInt8)) = true := bne_iff_ne.mpr c43
                        (first | rw [c43b0] | (simp only [i64_w, i32_w]; rw [c43b0]) | skip)
                        have H' := Aside0.mk H
                        clear H
                        go_wp2
                        go_meet
                        case rel => exact ⟨_, ((t214.toList == ([101, 110, 100] : List UInt8))), (by first | rfl | (simp; done) | (simp [*]; done)), H', ⟨by have := HJ3.out; have := HJ31.out; first | omega | exact Nat.le_refl _⟩, ⟨by repeat (first | (with_reducible first | exact HB.out | apply below_alloc | apply pw_below_drewN | apply below_drew1) | exact HB.out)⟩⟩
                    case rest =>
                      clear HC42
                      try clear c1
                      try clear c2
                      try clear c2b0
                      try clear c2b1
                      try clear c2b2
                      try clear p2
                      try clear c3
                      try clear c4
                      try clear c5
                      try clear c5b0
                      try clear c5b1
                      try clear c6
                      try clear c6b0
                      try clear c6b1
                      try clear c7
                      try clear c7b0
                      try clear c7b1
                      try clear c8
                      try clear c10
                      try clear c11
                      try clear c13
                      try clear c17
                      try clear c18
                      try clear c21
                      try clear c25
                      try clear c26
                      try clear c33
                      try clear c33b0
                      try clear c33b1
                      try clear c34
                      try clear c34b0
                      try clear c34b1
                      try clear c35
                      try clear c35b0
                      try clear c35b1
                      try clear c36
                      try clear c36b0
                      try clear c36b1
                      try clear c37
                      try clear c38
                      try clear c38b0
                      try clear c38b1
                      try clear c39
                      try clear c39b0
                      try clear c39b1
                      try clear c41
                      try clear c41b0
                      try clear c41b1
                      try clear c43
                      try clear c43b0
                      try clear c43b1
                      try clear p2
                      obtain ⟨kq, x39_41, rfl, HA, HJ41, HB⟩ := hcut
                      cases kq with
                      | zero => exact absurd HA.out (by simp [pontoonref06_Of.j2])
                      | succ kj41 =>
                        have H := HA.out
                        clear HA
                        simp only [pontoonref06_Of.j2] at H
                        by_cases c44 : x39_41 = true
                        · subst c44
                          have H1 : (some 4) = some r := by rw [if_pos rfl] at H; exact H
                          clear H
                          have H := H1
                          clear H1
                          obtain rfl := Option.some.inj H
                          go_wp2
                          go_ret
                          exact ⟨by first | rfl | (simp [errW_none, errW_some] <;> rfl) | (simp [*, errW_none, errW_some] <;> rfl), by repeat (first | (with_reducible first | exact HB.out | apply below_alloc | apply pw_below_drewN | apply below_drew1) | exact HB.out)⟩
                        · replace c44 := Bool.eq_false_iff.mpr c44
                          subst c44
                          have H1 : (if t214.toList = ([114, 111, 108, 108, 98, 97, 99, 107] : List UInt8) then (pontoonref06_Of.j3 kj41 l0 t214 (t214.toList == ([114, 111, 108, 108, 98, 97, 99, 107] : List UInt8))) else (pontoonref06_Of.j3 kj41 l0 t214 (t214.toList == ([97, 98, 111, 114, 116] : List UInt8)))) = some r := by rw [if_neg (show ¬ (false = true) by decide)] at H; exact H
                          clear H
                          have H := H1
                          clear H1
                          have HC45 := Aside0.mk H
                          clear H
                          go_upto_if 42 with (fail)
                          go_cut [42] (fun v42 wc => ∃ (kq : Nat) (x42_44 : Bool), v42 = .bool x42_44 ∧ Aside0 (pontoonref06_Of.j3 kq l0 t214 x42_44 = some r) ∧ Aside0 (kq ≤ kj41) ∧ Aside0 (Below w.heap.size w wc))
                          case first =>
                            have H := HC45.out
                            clear HC45
                            by_cases c46 : t214.toList = ([114, 111, 108, 108, 98, 97, 99, 107] : List UInt8)
                            · rw [if_pos c46] at H
                              have c46b0 : (t214.toList == ([114, 111, 108, 108, 98, 97, 99, 107] : List UInt8)) = true := beq_iff_eq.mpr c46
                              have c46b1 : (t214.toList != ([114, 111, 108, 108, 98, 97, 99, 107] : List UInt8)) = false := bne_eq_false_iff_eq.mpr c46
                              clear c46
                              (first | rw [c46b0] | (simp only [i64_w, i32_w]; rw [c46b0]) | skip)
                              have H' := Aside0.mk H
                              clear H
                              go_wp2
                              go_meet
                              case rel => exact ⟨_, ((t214.toList == ([114, 111, 108, 108, 98, 97, 99, 107] : List UInt8))), (by first | rfl | (simp; done) | (simp [*]; done)), H', ⟨by have := HJ3.out; have := HJ31.out; have := HJ41.out; first | omega | exact Nat.le_refl _⟩, ⟨by repeat (first | (with_reducible first | exact HB.out | apply below_alloc | apply pw_below_drewN | apply below_drew1) | exact HB.out)⟩⟩
                            · rw [if_neg c46] at H
                              have c46b0 : (t214.toList == ([114, 111, 108, 108, 98, 97, 99, 107] : List UInt8)) = false := beq_eq_false_iff_ne.mpr c46
                              have c46b1 : (t214.toList != ([114, 111, 108, 108, 98, 97, 99, 107] : List UInt8)) = true := bne_iff_ne.mpr c46
                              (first | rw [c46b0] | (simp only [i64_w, i32_w]; rw [c46b0]) | skip)
                              have H' := Aside0.mk H
                              clear H
                              go_wp2
                              go_meet
                              case rel => exact ⟨_, ((t214.toList == ([97, 98, 111, 114, 116] : List UInt8))), (by first | rfl | (simp; done) | (simp [*]; done)), H', ⟨by have := HJ3.out; have := HJ31.out; have := HJ41.out; first | omega | exact Nat.le_refl _⟩, ⟨by repeat (first | (with_reducible first | exact HB.out | apply below_alloc | apply pw_below_drewN | apply below_drew1) | exact HB.out)⟩⟩
                          case rest =>
                            clear HC45
                            try clear c1
                            try clear c2
                            try clear c2b0
                            try clear c2b1
                            try clear c2b2
                            try clear p2
                            try clear c3
                            try clear c4
                            try clear c5
                            try clear c5b0
                            try clear c5b1
                            try clear c6
                            try clear c6b0
                            try clear c6b1
                            try clear c7
                            try clear c7b0
                            try clear c7b1
                            try clear c8
                            try clear c10
                            try clear c11
                            try clear c13
                            try clear c17
                            try clear c18
                            try clear c21
                            try clear c25
                            try clear c26
                            try clear c33
                            try clear c33b0
                            try clear c33b1
                            try clear c34
                            try clear c34b0
                            try clear c34b1
                            try clear c35
                            try clear c35b0
                            try clear c35b1
                            try clear c36
                            try clear c36b0
                            try clear c36b1
                            try clear c37
                            try clear c38
                            try clear c38b0
                            try clear c38b1
                            try clear c39
                            try clear c39b0
                            try clear c39b1
                            try clear c41
                            try clear c41b0
                            try clear c41b1
                            try clear c43
                            try clear c43b0
                            try clear c43b1
                            try clear c44
                            try clear c46
                            try clear c46b0
                            try clear c46b1
                            try clear p2
                            obtain ⟨kq, x42_44, rfl, HA, HJ44, HB⟩ := hcut
                            cases kq with
                            | zero => exact absurd HA.out (by simp [pontoonref06_Of.j3])
                            | succ kj44 =>
                              have H := HA.out
                              clear HA
                              simp only [pontoonref06_Of.j3] at H
                              by_cases c47 : x42_44 = true
                              · subst c47
                                have H1 : ((pontoonref06_Has.f kj44 l0 (([(⟨#[116, 111]⟩ : ByteArray)] : List ByteArray))).bind fun t226 => (if t226 = true then (some 8) else (some 5))) = some r := by rw [if_pos rfl] at H; exact H
                                clear H
                                have H := H1
                                clear H1
                                obtain ⟨y223, hy223⟩ : ∃ y_ : List ByteArray, y_ = (([(⟨#[116, 111]⟩ : ByteArray)] : List ByteArray)) := ⟨_, rfl⟩
                                replace H : ((pontoonref06_Has.f kj44 l0 y223).bind fun t226 => (if t226 = true then (some 8) else (some 5))) = some r := by first | (rw [hy223]; with_reducible exact H) | (have H2_ := (Option.bind_some _ _).symm.trans H; rw [hy223]; with_reducible exact H2_) | (have H2_ := (Option.bind_some _ _).symm.trans H; with_reducible exact H2_) | with_reducible exact H | (rw [hy223]; exact H) | exact H
                                have Ny223 := Aside0.mk hy223
                                clear hy223
                                replace H := Option.bind_eq_some_iff.mp H
                                obtain ⟨t226, A480, H⟩ := H
                                replace H : (if t226 = true then (some 8) else (some 5)) = some r := H
                                have A48 := Aside0.mk A480
                                clear A480
                                by_cases c49 : t226 = true
                                · subst c49
                                  have H1 : (some 8) = some r := by rw [if_pos rfl] at H; exact H
                                  clear H
                                  have H := H1
                                  clear H1
                                  obtain rfl := Option.some.inj H
                                  go_wp2_with (first | ((with_reducible refine gate_dst (N := 46) rfl ?_); (try (refine gate_guard (by rfl) ?_; dsimp only)); refine Kd.R_lit Kd.string _ 9 ?hg (N := 46) ?hd (xs := ([(⟨#[116, 111]⟩ : ByteArray)] : List ByteArray)) (inner := [.string (⟨#[116, 111]⟩ : ByteArray)]) (ok := fun _ => True) (okp := fun _ => True) ?hr ?hp (fun _ hk => hk) trivial (Below.refl _ _) (Nat.le_refl _) (by simp) ?_; (case hd => rfl); (case hg => rfl); (case hr => first | (go_simp; done) | (go_simp; rfl)); (case hp => exact (Reps.one (show Kd.M Kd.string _ _ _ (⟨#[116, 111]⟩ : ByteArray) [.string (⟨#[116, 111]⟩ : ByteArray)] from rfl) (Reps.none _ _))); intro v224 w50 ho51 hb hg_ hnew_; clear hg_ hnew_; (first | rw [← Ny223.out] at ho51 | (simp only [Int.reduceToNat] at ho51; rw [← Ny223.out] at ho51)); have n0_ := Aside0.mk (Kd.R_lower ho51 (below_size (by repeat (first | (with_reducible first | exact HB.out | apply below_alloc | apply pw_below_drewN | apply below_drew1) | exact HB.out)))); have n1_ := Aside0.mk (below_step (by repeat (first | (with_reducible first | exact HB.out | apply below_alloc | apply pw_below_drewN | apply below_drew1) | exact HB.out)) hb); clear HB; have HO225 := n0_; have HB := n1_; clear n0_ n1_; clear hb ho51; obtain ⟨Ao52, co52, eo52⟩ := Kd.R_slice HO225.out; subst eo52) | ((with_reducible refine gate_callee (f := 14) rfl ?_); refine goesL_ (some 47) rfl rfl Try.func14 (by kernel_rfl) rfl #[.slice A0 l0.length c0, .slice Ao52 y223.length co52] rfl (by (try simp only [List.map_toArray, List.map_cons, List.map_nil]); first | done | rfl | (simp only [List.length_drop, List.length_take]; rfl)) ?_; (with_reducible refine (pontoonref06_Has.calls kj44 _ _ l0 _ _ y223 true _ ?side1 ?side2 ?side3 ?side4 A48.out).mono ?_); (case side1 => repeat (first | exact (Kd.C_below HR0.out HB.out) | (with_reducible refine Kd.C_alloc ?_ _) | (with_reducible refine Kd.C_drewN ?_ _) | (with_reducible refine Kd.C_drew ?_))); (case side2 => exact HC0.out); (case side3 => repeat (first | exact (Kd.R_reads' HO225.out).2.2 | (with_reducible refine Kd.C_alloc ?_ _) | (with_reducible refine Kd.C_drewN ?_ _) | (with_reducible refine Kd.C_drew ?_))); (case side4 => exact (Kd.R_reads' HO225.out).2.1); rintro e w' ⟨rfl, ⟨nd, rfl⟩⟩; refine ⟨_, rfl, ?_⟩))
                                  go_ret
                                  exact ⟨by first | rfl | (simp [errW_none, errW_some] <;> rfl) | (simp [*, errW_none, errW_some] <;> rfl), by repeat (first | (with_reducible first | exact HB.out | apply below_alloc | apply pw_below_drewN | apply below_drew1) | exact HB.out)⟩
                                · replace c49 := Bool.eq_false_iff.mpr c49
                                  subst c49
                                  have H1 : (some 5) = some r := by rw [if_neg (show ¬ (false = true) by decide)] at H; exact H
                                  clear H
                                  have H := H1
                                  clear H1
                                  obtain rfl := Option.some.inj H
                                  go_wp2_with (first | ((with_reducible refine gate_dst (N := 46) rfl ?_); (try (refine gate_guard (by rfl) ?_; dsimp only)); refine Kd.R_lit Kd.string _ 9 ?hg (N := 46) ?hd (xs := ([(⟨#[116, 111]⟩ : ByteArray)] : List ByteArray)) (inner := [.string (⟨#[116, 111]⟩ : ByteArray)]) (ok := fun _ => True) (okp := fun _ => True) ?hr ?hp (fun _ hk => hk) trivial (Below.refl _ _) (Nat.le_refl _) (by simp) ?_; (case hd => rfl); (case hg => rfl); (case hr => first | (go_simp; done) | (go_simp; rfl)); (case hp => exact (Reps.one (show Kd.M Kd.string _ _ _ (⟨#[116, 111]⟩ : ByteArray) [.string (⟨#[116, 111]⟩ : ByteArray)] from rfl) (Reps.none _ _))); intro v224 w53 ho54 hb hg_ hnew_; clear hg_ hnew_; (first | rw [← Ny223.out] at ho54 | (simp only [Int.reduceToNat] at ho54; rw [← Ny223.out] at ho54)); have n0_ := Aside0.mk (Kd.R_lower ho54 (below_size (by repeat (first | (with_reducible first | exact HB.out | apply below_alloc | apply pw_below_drewN | apply below_drew1) | exact HB.out)))); have n1_ := Aside0.mk (below_step (by repeat (first | (with_reducible first | exact HB.out | apply below_alloc | apply pw_below_drewN | apply below_drew1) | exact HB.out)) hb); clear HB; have HO225 := n0_; have HB := n1_; clear n0_ n1_; clear hb ho54; obtain ⟨Ao55, co55, eo55⟩ := Kd.R_slice HO225.out; subst eo55) | ((with_reducible refine gate_callee (f := 14) rfl ?_); refine goesL_ (some 47) rfl rfl Try.func14 (by kernel_rfl) rfl #[.slice A0 l0.length c0, .slice Ao55 y223.length co55] rfl (by (try simp only [List.map_toArray, List.map_cons, List.map_nil]); first | done | rfl | (simp only [List.length_drop, List.length_take]; rfl)) ?_; (with_reducible refine (pontoonref06_Has.calls kj44 _ _ l0 _ _ y223 false _ ?side1 ?side2 ?side3 ?side4 A48.out).mono ?_); (case side1 => repeat (first | exact (Kd.C_below HR0.out HB.out) | (with_reducible refine Kd.C_alloc ?_ _) | (with_reducible refine Kd.C_drewN ?_ _) | (with_reducible refine Kd.C_drew ?_))); (case side2 => exact HC0.out); (case side3 => repeat (first | exact (Kd.R_reads' HO225.out).2.2 | (with_reducible refine Kd.C_alloc ?_ _) | (with_reducible refine Kd.C_drewN ?_ _) | (with_reducible refine Kd.C_drew ?_))); (case side4 => exact (Kd.R_reads' HO225.out).2.1); rintro e w' ⟨rfl, ⟨nd, rfl⟩⟩; refine ⟨_, rfl, ?_⟩))
                                  go_ret
                                  exact ⟨by first | rfl | (simp [errW_none, errW_some] <;> rfl) | (simp [*, errW_none, errW_some] <;> rfl), by repeat (first | (with_reducible first | exact HB.out | apply below_alloc | apply pw_below_drewN | apply below_drew1) | exact HB.out)⟩
                              · replace c47 := Bool.eq_false_iff.mpr c47
                                subst c47
                                have H1 : (if t214.toList = ([115, 101, 116] : List UInt8) then (some 6) else (if t214.toList = ([114, 101, 115, 101, 116] : List UInt8) then (some 6) else (if t214.toList = ([100, 105, 115, 99, 97, 114, 100] : List UInt8) then (some 6) else (if t214.toList = ([108, 105, 115, 116, 101, 110] : List UInt8) then (some 6) else (if t214.toList = ([117, 110, 108, 105, 115, 116, 101, 110] : List UInt8) then (some 6) else (if t214.toList = ([112, 114, 101, 112, 97, 114, 101] : List UInt8) then (some 6) else (if t214.toList = ([100, 101, 97, 108, 108, 111, 99, 97, 116, 101] : List UInt8) then (some 6) else (if t214.toList = ([100, 101, 99, 108, 97, 114, 101] : List UInt8) then (some 6) else (if t214.toList = ([108, 111, 97, 100] : List UInt8) then (some 6) else (some 8)))))))))) = some r := by rw [if_neg (show ¬ (false = true) by decide)] at H; exact H
                                clear H
                                have H := H1
                                clear H1
                                by_cases c56 : t214.toList = ([115, 101, 116] : List UInt8)
                                · rw [if_pos c56] at H
                                  have c56b0 : (t214.toList == ([115, 101, 116] : List UInt8)) = true := beq_iff_eq.mpr c56
                                  have c56b1 : (t214.toList != ([115, 101, 116] : List UInt8)) = false := bne_eq_false_iff_eq.mpr c56
                                  clear c56
                                  obtain rfl := Option.some.inj H
                                  go_wp2
                                  go_ret
                                  exact ⟨by first | rfl | (simp [errW_none, errW_some] <;> rfl) | (simp [*, errW_none, errW_some] <;> rfl), by repeat (first | (with_reducible first | exact HB.out | apply below_alloc | apply pw_below_drewN | apply below_drew1) | exact HB.out)⟩
                                · rw [if_neg c56] at H
                                  have c56b0 : (t214.toList == ([115, 101, 116] : List UInt8)) = false := beq_eq_false_iff_ne.mpr c56
                                  have c56b1 : (t214.toList != ([115, 101, 116] : List UInt8)) = true := bne_iff_ne.mpr c56
                                  by_cases c57 : t214.toList = ([114, 101, 115, 101, 116] : List UInt8)
                                  · rw [if_pos c57] at H
                                    have c57b0 : (t214.toList == ([114, 101, 115, 101, 116] : List UInt8)) = true := beq_iff_eq.mpr c57
                                    have c57b1 : (t214.toList != ([114, 101, 115, 101, 116] : List UInt8)) = false := bne_eq_false_iff_eq.mpr c57
                                    clear c57
                                    obtain rfl := Option.some.inj H
                                    go_wp2
                                    go_ret
                                    exact ⟨by first | rfl | (simp [errW_none, errW_some] <;> rfl) | (simp [*, errW_none, errW_some] <;> rfl), by repeat (first | (with_reducible first | exact HB.out | apply below_alloc | apply pw_below_drewN | apply below_drew1) | exact HB.out)⟩
                                  · rw [if_neg c57] at H
                                    have c57b0 : (t214.toList == ([114, 101, 115, 101, 116] : List UInt8)) = false := beq_eq_false_iff_ne.mpr c57
                                    have c57b1 : (t214.toList != ([114, 101, 115, 101, 116] : List UInt8)) = true := bne_iff_ne.mpr c57
                                    by_cases c58 : t214.toList = ([100, 105, 115, 99, 97, 114, 100] : List UInt8)
                                    · rw [if_pos c58] at H
                                      have c58b0 : (t214.toList == ([100, 105, 115, 99, 97, 114, 100] : List UInt8)) = true := beq_iff_eq.mpr c58
                                      have c58b1 : (t214.toList != ([100, 105, 115, 99, 97, 114, 100] : List UInt8)) = false := bne_eq_false_iff_eq.mpr c58
                                      clear c58
                                      obtain rfl := Option.some.inj H
                                      go_wp2
                                      go_ret
                                      exact ⟨by first | rfl | (simp [errW_none, errW_some] <;> rfl) | (simp [*, errW_none, errW_some] <;> rfl), by repeat (first | (with_reducible first | exact HB.out | apply below_alloc | apply pw_below_drewN | apply below_drew1) | exact HB.out)⟩
                                    · rw [if_neg c58] at H
                                      have c58b0 : (t214.toList == ([100, 105, 115, 99, 97, 114, 100] : List UInt8)) = false := beq_eq_false_iff_ne.mpr c58
                                      have c58b1 : (t214.toList != ([100, 105, 115, 99, 97, 114, 100] : List UInt8)) = true := bne_iff_ne.mpr c58
                                      by_cases c59 : t214.toList = ([108, 105, 115, 116, 101, 110] : List UInt8)
                                      · rw [if_pos c59] at H
                                        have c59b0 : (t214.toList == ([108, 105, 115, 116, 101, 110] : List UInt8)) = true := beq_iff_eq.mpr c59
                                        have c59b1 : (t214.toList != ([108, 105, 115, 116, 101, 110] : List UInt8)) = false := bne_eq_false_iff_eq.mpr c59
                                        clear c59
                                        obtain rfl := Option.some.inj H
                                        go_wp2
                                        go_ret
                                        exact ⟨by first | rfl | (simp [errW_none, errW_some] <;> rfl) | (simp [*, errW_none, errW_some] <;> rfl), by repeat (first | (with_reducible first | exact HB.out | apply below_alloc | apply pw_below_drewN | apply below_drew1) | exact HB.out)⟩
                                      · rw [if_neg c59] at H
                                        have c59b0 : (t214.toList == ([108, 105, 115, 116, 101, 110] : List UInt8)) = false := beq_eq_false_iff_ne.mpr c59
                                        have c59b1 : (t214.toList != ([108, 105, 115, 116, 101, 110] : List UInt8)) = true := bne_iff_ne.mpr c59
                                        by_cases c60 : t214.toList = ([117, 110, 108, 105, 115, 116, 101, 110] : List UInt8)
                                        · rw [if_pos c60] at H
                                          have c60b0 : (t214.toList == ([117, 110, 108, 105, 115, 116, 101, 110] : List UInt8)) = true := beq_iff_eq.mpr c60
                                          have c60b1 : (t214.toList != ([117, 110, 108, 105, 115, 116, 101, 110] : List UInt8)) = false := bne_eq_false_iff_eq.mpr c60
                                          clear c60
                                          obtain rfl := Option.some.inj H
                                          go_wp2
                                          go_ret
                                          exact ⟨by first | rfl | (simp [errW_none, errW_some] <;> rfl) | (simp [*, errW_none, errW_some] <;> rfl), by repeat (first | (with_reducible first | exact HB.out | apply below_alloc | apply pw_below_drewN | apply below_drew1) | exact HB.out)⟩
                                        · rw [if_neg c60] at H
                                          have c60b0 : (t214.toList == ([117, 110, 108, 105, 115, 116, 101, 110] : List UInt8)) = false := beq_eq_false_iff_ne.mpr c60
                                          have c60b1 : (t214.toList != ([117, 110, 108, 105, 115, 116, 101, 110] : List UInt8)) = true := bne_iff_ne.mpr c60
                                          by_cases c61 : t214.toList = ([112, 114, 101, 112, 97, 114, 101] : List UInt8)
                                          · rw [if_pos c61] at H
                                            have c61b0 : (t214.toList == ([112, 114, 101, 112, 97, 114, 101] : List UInt8)) = true := beq_iff_eq.mpr c61
                                            have c61b1 : (t214.toList != ([112, 114, 101, 112, 97, 114, 101] : List UInt8)) = false := bne_eq_false_iff_eq.mpr c61
                                            clear c61
                                            obtain rfl := Option.some.inj H
                                            go_wp2
                                            go_ret
                                            exact ⟨by first | rfl | (simp [errW_none, errW_some] <;> rfl) | (simp [*, errW_none, errW_some] <;> rfl), by repeat (first | (with_reducible first | exact HB.out | apply below_alloc | apply pw_below_drewN | apply below_drew1) | exact HB.out)⟩
                                          · rw [if_neg c61] at H
                                            have c61b0 : (t214.toList == ([112, 114, 101, 112, 97, 114, 101] : List UInt8)) = false := beq_eq_false_iff_ne.mpr c61
                                            have c61b1 : (t214.toList != ([112, 114, 101, 112, 97, 114, 101] : List UInt8)) = true := bne_iff_ne.mpr c61
                                            by_cases c62 : t214.toList = ([100, 101, 97, 108, 108, 111, 99, 97, 116, 101] : List UInt8)
                                            · rw [if_pos c62] at H
                                              have c62b0 : (t214.toList == ([100, 101, 97, 108, 108, 111, 99, 97, 116, 101] : List UInt8)) = true := beq_iff_eq.mpr c62
                                              have c62b1 : (t214.toList != ([100, 101, 97, 108, 108, 111, 99, 97, 116, 101] : List UInt8)) = false := bne_eq_false_iff_eq.mpr c62
                                              clear c62
                                              obtain rfl := Option.some.inj H
                                              go_wp2
                                              go_ret
                                              exact ⟨by first | rfl | (simp [errW_none, errW_some] <;> rfl) | (simp [*, errW_none, errW_some] <;> rfl), by repeat (first | (with_reducible first | exact HB.out | apply below_alloc | apply pw_below_drewN | apply below_drew1) | exact HB.out)⟩
                                            · rw [if_neg c62] at H
                                              have c62b0 : (t214.toList == ([100, 101, 97, 108, 108, 111, 99, 97, 116, 101] : List UInt8)) = false := beq_eq_false_iff_ne.mpr c62
                                              have c62b1 : (t214.toList != ([100, 101, 97, 108, 108, 111, 99, 97, 116, 101] : List UInt8)) = true := bne_iff_ne.mpr c62
                                              by_cases c63 : t214.toList = ([100, 101, 99, 108, 97, 114, 101] : List UInt8)
                                              · rw [if_pos c63] at H
                                                have c63b0 : (t214.toList == ([100, 101, 99, 108, 97, 114, 101] : List UInt8)) = true := beq_iff_eq.mpr c63
                                                have c63b1 : (t214.toList != ([100, 101, 99, 108, 97, 114, 101] : List UInt8)) = false := bne_eq_false_iff_eq.mpr c63
                                                clear c63
                                                obtain rfl := Option.some.inj H
                                                go_wp2
                                                go_ret
                                                exact ⟨by first | rfl | (simp [errW_none, errW_some] <;> rfl) | (simp [*, errW_none, errW_some] <;> rfl), by repeat (first | (with_reducible first | exact HB.out | apply below_alloc | apply pw_below_drewN | apply below_drew1) | exact HB.out)⟩
                                              · rw [if_neg c63] at H
                                                have c63b0 : (t214.toList == ([100, 101, 99, 108, 97, 114, 101] : List UInt8)) = false := beq_eq_false_iff_ne.mpr c63
                                                have c63b1 : (t214.toList != ([100, 101, 99, 108, 97, 114, 101] : List UInt8)) = true := bne_iff_ne.mpr c63
                                                by_cases c64 : t214.toList = ([108, 111, 97, 100] : List UInt8)
                                                · rw [if_pos c64] at H
                                                  have c64b0 : (t214.toList == ([108, 111, 97, 100] : List UInt8)) = true := beq_iff_eq.mpr c64
                                                  have c64b1 : (t214.toList != ([108, 111, 97, 100] : List UInt8)) = false := bne_eq_false_iff_eq.mpr c64
                                                  clear c64
                                                  obtain rfl := Option.some.inj H
                                                  go_wp2
                                                  go_ret
                                                  exact ⟨by first | rfl | (simp [errW_none, errW_some] <;> rfl) | (simp [*, errW_none, errW_some] <;> rfl), by repeat (first | (with_reducible first | exact HB.out | apply below_alloc | apply pw_below_drewN | apply below_drew1) | exact HB.out)⟩
                                                · rw [if_neg c64] at H
                                                  have c64b0 : (t214.toList == ([108, 111, 97, 100] : List UInt8)) = false := beq_eq_false_iff_ne.mpr c64
                                                  have c64b1 : (t214.toList != ([108, 111, 97, 100] : List UInt8)) = true := bne_iff_ne.mpr c64
                                                  obtain rfl := Option.some.inj H
                                                  go_wp2
                                                  go_ret
                                                  exact ⟨by first | rfl | (simp [errW_none, errW_some] <;> rfl) | (simp [*, errW_none, errW_some] <;> rfl), by repeat (first | (with_reducible first | exact HB.out | apply below_alloc | apply pw_below_drewN | apply below_drew1) | exact HB.out)⟩

end Go.Proofs.Ythfchnoebncpfaa.Pu
