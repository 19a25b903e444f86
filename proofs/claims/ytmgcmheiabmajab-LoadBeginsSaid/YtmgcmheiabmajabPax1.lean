-- Written by a program of this session's (wip/ext/run.py) over the kit's print, with contracts of its own.
import Derived.Test.YtmgcmheiabmajabPax0
namespace Go.Proofs.Ytmgcmheiabmajab.Pa
open Go.RowKit Go.Proofs.YtmgcmheiabmajabW.PrintWords Go.Proofs.YtmgcmheiabmajabW.PrintLast Go.Proofs.YtmgcmheiabmajabW.PrintMore
attribute [local go_sem] max2_int min2_int max_two min_two max_three min_three max_four min_four   -- for this text's walks alone
set_option linter.unusedVariables false
set_option linter.unusedSimpArgs false

/-! ### load_Next: function 9 -/
def load_Next.f (a0 : Int) : Option (Int) := some (IntKind.u64.wrap ((IntKind.u64.wrap (a0 * 6364136223846793005)) + 1442695040888963407))
set_option maxHeartbeats 8000000 in
set_option maxRecDepth 100000 in
theorem load_Next.calls (a0 : Int) (r : Int) (w : World) (h : load_Next.f a0 = some r) :
    Calls Try.prog 9 #[.int .u64 a0] w fun e w' => e = .returned (.int .u64 r) ∧ Drawn0 w w' := by
  have H : (some (IntKind.u64.wrap ((IntKind.u64.wrap (a0 * 6364136223846793005)) + 1442695040888963407))) = some r := h
  clear h
  obtain rfl := Option.some.inj H
  go_enter Try.func9, Try.ntmps9
  go_wp2
  go_ret
  exact ⟨by first | rfl | (simp; done) | (simp [*]; done), by repeat (first | exact Drawn0.refl _ | apply Drawn0.step)⟩

/-! ### load_Draw: function 7 -/
def load_Draw.f (a0 : Int) (a1 : Int) : Option (Int × Int) := if a1 < 1 then (some (0, a0)) else (if a1 > 65536 then (some (0, a0)) else ((load_Next.f a0).bind fun t101 => (if a1 = 0 then (none) else (some (Int.tmod (wrap64 (t101 / 281474976710656)) a1, t101)))))
set_option maxHeartbeats 8000000 in
set_option maxRecDepth 100000 in
theorem load_Draw.calls (a0 : Int) (a1 : Int) (r1 : Int) (r2 : Int) (w : World) (h : load_Draw.f a0 a1 = some (r1, r2)) :
    Calls Try.prog 7 #[.int .u64 a0, .int .i64 a1] w fun e w' => e = .returned (.tuple #[.int .i64 r1, .int .u64 r2]) ∧ Drawn0 w w' := by
  have H : (if a1 < 1 then (some (0, a0)) else (if a1 > 65536 then (some (0, a0)) else ((load_Next.f a0).bind fun t101 => (if a1 = 0 then (none) else (some (Int.tmod (wrap64 (t101 / 281474976710656)) a1, t101)))))) = some (r1, r2) := h
  clear h
  by_cases c3 : a1 < 1
  · rw [if_pos c3] at H
    have c3b0 : decide (a1 < 1) = true := decide_eq_true c3
    clear c3
    simp only [Option.some.injEq, Prod.mk.injEq] at H
    obtain ⟨rfl, rfl⟩ := H
    go_enter Try.func7, Try.ntmps7
    go_wp2
    go_ret2
    exact ⟨by first | rfl | (simp; done) | (simp [*]; done), by repeat (first | exact Drawn0.refl _ | apply Drawn0.step)⟩
  · rw [if_neg c3] at H
    have c3b0 : decide (a1 < 1) = false := decide_eq_false c3
    clear c3
    by_cases c4 : a1 > 65536
    · rw [if_pos c4] at H
      have c4b0 : decide (65536 < a1) = true := decide_eq_true c4
      clear c4
      simp only [Option.some.injEq, Prod.mk.injEq] at H
      obtain ⟨rfl, rfl⟩ := H
      go_enter Try.func7, Try.ntmps7
      go_wp2
      go_ret2
      exact ⟨by first | rfl | (simp; done) | (simp [*]; done), by repeat (first | exact Drawn0.refl _ | apply Drawn0.step)⟩
    · rw [if_neg c4] at H
      have c4b0 : decide (65536 < a1) = false := decide_eq_false c4
      clear c4
      replace H := Option.bind_eq_some_iff.mp H
      obtain ⟨t101, A50, H⟩ := H
      replace H : (if a1 = 0 then (none) else (some (Int.tmod (wrap64 (t101 / 281474976710656)) a1, t101))) = some (r1, r2) := H
      have A5 := Aside0.mk A50
      clear A50
      by_cases c6 : a1 = 0
      · rw [if_pos c6] at H
        exact absurd H (by simp)
      · rw [if_neg c6] at H
        have c6b0 : (a1 == 0) = false := beq_eq_false_iff_ne.mpr c6
        have c6b1 : (a1 != 0) = true := bne_iff_ne.mpr c6
        simp only [Option.some.injEq, Prod.mk.injEq] at H
        obtain ⟨rfl, rfl⟩ := H
        go_enter Try.func7, Try.ntmps7
        go_wp2_with (first | ((with_reducible refine gate_callee (f := 9) rfl ?_); refine goesL_ (some 14) rfl rfl Try.func9 (by kernel_rfl) rfl #[.int .u64 a0] rfl (by (try simp only [List.map_toArray, List.map_cons, List.map_nil]); first | done | rfl | (simp only [List.length_drop, List.length_take]; rfl)) ?_; (with_reducible refine (load_Next.calls a0 t101 _ A5.out).mono ?_); rintro e w' ⟨rfl, ⟨nd, rfl⟩⟩; refine ⟨_, rfl, ?_⟩))
        go_ret2
        exact ⟨by first | rfl | (simp; done) | (simp [*]; done), by repeat (first | exact Drawn0.refl _ | apply Drawn0.step)⟩

-- NOT PRINTED: function 11 (pontoonref27_Same)

-- NOT PRINTED: function 22 (load_maker_draw)

-- NOT PRINTED: function 23 (load_query)

-- NOT PRINTED: function 24 (load_maker_client)

-- NOT PRINTED: function 25 (load_maker_digit)

-- NOT PRINTED: function 26 (load_maker_rare)

-- NOT PRINTED: function 17 (load_maker_one)

-- NOT PRINTED: function 12 (load_Make)

-- NOT PRINTED: function 35 (script_letters)

-- NOT PRINTED: function 36 (script_cut)

-- NOT PRINTED: function 31 (script_Right)

-- NOT PRINTED: function 32 (script_words)

-- NOT PRINTED: function 33 (script_decimal)

-- NOT PRINTED: function 19 (script_Show)

-- NOT PRINTED: function 14 (load_Text)

-- NOT PRINTED: function 6 (pontoonlaw30_known)

/-! ### pontoonref30_Next: function 10 -/
def pontoonref30_Next.f (a0 : Int) : Option (Int) := some (IntKind.u64.wrap ((IntKind.u64.wrap (a0 * 6364136223846793005)) + 1442695040888963407))
set_option maxHeartbeats 8000000 in
set_option maxRecDepth 100000 in
theorem pontoonref30_Next.calls (a0 : Int) (r : Int) (w : World) (h : pontoonref30_Next.f a0 = some r) :
    Calls Try.prog 10 #[.int .u64 a0] w fun e w' => e = .returned (.int .u64 r) ∧ Drawn0 w w' := by
  have H : (some (IntKind.u64.wrap ((IntKind.u64.wrap (a0 * 6364136223846793005)) + 1442695040888963407))) = some r := h
  clear h
  obtain rfl := Option.some.inj H
  go_enter Try.func10, Try.ntmps10
  go_wp2
  go_ret
  exact ⟨by first | rfl | (simp; done) | (simp [*]; done), by repeat (first | exact Drawn0.refl _ | apply Drawn0.step)⟩

/-! ### pontoonref30_Draw: function 8 -/
def pontoonref30_Draw.f (a0 : Int) (a1 : Int) : Option (Int × Int) := if a1 < 1 then (some (0, a0)) else (if a1 > 65536 then (some (0, a0)) else ((pontoonref30_Next.f a0).bind fun t115 => (if a1 = 0 then (none) else (some (Int.tmod (wrap64 (t115 / 281474976710656)) a1, t115)))))
set_option maxHeartbeats 8000000 in
set_option maxRecDepth 100000 in
theorem pontoonref30_Draw.calls (a0 : Int) (a1 : Int) (r1 : Int) (r2 : Int) (w : World) (h : pontoonref30_Draw.f a0 a1 = some (r1, r2)) :
    Calls Try.prog 8 #[.int .u64 a0, .int .i64 a1] w fun e w' => e = .returned (.tuple #[.int .i64 r1, .int .u64 r2]) ∧ Drawn0 w w' := by
  have H : (if a1 < 1 then (some (0, a0)) else (if a1 > 65536 then (some (0, a0)) else ((pontoonref30_Next.f a0).bind fun t115 => (if a1 = 0 then (none) else (some (Int.tmod (wrap64 (t115 / 281474976710656)) a1, t115)))))) = some (r1, r2) := h
  clear h
  by_cases c3 : a1 < 1
  · rw [if_pos c3] at H
    have c3b0 : decide (a1 < 1) = true := decide_eq_true c3
    clear c3
    simp only [Option.some.injEq, Prod.mk.injEq] at H
    obtain ⟨rfl, rfl⟩ := H
    go_enter Try.func8, Try.ntmps8
    go_wp2
    go_ret2
    exact ⟨by first | rfl | (simp; done) | (simp [*]; done), by repeat (first | exact Drawn0.refl _ | apply Drawn0.step)⟩
  · rw [if_neg c3] at H
    have c3b0 : decide (a1 < 1) = false := decide_eq_false c3
    clear c3
    by_cases c4 : a1 > 65536
    · rw [if_pos c4] at H
      have c4b0 : decide (65536 < a1) = true := decide_eq_true c4
      clear c4
      simp only [Option.some.injEq, Prod.mk.injEq] at H
      obtain ⟨rfl, rfl⟩ := H
      go_enter Try.func8, Try.ntmps8
      go_wp2
      go_ret2
      exact ⟨by first | rfl | (simp; done) | (simp [*]; done), by repeat (first | exact Drawn0.refl _ | apply Drawn0.step)⟩
    · rw [if_neg c4] at H
      have c4b0 : decide (65536 < a1) = false := decide_eq_false c4
      clear c4
      replace H := Option.bind_eq_some_iff.mp H
      obtain ⟨t115, A50, H⟩ := H
      replace H : (if a1 = 0 then (none) else (some (Int.tmod (wrap64 (t115 / 281474976710656)) a1, t115))) = some (r1, r2) := H
      have A5 := Aside0.mk A50
      clear A50
      by_cases c6 : a1 = 0
      · rw [if_pos c6] at H
        exact absurd H (by simp)
      · rw [if_neg c6] at H
        have c6b0 : (a1 == 0) = false := beq_eq_false_iff_ne.mpr c6
        have c6b1 : (a1 != 0) = true := bne_iff_ne.mpr c6
        simp only [Option.some.injEq, Prod.mk.injEq] at H
        obtain ⟨rfl, rfl⟩ := H
        go_enter Try.func8, Try.ntmps8
        go_wp2_with (first | ((with_reducible refine gate_callee (f := 10) rfl ?_); refine goesL_ (some 15) rfl rfl Try.func10 (by kernel_rfl) rfl #[.int .u64 a0] rfl (by (try simp only [List.map_toArray, List.map_cons, List.map_nil]); first | done | rfl | (simp only [List.length_drop, List.length_take]; rfl)) ?_; (with_reducible refine (pontoonref30_Next.calls a0 t115 _ A5.out).mono ?_); rintro e w' ⟨rfl, ⟨nd, rfl⟩⟩; refine ⟨_, rfl, ?_⟩))
        go_ret2
        exact ⟨by first | rfl | (simp; done) | (simp [*]; done), by repeat (first | exact Drawn0.refl _ | apply Drawn0.step)⟩

-- NOT PRINTED: function 27 (pontoonref30_State_draw)

-- NOT PRINTED: function 28 (pontoonref30_ask)

-- NOT PRINTED: function 29 (pontoonref01_Digits)

-- NOT PRINTED: function 30 (pontoonref30_State_rare)

-- NOT PRINTED: function 18 (pontoonref30_State_one)

-- NOT PRINTED: function 13 (pontoonref30_Make)

-- NOT PRINTED: function 21 (pontoonref27_letters)

-- NOT PRINTED: function 16 (pontoonref27_Right)

-- NOT PRINTED: function 37 (pontoonref27_words)

-- NOT PRINTED: function 34 (pontoonref27_line)

-- NOT PRINTED: function 20 (pontoonref27_Show)

-- NOT PRINTED: function 15 (pontoonref30_Text)

-- NOT PRINTED: function 3 (pontoonlaw30_LoadMakes)

end Go.Proofs.Ytmgcmheiabmajab.Pa
