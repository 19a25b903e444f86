/- ExpiryNil: a queue that is not there has nothing. -/
import Derived.Test.YthafopnaecbjdaaExC
namespace Go.Proofs.Ythafopnaecbjdaa
open Go Go.RowKit Go.Maps Go.Proofs.Ythafopnaecbjdaa.Pa Go.Proofs.YthafopnaecbjdaaW.PrintWords Go.Proofs.YthafopnaecbjdaaW.PrintLast

set_option maxHeartbeats 4000000 in
theorem ExpiryNil_walk (k : ByteArray) (_hk : k.size ≤ 140737488351232) (w : World) : Calls Try.prog 6 #[.string k] w fun e w' => e = .returned (.bool true) ∧ Below w.heap.size w w' := by
  have eq1 : ∀ W, (binOp .eql 23 (.pointer none) (.pointer none)).run Try.prog W = .ok (.bool true) W := fun W => by kernel_rfl
  go_enter Try.func6, Try.ntmps6
  repeat (first | go_step3 | go_values | go_skip | go_guarded | go_step | go_upon)
  have HB : Hid (Below w.heap.size w (w.alloc (.cells #[.slice none 0 0, .map none, .int .i64 0] 49))) := Lib.hid (((Touch.refl [] w).alloc _).below (Nat.le_refl _) (by simp))
  have HZ : Hid (NoQ (w.alloc (.cells #[.slice none 0 0, .map none, .int .i64 0] 49)) (some ⟨w.heap.size, 0, none⟩)) := Lib.hid (ethere_zero (heap_alloc_new w (.cells #[.slice none 0 0, .map none, .int .i64 0] 49)))
  generalize (w.alloc (.cells #[.slice none 0 0, .map none, .int .i64 0] 49)) = wq at *
  have HN : Hid (NoQ wq none) := Lib.hid (ethere_nil wq)
  obtain ⟨g, hg⟩ : ∃ g, g = w.heap.size := ⟨_, rfl⟩
  rw [← hg] at HZ ⊢
  clear hg
  (go_at_call 17; refine (no_at HN.out k).mono ?_; rintro e w1 ⟨rfl, rfl⟩; dsimp only)
  repeat (first | go_step3 | go_values | go_skip | go_guarded | go_step | go_upon)
  (go_at_call 19; refine (no_next HZ.out).mono ?_; rintro e w1 ⟨rfl, rfl⟩; dsimp only)
  repeat (first | go_step3 | go_values | go_skip | go_guarded | go_step | go_upon)
  (go_at_call 9; refine (no_set HN.out k 1).mono ?_; rintro e w1 ⟨rfl, rfl⟩; dsimp only)
  repeat (first | go_step3 | go_values | go_skip | go_guarded | go_step | go_upon)
  (go_at_call 9; refine (no_set HZ.out k 1).mono ?_; rintro e w1 ⟨rfl, rfl⟩; dsimp only)
  repeat (first | go_step3 | go_values | go_skip | go_guarded | go_step | go_upon)
  (go_at_call 11; refine (no_drop HN.out k).mono ?_; rintro e w1 ⟨rfl, rfl⟩; dsimp only)
  repeat (first | go_step3 | go_values | go_skip | go_guarded | go_step | go_upon)
  (go_at_call 11; refine (no_drop HZ.out k).mono ?_; rintro e w1 ⟨rfl, rfl⟩; dsimp only)
  repeat (first | go_step3 | go_values | go_skip | go_guarded | go_step | go_upon)
  (go_at_call 14; refine (no_due HN.out 9).mono ?_; rintro e w1 ⟨rfl, rfl⟩; dsimp only)
  repeat (first | go_step3 | go_values | go_skip | go_guarded | go_step | go_upon)
  (go_at_call 14; refine (no_due HZ.out 9).mono ?_; rintro e w1 ⟨rfl, rfl⟩; dsimp only)
  repeat (first | go_step3 | go_values | go_skip | go_guarded | go_step | go_upon)
  (go_at_call 21; refine (no_keys HN.out).mono ?_; rintro e w1 ⟨rfl, rfl⟩; dsimp only)
  repeat (first | go_step3 | go_values | go_skip | go_guarded | go_step | go_upon)
  (go_at_call 16; refine (no_copy HN.out).mono ?_; rintro e w1 ⟨rfl, rfl⟩; dsimp only)
  repeat (first | go_step3 | go_values | go_skip | go_guarded | go_step | go_upon)
  (go_at_call 16; refine (no_copy HZ.out).mono ?_; rintro e w1 ⟨rfl, rfl⟩; dsimp only)
  repeat (first | go_step3 | go_values | go_skip | go_guarded | go_step | go_upon)
  (go_at_call 23; refine (known_any _).mono ?_; rintro e w2 ⟨rfl, b2⟩; have HB2 := Lib.hid b2; clear b2; dsimp only)
  repeat (first | go_step3 | go_values | go_skip | go_guarded | go_step | go_upon)
  go_ret
  exact ⟨rfl, HB.out.trans (HB2.out.mono HB.out.size)⟩
end Go.Proofs.Ythafopnaecbjdaa
