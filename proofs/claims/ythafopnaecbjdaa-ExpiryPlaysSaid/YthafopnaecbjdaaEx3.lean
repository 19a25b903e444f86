/- A queue's New, Next and At. -/
import Derived.Test.YthafopnaecbjdaaEx2
namespace Go.Proofs.Ythafopnaecbjdaa
open Go Go.RowKit Go.Maps Go.Proofs.YthafopnaecbjdaaW.PrintWords Go.Proofs.YthafopnaecbjdaaW.PrintLast

theorem zeroI (w : World) : (zeroValue 3).run Try.prog w = .ok (.int .i64 0) w := by kernel_rfl
section
variable {w w' : World} {p mb : Nat} {hv : Value} {H : List It} {P : List (ByteArray × Value)} {sets : Int}
theorem next_none (h : QA w p mb hv H P sets) (h0 : H.length = 0) : Calls Try.prog 19 #[.pointer (some ⟨p, 0, none⟩)] w fun e w' => e = .returned (.tuple #[.int .i64 0, .bool false]) ∧ w' = w := by
  have HT := Lib.hid (ethere_any h)
  obtain ⟨c0, _⟩ := h.cells
  obtain ⟨A, cp, hs⟩ := h.slice
  rw [hs, h0] at c0
  clear h hs h0
  go_enter Try.func19, Try.ntmps19
  repeat (first | go_step3 | go_values | go_skip | go_guarded | go_step | go_upon)
  (go_at_call 24; refine HT.out.mono ?_; rintro e w1 ⟨rfl, rfl⟩; dsimp only)
  repeat (first | go_step3 | go_values | go_skip | go_guarded | go_step | go_upon)
  go_ret2
  exact ⟨rfl, rfl⟩
theorem next_some (h : QA w p mb hv H P sets) (h0 : 0 < H.length) : Calls Try.prog 19 #[.pointer (some ⟨p, 0, none⟩)] w fun e w' => e = .returned (.tuple #[.int .i64 (atI H 0).at_, .bool true]) ∧ w' = w := by
  have HT := Lib.hid (ethere_any h)
  obtain ⟨c0, _⟩ := h.cells
  have ea : atI H 0 = H[0] := Hp.at_lt z0 H 0 h0
  rw [ea]
  obtain ⟨hb, cp, e1, a0, a1, a2⟩ := h.at 0 H[0] (List.getElem?_eq_getElem h0)
  rw [e1] at c0
  generalize H[0] = x at *
  obtain ⟨n, hn⟩ : ∃ n, n = H.length := ⟨_, rfl⟩
  rw [← hn] at c0
  have hni : ((n : Int) == 0) = false := by rw [beq_eq_false_iff_ne]; omega
  have hn0 : (0 : Int) < n := by omega
  have hnn : ¬ n = 0 := by omega
  have a1 : w.cell? ⟨hb, 1, none⟩ = some (.int .i64 x.at_) := by simpa using a1
  clear h ea e1 hn h0 a0 a2
  go_enter Try.func19, Try.ntmps19
  repeat (first | go_step3 | go_values | go_skip | go_guarded | go_step | go_upon)
  (go_at_call 24; refine HT.out.mono ?_; rintro e w1 ⟨rfl, rfl⟩; dsimp only)
  repeat (first | go_step3 | go_values | go_skip | go_guarded | go_step | go_upon)
  go_ret2
  exact ⟨rfl, rfl⟩
theorem at_none (h : QA w p mb hv H P sets) (k : ByteArray) (hk : goodS k) (hm : mget P k = none) : Calls Try.prog 17 #[.pointer (some ⟨p, 0, none⟩), .string k] w fun e w' => e = .returned (.tuple #[.int .i64 0, .bool false]) ∧ w' = w := by
  have HT := Lib.hid (ethere_any h)
  obtain ⟨_, c1, _⟩ := h.cells
  have hl := h.map.look_miss encS Try.underlying47 (zeroI w) hk hm true
  simp only [if_true, strV] at hl
  clear h hm
  go_enter Try.func17, Try.ntmps17
  repeat (first | go_step3 | go_values | go_skip | go_guarded | go_step | go_upon)
  (go_at_call 24; refine HT.out.mono ?_; rintro e w1 ⟨rfl, rfl⟩; dsimp only)
  go_wp2
  go_ret2
  exact ⟨rfl, rfl⟩
theorem at_some (h : QA w p mb hv H P sets) (k : ByteArray) (hk : goodS k) (j : Nat) (hj : j < H.length) (hm : mget P k = some (.int .i64 j)) : Calls Try.prog 17 #[.pointer (some ⟨p, 0, none⟩), .string k] w fun e w' => e = .returned (.tuple #[.int .i64 (atI H j).at_, .bool true]) ∧ w' = w := by
  have HT := Lib.hid (ethere_any h)
  obtain ⟨c0, c1, _⟩ := h.cells
  have hl := h.map.look_hit encS Try.underlying47 hk hm true
  simp only [if_true, strV] at hl
  have ea : atI H j = H[j] := Hp.at_lt z0 H j hj
  rw [ea]
  obtain ⟨hb, cp, e1, a0, a1, a2⟩ := h.at j H[j] (List.getElem?_eq_getElem hj)
  rw [e1] at c0
  generalize H[j] = x at *
  obtain ⟨n, hn⟩ : ∃ n, n = H.length := ⟨_, rfl⟩
  rw [← hn] at c0
  have hn0 : (j : Int) < n := by omega
  have hj0 : (0 : Int) ≤ j := by omega
  clear h ea e1 hn hj a0 a2 hm
  go_enter Try.func17, Try.ntmps17
  repeat (first | go_step3 | go_values | go_skip | go_guarded | go_step | go_upon)
  (go_at_call 24; refine HT.out.mono ?_; rintro e w1 ⟨rfl, rfl⟩; dsimp only)
  go_wp2
  go_ret2
  exact ⟨rfl, rfl⟩
def NewE (w : World) (e : Ending) (w' : World) : Prop := ∃ p mb, e = .returned (.pointer (some ⟨p, 0, none⟩)) ∧ QA w' p mb (.slice none 0 0) [] [] 0 ∧ w.heap.size ≤ p ∧ w.heap.size ≤ mb ∧ Below w.heap.size w w'
theorem enew_any (w : World) : Calls Try.prog 8 #[] w (NewE w) := by
  have hmm := @run_makeMap Try.prog
  go_enter Try.func8, Try.ntmps8
  go_wp2
  go_ret
  have b1 := (MapT.made (enc := strV) (good := goodS) w)
  refine ⟨w.heap.size + 1, w.heap.size, by simp, ⟨?_, .inl ⟨rfl, rfl⟩, b1.of_block (RowKit.Below.heap_alloc _ _ _ b1.lt), fun x hx => by cases hx⟩, by omega, Nat.le_refl _, ((((Touch.refl [] w).alloc _).alloc _)).below (Nat.le_refl _) (by simp)⟩
  have := heap_alloc_new (w.alloc (Obj.map #[] 0)) (.cells #[.slice none 0 0, .map (some w.heap.size), .int .i64 0] 49)
  simpa using this
end
end Go.Proofs.Ythafopnaecbjdaa
