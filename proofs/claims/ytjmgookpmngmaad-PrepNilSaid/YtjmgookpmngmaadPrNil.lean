/- PrepNil. -/
import Derived.Test.YtjmgookpmngmaadPrArg
namespace Go.Proofs.Ytjmgookpmngmaad
open Go Go.RowKit Go.Maps Go.WideShapes

def GoneZ (w : World) (g : Nat) : Prop := w.heap[g]? = some (.cells #[.map none, .map none, .map none] 51 (0, 0))
def Gone (w : World) (p : Option Addr) : Prop := p = none ∨ ∃ g, p = some ⟨g, 0, none⟩ ∧ GoneZ w g
theorem Gone.kept {w w' : World} {p : Option Addr} (h : Gone w p) (t : Touch [] w w') : Gone w' p := by
  rcases h with h | ⟨g, h1, h2⟩
  · exact .inl h
  · exact .inr ⟨g, h1, (t.block g (heap_lt h2) (by simp)).trans h2⟩
theorem there_gone {w : World} {p : Option Addr} (h : Gone w p) : Calls Try.prog 26 #[.pointer p] w fun e w' => e = .returned (.bool false) ∧ w = w' := by
  rcases h with rfl | ⟨g, rfl, h⟩
  · go_enter Try.func26, Try.ntmps26
    go_wp2
    go_ret
    exact ⟨rfl, rfl⟩
  · have c0 : w.cell? ⟨g, 0, none⟩ = some (.map none) := by rw [cell_of h]; rfl
    have e1 := run_neq_map_nil (P := Try.prog) w 47 3 48 none Try.underlying47
    go_enter Try.func26, Try.ntmps26
    go_wp2
    go_ret
    exact ⟨rfl, rfl⟩
section
variable {w : World} {p : Option Addr}
theorem Find_gone (h : Gone w p) (c : Int) (s : ByteArray) : Calls Try.prog 16 #[.pointer p, .int .i64 c, .string s] w fun e w' => e = .returned (.tuple #[.string ⟨#[]⟩, .bool false]) ∧ w = w' := by
  go_enter Try.func16, Try.ntmps16
  go_wp2_with fail
  refine (there_gone h).mono ?_
  rintro e w1 ⟨rfl, rfl⟩
  go_wp2
  go_ret2
  exact ⟨rfl, rfl⟩
theorem Define_gone (h : Gone w p) (c : Int) (s q : ByteArray) : Calls Try.prog 13 #[.pointer p, .int .i64 c, .string s, .string q] w fun e w' => e = .returned (.int .i64 12) ∧ w = w' := by
  go_enter Try.func13, Try.ntmps13
  go_wp2_with fail
  refine (there_gone h).mono ?_
  rintro e w1 ⟨rfl, rfl⟩
  go_wp2
  go_ret
  exact ⟨rfl, rfl⟩
theorem Leave_gone (h : Gone w p) (c : Int) : Calls Try.prog 15 #[.pointer p, .int .i64 c] w fun e w' => e = .returned (.int .i64 0) ∧ w = w' := by
  go_enter Try.func15, Try.ntmps15
  go_wp2_with fail
  refine (there_gone h).mono ?_
  rintro e w1 ⟨rfl, rfl⟩
  go_wp2
  go_ret
  exact ⟨rfl, rfl⟩
theorem Need_gone (h : Gone w p) (c : Int) (s : ByteArray) : Calls Try.prog 10 #[.pointer p, .int .i64 c, .string s] w fun e w' => e = .returned (.tuple #[.string ⟨#[]⟩, .bool false]) ∧ w = w' := by
  go_enter Try.func10, Try.ntmps10
  go_wp2_with fail
  refine (there_gone h).mono ?_
  rintro e w1 ⟨rfl, rfl⟩
  go_wp2
  go_ret2
  exact ⟨rfl, rfl⟩
theorem Has_gone (h : Gone w p) (c : Int) : Calls Try.prog 12 #[.pointer p, .int .i64 c] w fun e w' => e = .returned (.slice none 0 0) ∧ w = w' := by
  go_enter Try.func12, Try.ntmps12
  go_wp2_with fail
  refine (there_gone h).mono ?_
  rintro e w1 ⟨rfl, rfl⟩
  go_wp2
  go_ret
  exact ⟨rfl, rfl⟩
theorem Copy_gone (h : Gone w p) : Calls Try.prog 22 #[.pointer p] w fun e w' => e = .returned (.pointer none) ∧ w = w' := by
  go_enter Try.func22, Try.ntmps22
  go_wp2_with fail
  refine (there_gone h).mono ?_
  rintro e w1 ⟨rfl, rfl⟩
  go_wp2
  go_ret
  exact ⟨rfl, rfl⟩
theorem Close_gone (h : Gone w p) (c : Int) (s : ByteArray) : Calls Try.prog 14 #[.pointer p, .int .i64 c, .string s] w fun e w' => e = .returned (.bool false) ∧ w = w' := by
  go_enter Try.func14, Try.ntmps14
  go_wp2_with fail
  refine (Find_gone h c s).mono ?_
  rintro e w1 ⟨rfl, rfl⟩
  go_wp2
  go_ret
  exact ⟨rfl, rfl⟩
theorem Forget_gone (h : Gone w p) (c : Int) : Calls Try.prog 11 #[.pointer p, .int .i64 c] w fun e w' => e = .returned (.int .i64 0) ∧ w = w' := by
  go_enter Try.func11, Try.ntmps11
  go_wp2_with fail
  refine (Has_gone h c).mono ?_
  rintro e w1 ⟨rfl, rfl⟩
  go_wp2_with fail
  refine (there_gone h).mono ?_
  rintro e w1 ⟨rfl, rfl⟩
  go_wp2
  go_ret
  exact ⟨rfl, rfl⟩
end
set_option maxHeartbeats 4000000 in
theorem PrepNil_walk (w : World) (id : Int) (s : ByteArray) : Calls Try.prog 7 #[.int .i64 id, .string s] w fun e w' => e = .returned (.bool true) ∧ Below w.heap.size w w' := by
  have t0 : Touch [] w (w.alloc (.cells #[.map none, .map none, .map none] 51)) := (Touch.refl _ _).alloc _
  have gz : Gone (w.alloc (.cells #[.map none, .map none, .map none] 51)) (some ⟨w.heap.size, 0, none⟩) := .inr ⟨_, rfl, heap_alloc_new w _⟩
  have gn : ∀ V : World, Gone V none := fun V => .inl rfl
  have GN := Lib.hid gn
  have GZ := Lib.hid (And.intro gz t0)
  clear gn gz t0
  go_enter Try.func7, Try.ntmps7
  go_upto_region 3 with fail
  generalize w.alloc (.cells #[.map none, .map none, .map none] 51) = W at *
  obtain ⟨z, hz⟩ : ∃ z, w.heap.size = z := ⟨_, rfl⟩
  rw [hz] at GZ
  rw [hz]
  have HZ := Lib.hid hz
  clear hz
  go_wp2_with fail
  refine (Find_gone (GN.out W) id s).mono ?_
  rintro e w1 ⟨rfl, rfl⟩
  go_wp2_with fail
  refine (Find_gone GZ.out.1 id s).mono ?_
  rintro e w1 ⟨rfl, rfl⟩
  go_wp2_with fail
  refine (Need_gone (GN.out W) id s).mono ?_
  rintro e w1 ⟨rfl, rfl⟩
  go_wp2_with fail
  refine (Need_gone GZ.out.1 id s).mono ?_
  rintro e w1 ⟨rfl, rfl⟩
  go_wp2_with fail
  refine (Define_gone (GN.out W) id s s).mono ?_
  rintro e w1 ⟨rfl, rfl⟩
  go_wp2_with fail
  refine (Define_gone GZ.out.1 id s s).mono ?_
  rintro e w1 ⟨rfl, rfl⟩
  go_wp2_with fail
  refine (Close_gone (GN.out W) id s).mono ?_
  rintro e w1 ⟨rfl, rfl⟩
  go_wp2_with fail
  refine (Close_gone GZ.out.1 id s).mono ?_
  rintro e w1 ⟨rfl, rfl⟩
  go_wp2_with fail
  refine (Leave_gone (GN.out W) id).mono ?_
  rintro e w1 ⟨rfl, rfl⟩
  go_wp2_with fail
  refine (Forget_gone GZ.out.1 id).mono ?_
  rintro e w1 ⟨rfl, rfl⟩
  go_wp2_with fail
  refine (Has_gone (GN.out W) id).mono ?_
  rintro e w1 ⟨rfl, rfl⟩
  go_wp2_with fail
  refine (Copy_gone (GN.out W) ).mono ?_
  rintro e w1 ⟨rfl, rfl⟩
  go_wp2_with fail
  refine (Copy_gone GZ.out.1 ).mono ?_
  rintro e w1 ⟨rfl, rfl⟩
  go_wp2_with fail
  refine (known_any _).mono ?_
  rintro e w9 ⟨rfl, t9⟩
  have HF := Lib.hid ((GZ.out.2.below (Nat.le_refl _) (by simp)).trans (t9.mono GZ.out.2.size))
  clear t9
  go_wp2
  go_ret
  exact ⟨rfl, by rw [HZ.out] at HF ⊢; exact HF.out⟩
end Go.Proofs.Ytjmgookpmngmaad
