/- FrameNil: a reader that is not there. -/
import Derived.Test.YtkaehhldloclhaaFrK
namespace Go.Proofs.Ytkaehhldloclhaa
open Go Go.RowKit

set_option maxHeartbeats 1000000 in
theorem FrameNil_walk (s : ByteArray) (w : World) : Calls Try.prog 7 #[.string s] w fun e w' => e = .returned (.bool true) ∧ Below w.heap.size w w' := by
  have hb : (w.alloc (.cells #[.slice none 0 0, .bool false, .int .i64 0, .bool false] 47)).cell? ⟨w.heap.size, 3, none⟩ = some (.bool false) := by rw [cell_of (heap_alloc_new w _)]; rfl
  have t : Touch [] w (w.alloc (.cells #[.slice none 0 0, .bool false, .int .i64 0, .bool false] 47)) := (Touch.refl _ _).alloc _
  have h0 := there_cell _ _ false hb
  have h1 := there_nil (w.alloc (.cells #[.slice none 0 0, .bool false, .int .i64 0, .bool false] 47))
  have T := Lib.hid t
  have H0 := Lib.hid h0
  have H1 := Lib.hid h1
  clear hb t h0 h1
  go_enter Try.func7, Try.ntmps7
  go_wp2_with fail
  refine (Feed_not s H1.out).mono ?_
  rintro e wz ⟨rfl, rfl⟩
  go_wp2_with fail
  refine (Feed_not s H0.out).mono ?_
  rintro e wz ⟨rfl, rfl⟩
  go_wp2_with fail
  refine (Rest_not H1.out).mono ?_
  rintro e wz ⟨rfl, rfl⟩
  go_wp2_with fail
  refine (Rest_not H0.out).mono ?_
  rintro e wz ⟨rfl, rfl⟩
  go_wp2_with fail
  refine (Bad_not H1.out).mono ?_
  rintro e wz ⟨rfl, rfl⟩
  go_wp2_with fail
  refine (Bad_not H0.out).mono ?_
  rintro e wz ⟨rfl, rfl⟩
  go_wp2_with fail
  refine (Copy_not H1.out).mono ?_
  rintro e wz ⟨rfl, rfl⟩
  go_wp2_with fail
  refine (Copy_not H0.out).mono ?_
  rintro e wz ⟨rfl, rfl⟩
  go_wp2_with fail
  refine (known_any _).mono ?_
  rintro e wz ⟨rfl, bz⟩
  have K := (T.out.below (Nat.le_refl _) (by simp)).trans (bz.mono T.out.size)
  clear bz
  go_wp2_with fail
  go_ret
  exact ⟨rfl, K⟩
end Go.Proofs.Ytkaehhldloclhaa
