/- FramePuts: whether any message is right, and its bytes, is as the document says. -/
import Derived.Test.YtkaehhldloclhaaFrArg
import Derived.Test.YtkaehhldloclhaaQu
namespace Go.Proofs.Ytkaehhldloclhaa
open Go Go.RowKit

theorem msg_box (w : World) (m : Msg) : (w.alloc (.cells #[.int .u8 m.kind.toNat, .string m.body] 23)).cell? ⟨w.heap.size, 0, none⟩ = some (.int .u8 m.kind.toNat) ∧ (w.alloc (.cells #[.int .u8 m.kind.toNat, .string m.body] 23)).cell? ⟨w.heap.size, 1, none⟩ = some (.string m.body) := by
  constructor <;> rw [cell_of (heap_alloc_new w _)] <;> rfl
set_option maxHeartbeats 2000000 in
theorem FramePuts_walk (m : Msg) (w : World) (hs : TextSz m.body) : Calls Try.prog 3 #[msgV m] w fun e w' => e = .returned (.bool true) ∧ Below w.heap.size w w' := by
  unfold TextSz at hs
  have hR := fun w => Right_any m w hs
  have hP := fun w => Put_any m w hs
  have hR' := fun w => refRight_any m w
  have hP' := fun w => refPut_any m w
  obtain ⟨c0, c1⟩ := msg_box w m
  have ta : Touch [] w (w.alloc (.cells #[.int .u8 m.kind.toNat, .string m.body] 23)) := (Touch.refl _ _).alloc _
  have TA := Lib.hid ta; clear ta
  unfold msgV at *
  have hW : Hid (w.heap.size ≤ (w.alloc (.cells #[.int .u8 m.kind.toNat, .string m.body] 23)).heap.size) := Lib.hid (by simp)
  generalize hb : rightF m = r at *
  generalize hp : putM m = x at *
  have HR := Lib.hid hR
  have HP := Lib.hid hP
  have HR' := Lib.hid hR'
  have HP' := Lib.hid hP'
  clear hR hP hR' hP' hb hp
  go_enter Try.func3, Try.ntmps3
  go_upto_region 1 with fail
  generalize (w.alloc (.cells #[.int .u8 m.kind.toNat, .string m.body] 23)) = W at *
  generalize hg : w.heap.size = g at *
  have d0 := TW.cell c0
  have d1 := TW.cell c1
  have HD : Hid ((decide ((9000 : Int) < (m.body.size : Int)) = true) ∨ (decide ((9000 : Int) < (m.body.size : Int)) = false)) := Lib.hid (by cases decide ((9000 : Int) < (m.body.size : Int)) <;> simp)
  rcases HD.out with hd | hd
  all_goals
    refine wp_region_tw (by kernel_rfl) (by kernel_rfl) ?_
    repeat (go_big_quiet_step ((first | (go_at_call 12; exact TW.call_below (known_any _)) | (go_at_call 8; exact TW.call (HR.out _)) | (go_at_call 9; exact TW.call (HR'.out _)) | (go_at_call 10; exact TW.call (HP.out _)) | (go_at_call 11; exact TW.call (HP'.out _)))))
    refine wpQuiet_nil ?_
    rintro _ ⟨x, rfl⟩
    go_wp2_with fail
    go_ret
    exact ⟨rfl, (TA.out.trans x.t (by simp)).below (Nat.le_refl _) (by simp)⟩
end Go.Proofs.Ytkaehhldloclhaa
