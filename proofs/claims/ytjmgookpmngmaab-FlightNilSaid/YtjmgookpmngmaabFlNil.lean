/- FlightNil: a board that is not there. -/
import Derived.Test.YtjmgookpmngmaabFlOpen
namespace Go.Proofs.Ytjmgookpmngmaab
open Go Go.RowKit Go.Maps

/-- p is nil, or a board that New did not give. -/
def Gone (w : World) (p : Option Addr) : Prop := p = none ∨ ∃ g, p = some ⟨g, 0, none⟩ ∧ w.cell? ⟨g, 0, none⟩ = some (.map none)
theorem Gone.touch {w w' : World} {p : Option Addr} (h : Gone w p) (t : Touch [] w w') : Gone w' p := by
  rcases h with h | ⟨g, h, hc⟩
  · exact .inl h
  · exact .inr ⟨g, h, t.cell hc (by simp)⟩
theorem there_gone {w : World} {p : Option Addr} (h : Gone w p) : Calls Try.prog 25 #[.pointer p] w fun e w' => e = .returned (.bool false) ∧ w = w' := by
  rcases h with rfl | ⟨g, rfl, hc⟩
  · exact there_nil w
  · exact there_zero hc

theorem Ask_gone {w : World} {p : Option Addr} (h : Gone w p) (k : Key) (c : Int) :
    Calls Try.prog 12 #[.pointer p, .agg #[.string k.db, .string k.role, .int .i64 k.format, .string k.norm], .int .i64 c] w fun e w' => e = .returned (.tuple #[.bool false, .int .i64 12]) ∧ Touch [] w w' := by
  go_enter Try.func12, Try.ntmps12
  go_wp2_with fail
  refine (there_gone (h.touch ((Touch.refl [] _).alloc _))).mono ?_
  rintro e w1 ⟨rfl, rfl⟩
  go_wp2
  go_ret2
  exact ⟨rfl, (Touch.refl _ _).alloc _⟩
theorem Land_gone {w : World} {p : Option Addr} (h : Gone w p) (k : Key) :
    Calls Try.prog 15 #[.pointer p, .agg #[.string k.db, .string k.role, .int .i64 k.format, .string k.norm]] w fun e w' => e = .returned (.tuple #[.int .i64 0, .slice none 0 0, .bool false]) ∧ Touch [] w w' := by
  go_enter Try.func15, Try.ntmps15
  go_wp2_with fail
  refine (there_gone (h.touch ((Touch.refl [] _).alloc _))).mono ?_
  rintro e w1 ⟨rfl, rfl⟩
  go_wp2
  go_ret3
  exact ⟨rfl, (Touch.refl _ _).alloc _⟩
theorem Waits_gone {w : World} {p : Option Addr} (h : Gone w p) (c : Int) :
    Calls Try.prog 13 #[.pointer p, .int .i64 c] w fun e w' => e = .returned (.tuple #[keyV zk, .bool false]) ∧ Touch [] w w' := by
  go_enter Try.func13, Try.ntmps13
  go_wp2_with fail
  refine (there_gone (h.touch ((Touch.refl [] _).alloc _))).mono ?_
  rintro e w1 ⟨rfl, rfl⟩
  go_wp2
  exact bodyPost_ret (v := .tuple #[keyV zk, .bool false]) (by simp [results, Try.results13, go_sem, keyV, zk]) rfl ⟨rfl, (Touch.refl _ _).alloc _⟩
theorem Leave_gone {w : World} {p : Option Addr} (h : Gone w p) (c : Int) :
    Calls Try.prog 16 #[.pointer p, .int .i64 c] w fun e w' => e = .returned (.tuple #[.slice none 0 0, .bool false]) ∧ Touch [] w w' := by
  go_enter Try.func16, Try.ntmps16
  go_wp2_with fail
  refine (Waits_gone h c).mono ?_
  rintro e w1 ⟨rfl, t1⟩
  simp only [keyV, zk]
  go_wp2
  go_ret2
  exact ⟨rfl, t1.alloc _⟩
theorem Leader_gone {w : World} {p : Option Addr} (h : Gone w p) (k : Key) :
    Calls Try.prog 11 #[.pointer p, .agg #[.string k.db, .string k.role, .int .i64 k.format, .string k.norm]] w fun e w' => e = .returned (.tuple #[.int .i64 0, .bool false]) ∧ Touch [] w w' := by
  go_enter Try.func11, Try.ntmps11
  go_wp2
  go_quiet ((go_at_call 25; refine Calls.quiet_of_same ((there_gone (h.touch (((Touch.refl [] _).alloc _).drewN _))).mono fun _ _ hh => ⟨hh.1, hh.2.symm⟩)))
  go_wp2
  go_ret2
  exact ⟨rfl, ((Touch.refl _ _).alloc _).drewN _⟩
theorem Open_gone {w : World} {p : Option Addr} (h : Gone w p) :
    Calls Try.prog 14 #[.pointer p] w fun e w' => e = .returned (.int .i64 0) ∧ w = w' := by
  go_enter Try.func14, Try.ntmps14
  go_wp2_with fail
  refine (there_gone h).mono ?_
  rintro e w1 ⟨rfl, rfl⟩
  go_wp2
  go_ret
  exact ⟨rfl, rfl⟩
theorem Copy_gone {w : World} {p : Option Addr} (h : Gone w p) :
    Calls Try.prog 22 #[.pointer p] w fun e w' => e = .returned (.pointer none) ∧ w = w' := by
  go_enter Try.func22, Try.ntmps22
  go_wp2_with fail
  refine (there_gone h).mono ?_
  rintro e w1 ⟨rfl, rfl⟩
  go_wp2
  go_ret
  exact ⟨rfl, rfl⟩

set_option maxRecDepth 8000 in
set_option maxHeartbeats 4000000 in
theorem FlightNil_walk (w : World) (k : Key) (c : Int) :
    Calls Try.prog 7 #[keyV k, .int .i64 c] w fun e w' => e = .returned (.bool true) ∧ Below w.heap.size w w' := by
  simp only [keyV]
  go_enter Try.func7, Try.ntmps7
  go_wp2_with fail
  have tW : Touch [] w (boxK w k) := (Touch.refl _ _).alloc _
  have ka := (KBox.new w k).alloc (.cells #[.map none, .map none] 64)
  have g0 : Gone ((boxK w k).alloc (.cells #[.map none, .map none] 64)) (some ⟨w.heap.size + 1, 0, none⟩) := by
    have e0 : ((boxK w k).alloc (.cells #[.map none, .map none] 64)).heap[(boxK w k).heap.size]? = some (.cells #[.map none, .map none] 64 (0, 0)) := heap_alloc_new _ _
    have e1 : (boxK w k).heap.size = w.heap.size + 1 := by simp [boxK]
    rw [e1] at e0
    exact .inr ⟨_, rfl, by rw [cell_of e0]; rfl⟩
  have tW := tW.alloc (.cells #[.map none, .map none] 64)
  unfold boxK at ka tW g0
  generalize hga : w.heap.size = ga at ka g0 ⊢
  generalize ((w.alloc (.cells #[.string k.db, .string k.role, .int .i64 k.format, .string k.norm] 28)).alloc (.cells #[.map none, .map none] 64)) = W at ka tW g0 ⊢
  obtain ⟨a0, a1, a2, a3⟩ := ka
  refine (Ask_gone (p := none) (.inl rfl) k c).mono ?_
  rintro e w1 ⟨rfl, t1⟩
  have g1 := g0.touch t1
  have tW := tW.trans t1 (by simp)
  obtain ⟨a0, a1, a2, a3⟩ := KBox.touch ⟨a0, a1, a2, a3⟩ t1
  go_wp2_with fail
  refine (Ask_gone g1 k c).mono ?_
  rintro e w2 ⟨rfl, t2⟩
  have g2 := g1.touch t2
  have tW := tW.trans t2 (by simp)
  obtain ⟨a0, a1, a2, a3⟩ := KBox.touch ⟨a0, a1, a2, a3⟩ t2
  go_wp2_with fail
  refine (Land_gone (p := none) (.inl rfl) k).mono ?_
  rintro e w3 ⟨rfl, t3⟩
  have g3 := g2.touch t3
  have tW := tW.trans t3 (by simp)
  obtain ⟨a0, a1, a2, a3⟩ := KBox.touch ⟨a0, a1, a2, a3⟩ t3
  go_wp2_with fail
  refine (Leave_gone g3 c).mono ?_
  rintro e w4 ⟨rfl, t4⟩
  have g4 := g3.touch t4
  have tW := tW.trans t4 (by simp)
  obtain ⟨a0, a1, a2, a3⟩ := KBox.touch ⟨a0, a1, a2, a3⟩ t4
  go_wp2_with fail
  refine (Waits_gone (p := none) (.inl rfl) c).mono ?_
  rintro e w5 ⟨rfl, t5⟩
  have g5 := g4.touch t5
  have tW := tW.trans t5 (by simp)
  obtain ⟨a0, a1, a2, a3⟩ := KBox.touch ⟨a0, a1, a2, a3⟩ t5
  simp only [keyV, zk]
  have hlt : ga < w5.heap.size := World.block_lt_of_cell? w5 _ a0
  have tb : Touch [] w5 (w5.alloc (.cells #[.string ⟨#[]⟩, .string ⟨#[]⟩, .int .i64 0, .string ⟨#[]⟩] 28)) := (Touch.refl _ _).alloc _
  have g5 := g5.touch tb
  have tW := tW.trans tb (by simp)
  go_wp2_with fail
  refine (Leader_gone g5 k).mono ?_
  rintro e w6 ⟨rfl, t6⟩
  have g6 := g5.touch t6
  have tW := tW.trans t6 (by simp)
  go_wp2_with fail
  refine (Open_gone (p := none) (.inl rfl)).mono ?_
  rintro e w7 ⟨rfl, rfl⟩
  go_wp2_with fail
  refine (Open_gone g6).mono ?_
  rintro e w7 ⟨rfl, rfl⟩
  go_wp2_with fail
  refine (Copy_gone (p := none) (.inl rfl)).mono ?_
  rintro e w7 ⟨rfl, rfl⟩
  go_wp2_with fail
  refine (Copy_gone g6).mono ?_
  rintro e w7 ⟨rfl, rfl⟩
  go_wp2_with fail
  refine (known_any w6).mono ?_
  rintro e w11 ⟨rfl, t11⟩
  go_wp2
  go_ret
  exact ⟨rfl, (tW.below0 (Nat.le_refl _)).trans (t11.mono tW.size)⟩
end Go.Proofs.Ytjmgookpmngmaab
