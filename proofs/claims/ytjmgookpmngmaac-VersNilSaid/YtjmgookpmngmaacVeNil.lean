/- VersNil: one that is not there. -/
import Derived.Test.YtjmgookpmngmaacVeArg
namespace Go.Proofs.Ytjmgookpmngmaac
open Go Go.RowKit Go.Maps

/-- One that is not there: nil, or none that New gave. -/
def Gone (w : World) (p : Option Addr) : Prop := p = none ∨ ∃ g, p = some ⟨g, 0, none⟩ ∧ w.heap[g]? = some (.cells #[.int .i64 0, .map none] 59 (0, 0))
theorem Gone.kept {w w' : World} {p : Option Addr} (h : Gone w p) (t : Touch [] w w') : Gone w' p := by
  rcases h with h | ⟨g, h1, h2⟩
  · exact .inl h
  · exact .inr ⟨g, h1, (t.block g (heap_lt h2) (by simp)).trans h2⟩
theorem there_gone {w : World} {p : Option Addr} (h : Gone w p) : Calls Try.prog 30 #[.pointer p] w fun e w' => e = .returned (.bool false) ∧ w = w' := by
  rcases h with rfl | ⟨g, rfl, h⟩
  · exact there_nil w
  · exact there_zero (by rw [cell_of h]; rfl)
section
variable {w : World} {p : Option Addr}
theorem Bump_gone (h : Gone w p) (v : Value) : Calls Try.prog 11 #[.pointer p, v] w fun e w' => e = .returned (.tuple #[]) ∧ w = w' := by
  go_enter Try.func11, Try.ntmps11
  go_wp2_with fail
  refine (there_gone h).mono ?_
  rintro e w1 ⟨rfl, rfl⟩
  go_wp2
  refine bodyPost_ret (results_none rfl _ _ _) rfl ?_
  exact ⟨rfl, rfl⟩
theorem All_gone (h : Gone w p) : Calls Try.prog 12 #[.pointer p] w fun e w' => e = .returned (.tuple #[]) ∧ w = w' := by
  go_enter Try.func12, Try.ntmps12
  go_wp2_with fail
  refine (there_gone h).mono ?_
  rintro e w1 ⟨rfl, rfl⟩
  go_wp2
  go_end0
  exact ⟨rfl, rfl⟩
theorem Dirty_gone (h : Gone w p) (c v : Value) : Calls Try.prog 15 #[.pointer p, c, v] w fun e w' => e = .returned (.tuple #[]) ∧ w = w' := by
  go_enter Try.func15, Try.ntmps15
  go_wp2_with fail
  refine (there_gone h).mono ?_
  rintro e w1 ⟨rfl, rfl⟩
  go_wp2
  refine bodyPost_ret (results_none rfl _ _ _) rfl ?_
  exact ⟨rfl, rfl⟩
theorem Clean_gone (h : Gone w p) (c : Value) : Calls Try.prog 16 #[.pointer p, c] w fun e w' => e = .returned (.tuple #[]) ∧ w = w' := by
  go_enter Try.func16, Try.ntmps16
  go_wp2_with fail
  refine (there_gone h).mono ?_
  rintro e w1 ⟨rfl, rfl⟩
  go_wp2
  refine bodyPost_ret (results_none rfl _ _ _) rfl ?_
  exact ⟨rfl, rfl⟩
theorem Busy_gone (h : Gone w p) (v : Value) : Calls Try.prog 18 #[.pointer p, v] w fun e w' => e = .returned (.bool false) ∧ w = w' := by
  go_enter Try.func18, Try.ntmps18
  go_wp2_with fail
  refine (there_gone h).mono ?_
  rintro e w1 ⟨rfl, rfl⟩
  go_wp2
  go_ret
  exact ⟨rfl, rfl⟩
theorem Num_gone (h : Gone w p) (v : Value) : Calls Try.prog 19 #[.pointer p, v] w fun e w' => e = .returned (.int .i64 0) ∧ w = w' := by
  go_enter Try.func19, Try.ntmps19
  go_wp2_with fail
  refine (there_gone h).mono ?_
  rintro e w1 ⟨rfl, rfl⟩
  go_wp2
  go_ret
  exact ⟨rfl, rfl⟩
theorem Copy_gone (h : Gone w p) : Calls Try.prog 26 #[.pointer p] w fun e w' => e = .returned (.pointer none) ∧ w = w' := by
  go_enter Try.func26, Try.ntmps26
  go_wp2_with fail
  refine (there_gone h).mono ?_
  rintro e w1 ⟨rfl, rfl⟩
  go_wp2
  go_ret
  exact ⟨rfl, rfl⟩
theorem Take_gone (h : Gone w p) (v : Value) : Calls Try.prog 13 #[.pointer p, v] w fun e w' => e = .returned (.agg #[.int .i64 0, .slice none 0 0, .slice none 0 0]) ∧ Touch [] w w' := by
  have t0 : Touch [] w (w.alloc (.cells #[.int .i64 0, .slice none 0 0, .slice none 0 0] 33)) := (Touch.refl _ _).alloc _
  have h0 := h.kept t0
  have hb : (w.alloc (.cells #[.int .i64 0, .slice none 0 0, .slice none 0 0] 33)).heap[w.heap.size]? = some (.cells #[.int .i64 0, .slice none 0 0, .slice none 0 0] 33 (0, 0)) := heap_alloc_new w _
  go_enter Try.func13, Try.ntmps13
  go_wp2_with fail
  generalize w.alloc (.cells #[.int .i64 0, .slice none 0 0, .slice none 0 0] 33) = W at *
  generalize hg : w.heap.size = g at *
  refine (there_gone h0).mono ?_
  rintro e w1 ⟨rfl, rfl⟩
  have p0 : W.cell? ⟨g, 0, none⟩ = some (.int .i64 0) := by rw [cell_of hb]; rfl
  have p1 : W.cell? ⟨g, 1, none⟩ = some (.slice none 0 0) := by rw [cell_of hb]; rfl
  have p2 : W.cell? ⟨g, 2, none⟩ = some (.slice none 0 0) := by rw [cell_of hb]; rfl
  have f0 := frozen_of hb 0
  have f1 := frozen_of hb 1
  have f2 := frozen_of hb 2
  have tS : Touch [g] W (((W.setCell ⟨g, 0, none⟩ (.int .i64 0)).setCell ⟨g, 1, none⟩ (.slice none 0 0)).setCell ⟨g, 2, none⟩ (.slice none 0 0)) := (((Touch.refl _ _).setCell _ (by simp)).setCell _ (by simp)).setCell _ (by simp)
  have HS := Lib.hid (And.intro t0 tS)
  clear hb t0 tS h0
  go_wp2_with fail
  refine bodyPost_ret (v := .agg #[.int .i64 0, .slice none 0 0, .slice none 0 0]) (by simp [results, Try.results13, go_sem, p0, p1, p2]) rfl ⟨rfl, HS.out.1.trans HS.out.2 (by simp; omega)⟩
theorem Fresh_gone (h : Gone w p) : Calls Try.prog 17 #[.pointer p, .agg #[.int .i64 0, .slice none 0 0, .slice none 0 0]] w fun e w' => e = .returned (.bool false) ∧ Touch [] w w' := by
  have t0 : Touch [] w (w.alloc (.cells #[.int .i64 0, .slice none 0 0, .slice none 0 0] 33)) := (Touch.refl _ _).alloc _
  have h0 := h.kept t0
  go_enter Try.func17, Try.ntmps17
  go_wp2_with fail
  generalize w.alloc (.cells #[.int .i64 0, .slice none 0 0, .slice none 0 0] 33) = W at *
  go_quiet ((go_at_call 30; exact quietS (there_gone (h0.kept ((Touch.refl _ _).drewN _)))))
  go_wp2
  go_ret
  exact ⟨rfl, t0.drewN nq⟩
theorem fieldN (x : Int) (b : Value) (w : World) : (Instr.field 33 (.agg #[.int .i64 x, .slice none 0 0, b]) 1).run Try.prog w = .ok (.slice none 0 0) w := by kernel_rfl
end

set_option maxHeartbeats 4000000 in
theorem VersNil_walk (w : World) (C : Option Addr) (nn cc : Nat) (names : List ByteArray) (hN : NamesA w C nn names) :
    Calls Try.prog 7 #[.slice C nn cc] w fun e w' => e = .returned (.bool true) ∧ Below w.heap.size w w' := by
  have t0 : Touch [] w (w.alloc (.cells #[.int .i64 0, .map none] 59)) := (Touch.refl _ _).alloc _
  have hb : (w.alloc (.cells #[.int .i64 0, .map none] 59)).heap[w.heap.size]? = some (.cells #[.int .i64 0, .map none] 59 (0, 0)) := heap_alloc_new w _
  have HN := Lib.hid (And.intro (hN.low' rfl (t0.below0 (Nat.le_refl _)) t0.size).1 hN)
  have g0 : Gone w none := .inl rfl
  have hf0 := fieldE 0 (.slice none 0 0) (.slice none 0 0)
  have hf1 := fieldN 0 (.slice none 0 0)
  clear hN
  go_enter Try.func7, Try.ntmps7
  go_wp2_with fail
  generalize w.alloc (.cells #[.int .i64 0, .map none] 59) = W at *
  generalize hB : w.heap.size = B at *
  have gz : Gone W (some ⟨B, 0, none⟩) := .inr ⟨B, rfl, hb⟩
  have gn : ∀ V : World, Gone V none := fun V => .inl rfl
  have GN := Lib.hid gn
  have T0 := Lib.hid t0
  clear hb gn t0 g0
  refine (few_any HN.out.1 HN.out.2.len (fun s hs => Nat.le_trans (HN.out.2.size s hs) (by decide))).mono ?_
  rintro e w2 ⟨rfl, rfl⟩
  cases hfew : fewB names with
  | false =>
    go_wp2_with fail
    refine (known_any W).mono ?_
    rintro e w3 ⟨rfl, t3⟩
    go_wp2
    go_ret
    exact ⟨rfl, by rw [hB]; exact (T0.out.below0 (by omega)).trans (t3.mono (by have := T0.out.size; omega))⟩
  | true =>
  clear hfew
  go_wp2_with fail
  refine (Bump_gone (GN.out W) _).mono ?_
  rintro e w3 ⟨rfl, rfl⟩
  go_wp2_with fail
  refine (All_gone (GN.out W)).mono ?_
  rintro e w3 ⟨rfl, rfl⟩
  go_wp2_with fail
  refine (Dirty_gone (GN.out W) _ _).mono ?_
  rintro e w3 ⟨rfl, rfl⟩
  go_wp2_with fail
  refine (Clean_gone (GN.out W) _).mono ?_
  rintro e w3 ⟨rfl, rfl⟩
  go_wp2_with fail
  refine (Bump_gone gz _).mono ?_
  rintro e w3 ⟨rfl, rfl⟩
  go_wp2_with fail
  refine (All_gone gz).mono ?_
  rintro e w3 ⟨rfl, rfl⟩
  go_wp2_with fail
  refine (Dirty_gone gz _ _).mono ?_
  rintro e w3 ⟨rfl, rfl⟩
  go_wp2_with fail
  refine (Clean_gone gz _).mono ?_
  rintro e w3 ⟨rfl, rfl⟩
  go_wp2_with fail
  refine (Busy_gone (GN.out W) _).mono ?_
  rintro e w3 ⟨rfl, rfl⟩
  go_wp2_with fail
  refine (Busy_gone gz _).mono ?_
  rintro e w3 ⟨rfl, rfl⟩
  go_wp2_with fail
  refine (Fresh_gone (GN.out W)).mono ?_
  rintro e w3 ⟨rfl, t3⟩
  have g3 := gz.kept t3
  have T3 := Lib.hid (T0.out.trans t3 (by simp))
  clear t3 gz T0
  go_wp2_with fail
  refine (Fresh_gone g3).mono ?_
  rintro e w4 ⟨rfl, t4⟩
  have g4 := g3.kept t4
  have T4 := Lib.hid (T3.out.trans t4 (by simp))
  clear t4 g3 T3
  go_wp2_with fail
  refine (Take_gone (GN.out w4) _).mono ?_
  rintro e w5 ⟨rfl, t5⟩
  have g5 := g4.kept t5
  have T5 := Lib.hid (T4.out.trans t5 (by simp))
  clear t5 g4 T4
  go_wp2_with fail
  refine (Take_gone g5 _).mono ?_
  rintro e w6 ⟨rfl, t6⟩
  have g6 := g5.kept t6
  have T6 := Lib.hid (T5.out.trans t6 (by simp))
  clear t6 g5 T5
  go_wp2_with fail
  refine (Num_gone (GN.out w6) _).mono ?_
  rintro e w7 ⟨rfl, rfl⟩
  go_wp2_with fail
  refine (Num_gone g6 _).mono ?_
  rintro e w7 ⟨rfl, rfl⟩
  go_wp2_with fail
  refine (Copy_gone (GN.out w6)).mono ?_
  rintro e w7 ⟨rfl, rfl⟩
  go_wp2_with fail
  refine (Copy_gone g6).mono ?_
  rintro e w7 ⟨rfl, rfl⟩
  go_wp2_with fail
  refine (known_any w6).mono ?_
  rintro e w7 ⟨rfl, t7⟩
  go_wp2
  go_ret
  exact ⟨rfl, by rw [hB]; exact (T6.out.below0 (by omega)).trans (t7.mono (by have := T6.out.size; omega))⟩
end Go.Proofs.Ytjmgookpmngmaac
