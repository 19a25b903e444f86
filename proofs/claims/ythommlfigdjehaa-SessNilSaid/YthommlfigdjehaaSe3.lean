/- A session's methods: there, New, from, Accept, Done, Fail, Phase, User, Db, Copy, group. -/
import Derived.Test.YthommlfigdjehaaSe2
namespace Go.Proofs.Ythommlfigdjehaa
open Go Go.RowKit Go.Maps

/-- A session lies at p. -/
def SS (w : World) (p : Nat) (ph : Int) (u d : ByteArray) : Prop := w.heap[p]? = some (.cells #[.int .i64 ph, .string u, .string d] 49 (0, 0))
section
variable {w w' : World} {p : Nat} {ph : Int} {u d : ByteArray}
theorem SS.kept {S : List Nat} (h : SS w p ph u d) (t : Touch S w w') (hp : p ∉ S) : SS w' p ph u d := (t.block p (heap_lt h) hp).trans h
theorem SS.c0 (h : SS w p ph u d) : w.cell? ⟨p, 0, none⟩ = some (.int .i64 ph) := by rw [cell_of h]; rfl
theorem SS.c1 (h : SS w p ph u d) : w.cell? ⟨p, 1, none⟩ = some (.string u) := by rw [cell_of h]; rfl
theorem SS.c2 (h : SS w p ph u d) : w.cell? ⟨p, 2, none⟩ = some (.string d) := by rw [cell_of h]; rfl
theorem SS.set0 (h : SS w p ph u d) (x : Int) : SS (w.setCell ⟨p, 0, none⟩ (.int .i64 x)) p x u d ∧ Touch [p] w (w.setCell ⟨p, 0, none⟩ (.int .i64 x)) :=
  ⟨by have := block_set h (i := 0) (.int .i64 x); simpa [SS] using this, (Touch.refl _ _).setCell _ (by simp)⟩
theorem SS.set1 (h : SS w p ph u d) (x : ByteArray) : SS (w.setCell ⟨p, 1, none⟩ (.string x)) p ph x d ∧ Touch [p] w (w.setCell ⟨p, 1, none⟩ (.string x)) :=
  ⟨by have := block_set h (i := 1) (.string x); simpa [SS] using this, (Touch.refl _ _).setCell _ (by simp)⟩
theorem SS.set2 (h : SS w p ph u d) (x : ByteArray) : SS (w.setCell ⟨p, 2, none⟩ (.string x)) p ph u x ∧ Touch [p] w (w.setCell ⟨p, 2, none⟩ (.string x)) :=
  ⟨by have := block_set h (i := 2) (.string x); simpa [SS] using this, (Touch.refl _ _).setCell _ (by simp)⟩

theorem there_yes (h : SS w p ph u d) (hp : 0 < ph) : Calls Try.prog 24 #[.pointer (some ⟨p, 0, none⟩)] w fun e w' => e = .returned (.bool true) ∧ w = w' := by
  have c0 := h.c0
  go_enter Try.func24, Try.ntmps24
  go_wp2
  go_ret
  exact ⟨rfl, rfl⟩
theorem there_zero (h : SS w p 0 u d) : Calls Try.prog 24 #[.pointer (some ⟨p, 0, none⟩)] w fun e w' => e = .returned (.bool false) ∧ w = w' := by
  have c0 := h.c0
  go_enter Try.func24, Try.ntmps24
  go_wp2
  go_ret
  exact ⟨rfl, rfl⟩
theorem there_nil (w : World) : Calls Try.prog 24 #[.pointer none] w fun e w' => e = .returned (.bool false) ∧ w = w' := by
  go_enter Try.func24, Try.ntmps24
  go_wp2
  go_ret
  exact ⟨rfl, rfl⟩
theorem New_any (w : World) : Calls Try.prog 17 #[] w fun e w' => e = .returned (.pointer (some ⟨w.heap.size, 0, none⟩)) ∧ SS w' w.heap.size 1 ⟨#[]⟩ ⟨#[]⟩ ∧ Touch [] w w' := by
  go_enter Try.func17, Try.ntmps17
  go_wp2
  go_ret
  exact ⟨rfl, heap_alloc_new w _, (Touch.refl _ _).alloc _⟩
theorem from_hit (h : SS w p ph u d) (hp : 0 < ph) (x : Int) : Calls Try.prog 28 #[.pointer (some ⟨p, 0, none⟩), .int .i64 ph, .int .i64 x] w fun e w' => e = .returned (.int .i64 0) ∧ SS w' p x u d ∧ Touch [p] w w' := by
  have c0 := h.c0
  have f0 := frozen_of h 0
  have hs := h.set0 x
  have HS := Lib.hid hs
  have hn : (ph != ph) = false := by simp
  clear hs
  go_enter Try.func28, Try.ntmps28
  go_wp2_with (go_at_call 24; refine (there_yes h hp).mono ?_; rintro e w' ⟨rfl, rfl⟩)
  go_ret
  exact ⟨rfl, HS.out.1, HS.out.2⟩
theorem from_miss (h : SS w p ph u d) (hp : 0 < ph) (was x : Int) (hn : ph ≠ was) : Calls Try.prog 28 #[.pointer (some ⟨p, 0, none⟩), .int .i64 was, .int .i64 x] w fun e w' => e = .returned (.int .i64 10) ∧ w = w' := by
  have c0 := h.c0
  have hn : (ph != was) = true := by simp [hn]
  go_enter Try.func28, Try.ntmps28
  go_wp2_with (go_at_call 24; refine (there_yes h hp).mono ?_; rintro e w' ⟨rfl, rfl⟩)
  go_ret
  exact ⟨rfl, rfl⟩
end

def acceptF (ph : Int) (ok : Bool) : Int × Int := if ph = 2 then (if ok then (0, 3) else (14, 7)) else (10, ph)
def doneF (ph : Int) : Int × Int := if ph = 4 then (0, 3) else (10, ph)
def failF (ph : Int) : Int × Int := if ph = 4 then (0, 3) else if ph = 5 then (0, 6) else (10, ph)
section
variable {w w' : World} {p : Nat} {ph : Int} {u d : ByteArray}
theorem Accept_any (h : SS w p ph u d) (hp : 0 < ph) (ok : Bool) : Calls Try.prog 13 #[.pointer (some ⟨p, 0, none⟩), .bool ok] w fun e w' => e = .returned (.int .i64 (acceptF ph ok).1) ∧ SS w' p (acceptF ph ok).2 u d ∧ Touch [p] w w' := by
  have H := Lib.hid h
  by_cases h2 : ph = 2
  · subst h2
    cases ok
    · have e1 : acceptF 2 false = (14, 7) := rfl
      rw [e1]
      go_enter Try.func13, Try.ntmps13
      go_wp2_with fail
      refine (from_hit H.out (by decide) 7).mono ?_
      rintro e w1 ⟨rfl, h1, t1⟩
      have HS := Lib.hid (And.intro h1 t1)
      clear h1 t1 e1
      go_wp2
      go_ret
      exact ⟨rfl, HS.out.1, HS.out.2⟩
    · have e1 : acceptF 2 true = (0, 3) := rfl
      rw [e1]
      go_enter Try.func13, Try.ntmps13
      go_wp2_with fail
      refine (from_hit H.out (by decide) 3).mono ?_
      rintro e w1 ⟨rfl, h1, t1⟩
      have HS := Lib.hid (And.intro h1 t1)
      clear h1 t1 e1
      go_wp2
      go_ret
      exact ⟨rfl, HS.out.1, HS.out.2⟩
  · have e1 : acceptF ph ok = (10, ph) := by unfold acceptF; rw [if_neg h2]
    rw [e1]
    have P := Lib.hid hp
    have N := Lib.hid h2
    clear e1 hp h2 h
    cases ok
    all_goals
      go_enter Try.func13, Try.ntmps13
      go_wp2_with fail
      refine (from_miss H.out P.out 2 _ N.out).mono ?_
      rintro e w1 ⟨rfl, rfl⟩
      go_wp2
      go_ret
      exact ⟨rfl, H.out, Touch.refl _ _⟩
theorem Done_any (h : SS w p ph u d) (hp : 0 < ph) : Calls Try.prog 12 #[.pointer (some ⟨p, 0, none⟩)] w fun e w' => e = .returned (.int .i64 (doneF ph).1) ∧ SS w' p (doneF ph).2 u d ∧ Touch [p] w w' := by
  have H := Lib.hid h
  by_cases h2 : ph = 4
  · subst h2
    have e1 : doneF 4 = (0, 3) := rfl
    rw [e1]
    clear h e1
    go_enter Try.func12, Try.ntmps12
    go_wp2_with fail
    refine (from_hit H.out (by decide) 3).mono ?_
    rintro e w1 ⟨rfl, h1, t1⟩
    have HS := Lib.hid (And.intro h1 t1)
    clear h1 t1
    go_wp2
    go_ret
    exact ⟨rfl, HS.out.1, HS.out.2⟩
  · have e1 : doneF ph = (10, ph) := by unfold doneF; rw [if_neg h2]
    rw [e1]
    have P := Lib.hid hp
    have N := Lib.hid h2
    clear e1 hp h2 h
    go_enter Try.func12, Try.ntmps12
    go_wp2_with fail
    refine (from_miss H.out P.out 4 _ N.out).mono ?_
    rintro e w1 ⟨rfl, rfl⟩
    go_wp2
    go_ret
    exact ⟨rfl, H.out, Touch.refl _ _⟩
theorem Fail_any (h : SS w p ph u d) (hp : 0 < ph) : Calls Try.prog 14 #[.pointer (some ⟨p, 0, none⟩)] w fun e w' => e = .returned (.int .i64 (failF ph).1) ∧ SS w' p (failF ph).2 u d ∧ Touch [p] w w' := by
  have H := Lib.hid h
  by_cases h2 : ph = 4
  · subst h2
    have e1 : failF 4 = (0, 3) := rfl
    rw [e1]
    clear h e1
    go_enter Try.func14, Try.ntmps14
    go_wp2_with fail
    refine (from_hit H.out (by decide) 3).mono ?_
    rintro e w1 ⟨rfl, h1, t1⟩
    have HS := Lib.hid (And.intro h1 t1)
    clear h1 t1
    go_wp2
    go_ret
    exact ⟨rfl, HS.out.1, HS.out.2⟩
  · have P := Lib.hid hp
    have N := Lib.hid h2
    by_cases h5 : ph = 5
    · subst h5
      have e1 : failF 5 = (0, 6) := rfl
      rw [e1]
      clear h e1 h2 hp
      go_enter Try.func14, Try.ntmps14
      go_wp2_with fail
      refine (from_miss H.out P.out 4 _ N.out).mono ?_
      rintro e w1 ⟨rfl, rfl⟩
      go_wp2_with fail
      refine (from_hit H.out (by decide) 6).mono ?_
      rintro e w1 ⟨rfl, h1, t1⟩
      have HS := Lib.hid (And.intro h1 t1)
      clear h1 t1
      go_wp2
      go_ret
      exact ⟨rfl, HS.out.1, HS.out.2⟩
    · have e1 : failF ph = (10, ph) := by unfold failF; rw [if_neg h2, if_neg h5]
      rw [e1]
      have N5 := Lib.hid h5
      clear e1 hp h2 h h5
      go_enter Try.func14, Try.ntmps14
      go_wp2_with fail
      refine (from_miss H.out P.out 4 _ N.out).mono ?_
      rintro e w1 ⟨rfl, rfl⟩
      go_wp2_with fail
      refine (from_miss H.out P.out 5 _ N5.out).mono ?_
      rintro e w1 ⟨rfl, rfl⟩
      go_wp2
      go_ret
      exact ⟨rfl, H.out, Touch.refl _ _⟩
theorem Phase_any (h : SS w p ph u d) (hp : 1 ≤ ph ∧ ph ≤ 7) : Calls Try.prog 15 #[.pointer (some ⟨p, 0, none⟩)] w fun e w' => e = .returned (.int .i64 (ph - 1)) ∧ w = w' := by
  have c0 := h.c0
  obtain ⟨hp1, hp2⟩ := hp
  have H := Lib.hid h
  clear h
  go_enter Try.func15, Try.ntmps15
  go_wp2_with fail
  refine (there_yes H.out (by omega)).mono ?_
  rintro e w1 ⟨rfl, rfl⟩
  go_wp2
  go_ret
  exact ⟨rfl, rfl⟩
theorem User_any (h : SS w p ph u d) (hp : 0 < ph) : Calls Try.prog 10 #[.pointer (some ⟨p, 0, none⟩)] w fun e w' => e = .returned (.string u) ∧ w = w' := by
  have c0 := h.c1
  go_enter Try.func10, Try.ntmps10
  go_wp2_with fail
  refine (there_yes h hp).mono ?_
  rintro e w1 ⟨rfl, rfl⟩
  go_wp2
  go_ret
  exact ⟨rfl, rfl⟩
theorem Db_any (h : SS w p ph u d) (hp : 0 < ph) : Calls Try.prog 11 #[.pointer (some ⟨p, 0, none⟩)] w fun e w' => e = .returned (.string d) ∧ w = w' := by
  have c0 := h.c2
  go_enter Try.func11, Try.ntmps11
  go_wp2_with fail
  refine (there_yes h hp).mono ?_
  rintro e w1 ⟨rfl, rfl⟩
  go_wp2
  go_ret
  exact ⟨rfl, rfl⟩
theorem Copy_any (h : SS w p ph u d) (hp : 0 < ph) : Calls Try.prog 22 #[.pointer (some ⟨p, 0, none⟩)] w fun e w' => e = .returned (.pointer (some ⟨w.heap.size, 0, none⟩)) ∧ SS w' w.heap.size ph u d ∧ Touch [] w w' := by
  have c0 := h.c0
  have c1 := h.c1
  have c2 := h.c2
  go_enter Try.func22, Try.ntmps22
  go_wp2_with fail
  refine (there_yes h hp).mono ?_
  rintro e w1 ⟨rfl, rfl⟩
  go_wp2
  go_ret
  exact ⟨rfl, heap_alloc_new w _, (Touch.refl _ _).alloc _⟩
theorem group_any (k : Int) (w : World) : Calls Try.prog 27 #[.int .u8 k] w fun e w' => e = .returned (.int .u8 (grp k)) ∧ w = w' := by
  go_enter Try.func27, Try.ntmps27
  go_wp2
  all_goals
    go_ret
    refine ⟨?_, rfl⟩
    simp only [beq_iff_eq, beq_eq_false_iff_ne, ne_eq] at *
    first
      | (show Ending.returned (.int .u8 80) = _; rw [show grp k = 80 from by unfold grp; rw [if_pos (by omega)]])
      | (show Ending.returned (.int .u8 k) = _; rw [show grp k = k from by unfold grp; rw [if_neg (by omega), if_pos (by omega)]])
      | (show Ending.returned (.int .u8 0) = _; rw [show grp k = 0 from by unfold grp; rw [if_neg (by omega), if_neg (by omega)]])
end
end Go.Proofs.Ythommlfigdjehaa
