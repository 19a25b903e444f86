/- A session's first step, whole; the document's session. -/
import Derived.Test.YthommlfigdjehaaSe5
namespace Go.Proofs.Ythommlfigdjehaa
open Go Go.RowKit Go.Maps

set_option maxHeartbeats 4000000 in
theorem Step_first {w : World} {p : Nat} {u d : ByteArray} {a : AskT} (h : SS w p 1 u d) (g : GoodA w a) {n er ph' : Int} {u' d' : ByteArray} (hf : firstF u d a.kind a.cancel a.keys a.vals = (n, er, ph', u', d')) :
    Calls Try.prog 9 #[.pointer (some ⟨p, 0, none⟩), .agg #[.int .u8 a.kind, .string a.name, .string a.portal, .string a.sql, .slice a.kA a.kn a.kc, .slice a.vA a.vn a.vc, .slice a.aA a.an a.ac, .slice a.nA a.nn a.nc, .slice a.fA a.fn a.fc, .int .i64 a.most, .int .u8 a.what, .bool a.cancel, .int .i64 a.pid, .int .i64 a.secret]] w fun e w' => e = .returned (.tuple #[.int .i64 n, .int .i64 er]) ∧ SS w' p ph' u' d' ∧ Touch [p] w w' := by
  have hlp := heap_lt h
  have t0 : Touch [] w (w.alloc (.cells #[.int .u8 a.kind, .string a.name, .string a.portal, .string a.sql, .slice a.kA a.kn a.kc, .slice a.vA a.vn a.vc, .slice a.aA a.an a.ac, .slice a.nA a.nn a.nc, .slice a.fA a.fn a.fc, .int .i64 a.most, .int .u8 a.what, .bool a.cancel, .int .i64 a.pid, .int .i64 a.secret] 30)) := (Touch.refl _ _).alloc _
  have b0 : (w.alloc (.cells #[.int .u8 a.kind, .string a.name, .string a.portal, .string a.sql, .slice a.kA a.kn a.kc, .slice a.vA a.vn a.vc, .slice a.aA a.an a.ac, .slice a.nA a.nn a.nc, .slice a.fA a.fn a.fc, .int .i64 a.most, .int .u8 a.what, .bool a.cancel, .int .i64 a.pid, .int .i64 a.secret] 30)).heap[w.heap.size]? = some (.cells #[.int .u8 a.kind, .string a.name, .string a.portal, .string a.sql, .slice a.kA a.kn a.kc, .slice a.vA a.vn a.vc, .slice a.aA a.an a.ac, .slice a.nA a.nn a.nc, .slice a.fA a.fn a.fc, .int .i64 a.most, .int .u8 a.what, .bool a.cancel, .int .i64 a.pid, .int .i64 a.secret] 30 (0, 0)) := heap_alloc_new w _
  have hN : ((1 : Int) == 1) = true := by decide
  have H := Lib.hid (And.intro (h.kept t0 (by simp)) (And.intro g (And.intro hf (And.intro t0 (And.intro b0 hlp)))))
  clear h g hf t0 b0 hlp
  go_enter Try.func9, Try.ntmps9
  go_wp2_with fail
  generalize (w.alloc (.cells #[.int .u8 a.kind, .string a.name, .string a.portal, .string a.sql, .slice a.kA a.kn a.kc, .slice a.vA a.vn a.vc, .slice a.aA a.an a.ac, .slice a.nA a.nn a.nc, .slice a.fA a.fn a.fc, .int .i64 a.most, .int .u8 a.what, .bool a.cancel, .int .i64 a.pid, .int .i64 a.secret] 30)) = W at *
  obtain ⟨g0, hg0⟩ : ∃ g, g = w.heap.size := ⟨_, rfl⟩
  rw [← hg0] at H
  rw [← hg0]
  have G := Lib.hid hg0
  clear hg0
  refine (there_yes H.out.1 (by decide)).mono ?_
  rintro e w1 ⟨rfl, rfl⟩
  have ta : Touch [] W (W.alloc (.cells #[.int .i64 0, .int .i64 0, .int .i64 0] 52)) := (Touch.refl _ _).alloc _
  have h2 : SS (W.alloc (.cells #[.int .i64 0, .int .i64 0, .int .i64 0] 52)) p 1 u d := H.out.1.kept ta (by simp)
  have c0 := h2.c0
  have b2 := (ta.block g0 (heap_lt H.out.2.2.2.2.1) (by simp)).trans H.out.2.2.2.2.1
  have HA := Lib.hid (And.intro (heap_alloc_new W (.cells #[.int .i64 0, .int .i64 0, .int .i64 0] 52)) (And.intro ta (And.intro h2 (And.intro b2 (And.intro (heap_lt H.out.1) (heap_lt H.out.2.2.2.2.1))))))
  obtain ⟨y0, y1, y2, y3, y4, y5, y6, y7, y8, y9, y10, y11, y12, y13⟩ := ask_cells b2
  have HG1 := Lib.hid H.out.2.2.2.1.size
  clear ta h2 b2
  go_wp2_with fail
  clear y0 y1 y2 y3 y4 y5 y6 y7 y8 y9 y10 y11 y12 y13
  generalize W.alloc (.cells #[.int .i64 0, .int .i64 0, .int .i64 0] 52) = W2 at *
  generalize W.heap.size = g1 at *
  refine (begin_any HA.out.2.2.1 ((H.out.2.1.kept0 H.out.2.2.2.1).kept0 HA.out.2.1) H.out.2.2.1).mono ?_
  rintro e w3 ⟨rfl, s5, t3⟩
  have hp1 : p ≠ g1 := Nat.ne_of_lt HA.out.2.2.2.2.1
  have m5 := (t3.block g1 (heap_lt HA.out.1) (by simpa using hp1.symm)).trans HA.out.1
  have y0 : w3.cell? ⟨g1, 0, none⟩ = some (.int .i64 0) := by rw [cell_of m5]; rfl
  have y1 : w3.cell? ⟨g1, 1, none⟩ = some (.int .i64 0) := by rw [cell_of m5]; rfl
  have y2 : w3.cell? ⟨g1, 2, none⟩ = some (.int .i64 0) := by rw [cell_of m5]; rfl
  have z0 := frozen_of m5 0
  have z1 := frozen_of m5 1
  have z2 := frozen_of m5 2
  have q0 := frozen_of s5 0
  have qc := s5.c0
  have e1 : Touch [g1] w3 (((w3.setCell ⟨g1, 0, none⟩ (.int .i64 n)).setCell ⟨g1, 1, none⟩ (.int .i64 ph')).setCell ⟨g1, 2, none⟩ (.int .i64 er)) := (((Touch.refl _ _).setCell _ (by simp)).setCell _ (by simp)).setCell _ (by simp)
  have e2 := s5.kept e1 (by simpa using hp1)
  have e3 := e2.set0 ph'
  have e4 := set3 m5 (.int .i64 n) (.int .i64 ph') (.int .i64 er)
  have e5 := (e3.2.block g1 (heap_lt e4) (by simpa using hp1.symm)).trans e4
  have E := Lib.hid (And.intro e3.1 (And.intro e5 (And.intro t3 ((e1.mono (S' := [g1, p]) (by simp)).trans e3.2 (by simp)))))
  clear s5 m5 e1 e2 e3 e4 e5 t3 c0
  go_wp2_with fail
  clear y0 y1 y2 z0 z1 z2 q0 qc
  generalize (((w3.setCell ⟨g1, 0, none⟩ (.int .i64 n)).setCell ⟨g1, 1, none⟩ (.int .i64 ph')).setCell ⟨g1, 2, none⟩ (.int .i64 er)).setCell ⟨p, 0, none⟩ (.int .i64 ph') = Wf at *
  have u0 : Wf.cell? ⟨g1, 0, none⟩ = some (.int .i64 n) := by rw [cell_of E.out.2.1]; rfl
  have u2 : Wf.cell? ⟨g1, 2, none⟩ = some (.int .i64 er) := by rw [cell_of E.out.2.1]; rfl
  go_quiet (fail)
  go_wp2
  go_ret2
  exact ⟨rfl, E.out.1, ((((H.out.2.2.2.1.trans HA.out.2.1 (by simp)).mono (S' := [p]) (by simp)).trans E.out.2.2.1 (by simp)).trans E.out.2.2.2 (by have := HG1.out; simp; omega)).drewN nq⟩
theorem Step_any {w : World} {p : Nat} {ph : Int} {u d : ByteArray} {a : AskT} (h : SS w p ph u d) (hp : 1 ≤ ph ∧ ph ≤ 7) (g : GoodA w a) {n er ph' : Int} {u' d' : ByteArray} (hf : stepF ph u d a.kind a.cancel a.keys a.vals = (n, er, ph', u', d')) :
    Calls Try.prog 9 #[.pointer (some ⟨p, 0, none⟩), .agg #[.int .u8 a.kind, .string a.name, .string a.portal, .string a.sql, .slice a.kA a.kn a.kc, .slice a.vA a.vn a.vc, .slice a.aA a.an a.ac, .slice a.nA a.nn a.nc, .slice a.fA a.fn a.fc, .int .i64 a.most, .int .u8 a.what, .bool a.cancel, .int .i64 a.pid, .int .i64 a.secret]] w fun e w' => e = .returned (.tuple #[.int .i64 n, .int .i64 er]) ∧ SS w' p ph' u' d' ∧ Touch [p] w w' := by
  unfold stepF at hf
  by_cases h1 : ph = 1
  · subst h1
    rw [if_pos rfl] at hf
    exact Step_first h g hf
  · rw [if_neg h1] at hf
    simp only [Prod.mk.injEq] at hf
    obtain ⟨e1, e2, e3, rfl, rfl⟩ := hf
    exact Step_later h (by omega) g (by rw [← e1, ← e2, ← e3])

/-! ### the document's -/
def RS (w : World) (p : Nat) (ph : Int) (u d : ByteArray) : Prop := w.heap[p]? = some (.cells #[.int .i64 ph, .string u, .string d] 46 (0, 0))
section
variable {w w' : World} {p : Nat} {ph : Int} {u d : ByteArray}
theorem RS.kept {S : List Nat} (h : RS w p ph u d) (t : Touch S w w') (hp : p ∉ S) : RS w' p ph u d := (t.block p (heap_lt h) hp).trans h
theorem RS.c0 (h : RS w p ph u d) : w.cell? ⟨p, 0, none⟩ = some (.int .i64 ph) := by rw [cell_of h]; rfl
theorem RS.c1 (h : RS w p ph u d) : w.cell? ⟨p, 1, none⟩ = some (.string u) := by rw [cell_of h]; rfl
theorem RS.c2 (h : RS w p ph u d) : w.cell? ⟨p, 2, none⟩ = some (.string d) := by rw [cell_of h]; rfl
theorem RS.set0 (h : RS w p ph u d) (x : Int) : RS (w.setCell ⟨p, 0, none⟩ (.int .i64 x)) p x u d ∧ Touch [p] w (w.setCell ⟨p, 0, none⟩ (.int .i64 x)) :=
  ⟨by have := block_set h (i := 0) (.int .i64 x); simpa [RS] using this, (Touch.refl _ _).setCell _ (by simp)⟩
theorem RS.set1 (h : RS w p ph u d) (x : ByteArray) : RS (w.setCell ⟨p, 1, none⟩ (.string x)) p ph x d ∧ Touch [p] w (w.setCell ⟨p, 1, none⟩ (.string x)) :=
  ⟨by have := block_set h (i := 1) (.string x); simpa [RS] using this, (Touch.refl _ _).setCell _ (by simp)⟩
theorem RS.set2 (h : RS w p ph u d) (x : ByteArray) : RS (w.setCell ⟨p, 2, none⟩ (.string x)) p ph u x ∧ Touch [p] w (w.setCell ⟨p, 2, none⟩ (.string x)) :=
  ⟨by have := block_set h (i := 2) (.string x); simpa [RS] using this, (Touch.refl _ _).setCell _ (by simp)⟩
theorem to_any (h : RS w p ph u d) (x n er : Int) : Calls Try.prog 30 #[.pointer (some ⟨p, 0, none⟩), .int .i64 x, .int .i64 n, .int .i64 er] w fun e w' => e = .returned (.tuple #[.int .i64 n, .int .i64 er]) ∧ RS w' p x u d ∧ Touch [p] w w' := by
  have c0 := h.c0
  have f0 := frozen_of h 0
  have H := Lib.hid (h.set0 x)
  clear h
  go_enter Try.func30, Try.ntmps30
  go_wp2
  go_ret2
  exact ⟨rfl, H.out.1, H.out.2⟩
theorem rAccept_any (h : RS w p (ph - 1) u d) (hp : 1 ≤ ph ∧ ph ≤ 7) (ok : Bool) : Calls Try.prog 19 #[.pointer (some ⟨p, 0, none⟩), .bool ok] w fun e w' => e = .returned (.int .i64 (acceptF ph ok).1) ∧ RS w' p ((acceptF ph ok).2 - 1) u d ∧ Touch [p] w w' := by
  have c0 := h.c0
  have f0 := frozen_of h 0
  have H := Lib.hid h
  have H1 := Lib.hid (h.set0 2)
  have H2 := Lib.hid (h.set0 6)
  obtain ⟨hp1, hp2⟩ := hp
  clear h
  by_cases h2 : ph = 2
  · subst h2
    cases ok
    all_goals
      go_enter Try.func19, Try.ntmps19
      go_wp2
      go_ret
      first | exact ⟨rfl, H1.out.1, H1.out.2⟩ | exact ⟨rfl, H2.out.1, H2.out.2⟩
  · have e1 : acceptF ph ok = (10, ph) := by unfold acceptF; rw [if_neg h2]
    rw [e1]
    have h3 : (ph - 1 != 1) = true := by simp; omega
    clear e1 h2
    go_enter Try.func19, Try.ntmps19
    go_wp2
    go_ret
    exact ⟨rfl, H.out, Touch.refl _ _⟩
theorem rDone_any (h : RS w p (ph - 1) u d) (hp : 1 ≤ ph ∧ ph ≤ 7) : Calls Try.prog 20 #[.pointer (some ⟨p, 0, none⟩)] w fun e w' => e = .returned (.int .i64 (doneF ph).1) ∧ RS w' p ((doneF ph).2 - 1) u d ∧ Touch [p] w w' := by
  have c0 := h.c0
  have f0 := frozen_of h 0
  have H := Lib.hid h
  have H1 := Lib.hid (h.set0 2)
  obtain ⟨hp1, hp2⟩ := hp
  clear h
  by_cases h2 : ph = 4
  · subst h2
    go_enter Try.func20, Try.ntmps20
    go_wp2
    go_ret
    exact ⟨rfl, H1.out.1, H1.out.2⟩
  · have e1 : doneF ph = (10, ph) := by unfold doneF; rw [if_neg h2]
    rw [e1]
    have h3 : (ph - 1 != 3) = true := by simp; omega
    clear e1 h2
    go_enter Try.func20, Try.ntmps20
    go_wp2
    go_ret
    exact ⟨rfl, H.out, Touch.refl _ _⟩
theorem rFail_any (h : RS w p (ph - 1) u d) (hp : 1 ≤ ph ∧ ph ≤ 7) : Calls Try.prog 21 #[.pointer (some ⟨p, 0, none⟩)] w fun e w' => e = .returned (.int .i64 (failF ph).1) ∧ RS w' p ((failF ph).2 - 1) u d ∧ Touch [p] w w' := by
  have c0 := h.c0
  have f0 := frozen_of h 0
  have H := Lib.hid h
  have H1 := Lib.hid (h.set0 2)
  have H2 := Lib.hid (h.set0 5)
  obtain ⟨hp1, hp2⟩ := hp
  clear h
  by_cases h2 : ph = 4
  · subst h2
    go_enter Try.func21, Try.ntmps21
    go_wp2
    go_ret
    exact ⟨rfl, H1.out.1, H1.out.2⟩
  · by_cases h5 : ph = 5
    · subst h5
      go_enter Try.func21, Try.ntmps21
      go_wp2
      go_ret
      exact ⟨rfl, H2.out.1, H2.out.2⟩
    · have e1 : failF ph = (10, ph) := by unfold failF; rw [if_neg h2, if_neg h5]
      rw [e1]
      have h3 : (ph - 1 == 3) = false := by simp; omega
      have h4 : (ph - 1 == 4) = false := by simp; omega
      clear e1 h2 h5
      go_enter Try.func21, Try.ntmps21
      go_wp2
      go_ret
      exact ⟨rfl, H.out, Touch.refl _ _⟩
end
end Go.Proofs.Ythommlfigdjehaa
