/- A session's step. -/
import Derived.Test.YthommlfigdjehaaSe4
import Derived.IntWalk
namespace Go.Proofs.Ythommlfigdjehaa
open Go Go.RowKit Go.Maps

def stV (r : Int × Int × Int) : Value := mvV (r.1, r.2.2, r.2.1)
theorem mv_hit {ph k : Int} (hp : 2 ≤ ph ∧ ph ≤ 7) : mget (litKv mvTbl) (ph, grp k) = some (stV (stepK ph k)) ∨ (mget (litKv mvTbl) (ph, grp k) = none ∧ mget (litKv mvTbl) (ph, 0) = some (stV (stepK ph k))) := by
  have h : ph = 2 ∨ ph = 3 ∨ ph = 4 ∨ ph = 5 ∨ ph = 6 ∨ ph = 7 := by omega
  by_cases h1 : k = 80 ∨ k = 66 ∨ k = 68 ∨ k = 69 ∨ k = 67 ∨ k = 72
  · have g : grp k = 80 := by unfold grp; rw [if_pos h1]
    have n1 : k ≠ 112 := by omega
    have n2 : k ≠ 88 := by omega
    have n3 : k ≠ 83 := by omega
    have n4 : k ≠ 81 := by omega
    rw [g]
    rcases h with rfl | rfl | rfl | rfl | rfl | rfl <;> simp [mget, litKv, mvTbl, stV, stepK, n1, n2, n3, n4, h1]
  · by_cases h2 : k = 112 ∨ k = 81 ∨ k = 83 ∨ k = 88
    · have g : grp k = k := by unfold grp; rw [if_neg h1, if_pos h2]
      rw [g]
      clear h1 g
      rcases h2 with rfl | rfl | rfl | rfl <;> rcases h with rfl | rfl | rfl | rfl | rfl | rfl <;> simp [mget, litKv, mvTbl, stV, stepK]
    · have g : grp k = 0 := by unfold grp; rw [if_neg h1, if_neg h2]
      have n1 : k ≠ 112 := by omega
      have n2 : k ≠ 88 := by omega
      have n3 : k ≠ 83 := by omega
      have n4 : k ≠ 81 := by omega
      rw [g]
      rcases h with rfl | rfl | rfl | rfl | rfl | rfl <;> simp [mget, litKv, mvTbl, stV, stepK, n1, n2, n3, n4, h1]

theorem grp_bd (k : Int) (h : 0 ≤ k ∧ k ≤ 255) : 0 ≤ grp k ∧ grp k ≤ 255 := by
  unfold grp; split
  · omega
  · split <;> omega
theorem goodI_of {x : Int} (h : -1000 ≤ x ∧ x ≤ 1000) : goodI x := by
  unfold goodI
  simp [Lit.wf, IntKind.min, IntKind.max, IntKind.bits, IntKind.signed]
  omega
theorem zero_mv (u : World) : (zeroValue 52).run Try.prog u = .ok (.agg #[.int .i64 0, .int .i64 0, .int .i64 0]) u := by kernel_rfl
theorem set3 {w : World} {g : Nat} {a b c : Value} {t : TypeId} (h : w.heap[g]? = some (.cells #[a, b, c] t (0, 0))) (x y z : Value) : (((w.setCell ⟨g, 0, none⟩ x).setCell ⟨g, 1, none⟩ y).setCell ⟨g, 2, none⟩ z).heap[g]? = some (.cells #[x, y, z] t (0, 0)) := by
  have h1 := block_set h (i := 0) x
  have h2 := block_set h1 (i := 1) y
  have h3 := block_set h2 (i := 2) z
  simpa using h3
set_option maxHeartbeats 4000000 in
theorem Step_later {w : World} {p : Nat} {ph : Int} {u d : ByteArray} {a : AskT} (h : SS w p ph u d) (hp : 2 ≤ ph ∧ ph ≤ 7) (g : GoodA w a) {n er ph' : Int} (hf : stepK ph a.kind = (n, er, ph')) :
    Calls Try.prog 9 #[.pointer (some ⟨p, 0, none⟩), .agg #[.int .u8 a.kind, .string a.name, .string a.portal, .string a.sql, .slice a.kA a.kn a.kc, .slice a.vA a.vn a.vc, .slice a.aA a.an a.ac, .slice a.nA a.nn a.nc, .slice a.fA a.fn a.fc, .int .i64 a.most, .int .u8 a.what, .bool a.cancel, .int .i64 a.pid, .int .i64 a.secret]] w fun e w' => e = .returned (.tuple #[.int .i64 n, .int .i64 er]) ∧ SS w' p ph' u d ∧ Touch [p] w w' := by
  have hlp := heap_lt h
  have t0 : Touch [] w (w.alloc (.cells #[.int .u8 a.kind, .string a.name, .string a.portal, .string a.sql, .slice a.kA a.kn a.kc, .slice a.vA a.vn a.vc, .slice a.aA a.an a.ac, .slice a.nA a.nn a.nc, .slice a.fA a.fn a.fc, .int .i64 a.most, .int .u8 a.what, .bool a.cancel, .int .i64 a.pid, .int .i64 a.secret] 30)) := (Touch.refl _ _).alloc _
  have b0 : (w.alloc (.cells #[.int .u8 a.kind, .string a.name, .string a.portal, .string a.sql, .slice a.kA a.kn a.kc, .slice a.vA a.vn a.vc, .slice a.aA a.an a.ac, .slice a.nA a.nn a.nc, .slice a.fA a.fn a.fc, .int .i64 a.most, .int .u8 a.what, .bool a.cancel, .int .i64 a.pid, .int .i64 a.secret] 30)).heap[w.heap.size]? = some (.cells #[.int .u8 a.kind, .string a.name, .string a.portal, .string a.sql, .slice a.kA a.kn a.kc, .slice a.vA a.vn a.vc, .slice a.aA a.an a.ac, .slice a.nA a.nn a.nc, .slice a.fA a.fn a.fc, .int .i64 a.most, .int .u8 a.what, .bool a.cancel, .int .i64 a.pid, .int .i64 a.secret] 30 (0, 0)) := heap_alloc_new w _
  have hN : (ph == 1) = false := by simp; omega
  have H := Lib.hid (And.intro (h.kept t0 (by simp)) (And.intro g (And.intro hf (And.intro t0 (And.intro b0 (And.intro hlp hp))))))
  clear h g hf t0 b0 hlp hp
  go_enter Try.func9, Try.ntmps9
  go_wp2_with fail
  generalize (w.alloc (.cells #[.int .u8 a.kind, .string a.name, .string a.portal, .string a.sql, .slice a.kA a.kn a.kc, .slice a.vA a.vn a.vc, .slice a.aA a.an a.ac, .slice a.nA a.nn a.nc, .slice a.fA a.fn a.fc, .int .i64 a.most, .int .u8 a.what, .bool a.cancel, .int .i64 a.pid, .int .i64 a.secret] 30)) = W at *
  obtain ⟨g0, hg0⟩ : ∃ g, g = w.heap.size := ⟨_, rfl⟩
  rw [← hg0] at H
  rw [← hg0]
  have G := Lib.hid hg0
  clear hg0
  refine (there_yes H.out.1 (by have := H.out.2.2.2.2.2.2; omega)).mono ?_
  rintro e w1 ⟨rfl, rfl⟩
  have ta : Touch [] W (W.alloc (.cells #[.int .i64 0, .int .i64 0, .int .i64 0] 52)) := (Touch.refl _ _).alloc _
  have h2 : SS (W.alloc (.cells #[.int .i64 0, .int .i64 0, .int .i64 0] 52)) p ph u d := H.out.1.kept ta (by simp)
  have c0 := h2.c0
  have HA := Lib.hid (And.intro (heap_alloc_new W (.cells #[.int .i64 0, .int .i64 0, .int .i64 0] 52)) (And.intro ta (And.intro h2 (And.intro (ta.block g0 (heap_lt H.out.2.2.2.2.1) (by simp)) (And.intro (heap_lt H.out.1) (heap_lt H.out.2.2.2.2.1))))))
  clear ta h2
  go_wp2_with fail
  generalize W.alloc (.cells #[.int .i64 0, .int .i64 0, .int .i64 0] 52) = W2 at *
  have HG1 := Lib.hid H.out.2.2.2.1.size
  generalize W.heap.size = g1 at *
  refine (moves_any W2).mono ?_
  rintro e w3 ⟨b, rfl, hb, l, hM, hl, t3⟩
  have hp1 : p ≠ g1 := Nat.ne_of_lt HA.out.2.2.2.2.1
  have h01 : g0 ≠ g1 := Nat.ne_of_lt HA.out.2.2.2.2.2
  have h3 := HA.out.2.2.1.kept t3 (by simp)
  have b3 := (t3.block g0 (by have := HA.out.2.2.2.2.2; have := heap_lt HA.out.1; omega) (by simp)).trans (HA.out.2.2.2.1.trans H.out.2.2.2.2.1)
  have m3 := (t3.block g1 (heap_lt HA.out.1) (by simp)).trans HA.out.1
  have hp0 := H.out.2.2.2.2.2.2
  have hgb := grp_bd a.kind H.out.2.1.kind
  have hgk : goodK (ph, grp a.kind) ∧ goodK (ph, 0) := ⟨⟨goodI_of (by simp only; omega), goodI_of (by simp only; omega)⟩, ⟨goodI_of (by simp only; omega), goodI_of (by simp only; omega)⟩⟩
  have c0 := h3.c0
  have k0 : w3.cell? ⟨g0, 0, none⟩ = some (.int .u8 a.kind) := by rw [cell_of b3]; rfl
  have hst : stV (stepK ph a.kind) = .agg #[.int .i64 n, .int .i64 ph', .int .i64 er] := by rw [H.out.2.2.1]; rfl
  obtain ⟨hgb1, hgb2⟩ := hgb
  have T3 := Lib.hid (And.intro h3 (And.intro b3 (And.intro m3 (And.intro hM (And.intro hl (And.intro hgk (And.intro hst t3)))))))
  have hb3 := Lib.hid hb
  clear h3 b3 m3 hM hl hgk t3 hst hp0 hb
  have hwr : IntKind.i64.wrap (grp a.kind) = grp a.kind := IntWalk.i64_in _ (by omega)
  rcases mv_hit (k := a.kind) H.out.2.2.2.2.2.2 with hv | ⟨hv0, hv⟩
  · have HL : Hid (∀ w', Touch [] w3 w' → (Instr.lookup 54 (.map (some b)) (.agg #[.int .i64 ph, .int .i64 (grp a.kind)]) true).run Try.prog w' = .ok (.tuple #[.agg #[.int .i64 n, .int .i64 ph', .int .i64 er], .bool true]) w') := Lib.hid fun w' t => by
      have h1 := (T3.out.2.2.2.1.of_block (t.block b T3.out.2.2.2.1.lt (by simp))).look_hit encK Try.underlying54 T3.out.2.2.2.2.2.1.1 ((T3.out.2.2.2.2.1 _).trans hv) true
      rw [T3.out.2.2.2.2.2.2.1] at h1
      exact h1
    clear hv
    have HZ : Hid (w3.heap.size ≠ p ∧ w3.heap.size ≠ g0) := Lib.hid ⟨by have := heap_lt T3.out.1; omega, by have := heap_lt T3.out.2.1; omega⟩
    have tA : Touch [] w3 (w3.alloc (.cells #[.int .i64 n, .int .i64 ph', .int .i64 er] 52)).drew := ((Touch.refl _ _).alloc _).drew
    have hb5 : (w3.alloc (.cells #[.int .i64 n, .int .i64 ph', .int .i64 er] 52)).drew.heap[w3.heap.size]? = some (.cells #[.int .i64 n, .int .i64 ph', .int .i64 er] 52 (0, 0)) := heap_alloc_new w3 _
    have M := Lib.hid (And.intro (T3.out.1.kept tA (by simp)) (And.intro ((tA.block g1 (heap_lt T3.out.2.2.1) (by simp)).trans T3.out.2.2.1) (And.intro hb5 (And.intro (T3.out.2.2.2.2.2.2.2.trans tA (by simp)) (And.intro (heap_lt T3.out.2.2.1) (And.intro (heap_lt T3.out.1) tA))))))
    clear tA hb5
    go_wp2_with fail
    go_region_held3 (fun W' => W'.cell? ⟨p, 0, none⟩ = some (.int .i64 ph) ∧ W'.cell? ⟨g0, 0, none⟩ = some (.int .u8 a.kind) ∧ (Instr.lookup 54 (.map (some b)) (.agg #[.int .i64 ph, .int .i64 (grp a.kind)]) true).run Try.prog W' = .ok (.tuple #[.agg #[.int .i64 n, .int .i64 ph', .int .i64 er], .bool true]) W')
      (exact ⟨by first | (go_keep; done) | (simp [*, World.cell?_alloc_some, World.cell?_setCell_far, HZ.out.1]; done), by first | (go_keep; done) | (simp [*, World.cell?_alloc_some, World.cell?_setCell_far, HZ.out.2]; done), by first | exact HL.out _ ((Touch.refl _ _).drew) | exact HL.out _ (((Touch.refl _ _).drew).alloc _) | exact HL.out _ ((((((Touch.refl _ _).drew).alloc _).setCell _ (.inr (Nat.le_refl _))).setCell _ (.inr (Nat.le_refl _))).setCell _ (.inr (Nat.le_refl _)))⟩)
      (first | (go_at_call 27; refine (group_any _ _).mono ?_; rintro e w5 ⟨rfl, rfl⟩))
    all_goals
      clear HL k0 c0 HZ
      generalize (w3.alloc (.cells #[.int .i64 n, .int .i64 ph', .int .i64 er] 52)).drew = W5 at *
      generalize w3.heap.size = g5 at *
      have s5 := M.out.1
      have m5 := M.out.2.1
      have n5 := M.out.2.2.1
      have x0 : W5.cell? ⟨g5, 0, none⟩ = some (.int .i64 n) := by rw [cell_of n5]; rfl
      have x1 : W5.cell? ⟨g5, 1, none⟩ = some (.int .i64 ph') := by rw [cell_of n5]; rfl
      have x2 : W5.cell? ⟨g5, 2, none⟩ = some (.int .i64 er) := by rw [cell_of n5]; rfl
      have y0 : W5.cell? ⟨g1, 0, none⟩ = some (.int .i64 0) := by rw [cell_of m5]; rfl
      have y1 : W5.cell? ⟨g1, 1, none⟩ = some (.int .i64 0) := by rw [cell_of m5]; rfl
      have y2 : W5.cell? ⟨g1, 2, none⟩ = some (.int .i64 0) := by rw [cell_of m5]; rfl
      have z0 := frozen_of m5 0
      have z1 := frozen_of m5 1
      have z2 := frozen_of m5 2
      have q0 := frozen_of s5 0
      have qc := s5.c0
      have h51 : g5 ≠ g1 := by have := M.out.2.2.2.2.1; omega
      have h5p : g5 ≠ p := by have := M.out.2.2.2.2.2.1; omega
      have e1 : Touch [g1] W5 (((W5.setCell ⟨g1, 0, none⟩ (.int .i64 n)).setCell ⟨g1, 1, none⟩ (.int .i64 ph')).setCell ⟨g1, 2, none⟩ (.int .i64 er)) := (((Touch.refl _ _).setCell _ (by simp)).setCell _ (by simp)).setCell _ (by simp)
      have e2 := s5.kept e1 (by simpa using hp1)
      have e3 := e2.set0 ph'
      have e4 := set3 m5 (.int .i64 n) (.int .i64 ph') (.int .i64 er)
      have e5 := (e3.2.block g1 (heap_lt e4) (by simpa using hp1.symm)).trans e4
      have E := Lib.hid (And.intro e3.1 (And.intro e5 ((e1.mono (S' := [g1, p]) (by simp)).trans e3.2 (by simp))))
      clear s5 m5 n5 e1 e2 e3 e4 e5
      go_wp2_with fail
      clear x0 x1 x2 y0 y1 y2 z0 z1 z2 q0 qc
      generalize (((W5.setCell ⟨g1, 0, none⟩ (.int .i64 n)).setCell ⟨g1, 1, none⟩ (.int .i64 ph')).setCell ⟨g1, 2, none⟩ (.int .i64 er)).setCell ⟨p, 0, none⟩ (.int .i64 ph') = Wf at *
      have u0 : Wf.cell? ⟨g1, 0, none⟩ = some (.int .i64 n) := by rw [cell_of E.out.2.1]; rfl
      have u2 : Wf.cell? ⟨g1, 2, none⟩ = some (.int .i64 er) := by rw [cell_of E.out.2.1]; rfl
      go_quiet (fail)
      go_wp2
      go_ret2
      exact ⟨rfl, E.out.1, ((((H.out.2.2.2.1.trans HA.out.2.1 (by simp)).trans M.out.2.2.2.1 (by simp)).mono (S' := [p]) (by simp)).trans E.out.2.2 (by have := HG1.out; simp; omega)).drewN nq⟩
  · have HL : Hid (∀ w', Touch [] w3 w' → (Instr.lookup 54 (.map (some b)) (.agg #[.int .i64 ph, .int .i64 (grp a.kind)]) true).run Try.prog w' = .ok (.tuple #[.agg #[.int .i64 0, .int .i64 0, .int .i64 0], .bool false]) w') := Lib.hid fun w' t => by
      have h1 := (T3.out.2.2.2.1.of_block (t.block b T3.out.2.2.2.1.lt (by simp))).look_miss encK Try.underlying54 (zero_mv _) T3.out.2.2.2.2.2.1.1 ((T3.out.2.2.2.2.1 _).trans hv0) true
      exact h1
    have HL2 : Hid (∀ w', Touch [] w3 w' → (Instr.lookup 54 (.map (some b)) (.agg #[.int .i64 ph, .int .i64 0]) false).run Try.prog w' = .ok (.agg #[.int .i64 n, .int .i64 ph', .int .i64 er]) w') := Lib.hid fun w' t => by
      have h1 := (T3.out.2.2.2.1.of_block (t.block b T3.out.2.2.2.1.lt (by simp))).look_hit encK Try.underlying54 T3.out.2.2.2.2.2.1.2 ((T3.out.2.2.2.2.1 _).trans hv) false
      rw [T3.out.2.2.2.2.2.2.1] at h1
      exact h1
    clear hv hv0
    have HZ : Hid (w3.heap.size ≠ p ∧ w3.heap.size ≠ g0) := Lib.hid ⟨by have := heap_lt T3.out.1; omega, by have := heap_lt T3.out.2.1; omega⟩
    have tA : Touch [] w3 (w3.alloc (.cells #[.int .i64 0, .int .i64 0, .int .i64 0] 52)).drew := ((Touch.refl _ _).alloc _).drew
    have hb5 : (w3.alloc (.cells #[.int .i64 0, .int .i64 0, .int .i64 0] 52)).drew.heap[w3.heap.size]? = some (.cells #[.int .i64 0, .int .i64 0, .int .i64 0] 52 (0, 0)) := heap_alloc_new w3 _
    have M := Lib.hid (And.intro (T3.out.1.kept tA (by simp)) (And.intro ((tA.block g1 (heap_lt T3.out.2.2.1) (by simp)).trans T3.out.2.2.1) (And.intro hb5 (And.intro (T3.out.2.2.2.2.2.2.2.trans tA (by simp)) (And.intro (heap_lt T3.out.2.2.1) (And.intro (heap_lt T3.out.1) tA))))))
    clear tA hb5
    go_wp2_with fail
    go_region_held3 (fun W' => W'.cell? ⟨p, 0, none⟩ = some (.int .i64 ph) ∧ W'.cell? ⟨g0, 0, none⟩ = some (.int .u8 a.kind) ∧ (Instr.lookup 54 (.map (some b)) (.agg #[.int .i64 ph, .int .i64 (grp a.kind)]) true).run Try.prog W' = .ok (.tuple #[.agg #[.int .i64 0, .int .i64 0, .int .i64 0], .bool false]) W')
      (exact ⟨by first | (go_keep; done) | (simp [*, World.cell?_alloc_some, World.cell?_setCell_far, HZ.out.1]; done), by first | (go_keep; done) | (simp [*, World.cell?_alloc_some, World.cell?_setCell_far, HZ.out.2]; done), by first | exact HL.out _ ((Touch.refl _ _).drew) | exact HL.out _ (((Touch.refl _ _).drew).alloc _) | exact HL.out _ ((((((Touch.refl _ _).drew).alloc _).setCell _ (.inr (Nat.le_refl _))).setCell _ (.inr (Nat.le_refl _))).setCell _ (.inr (Nat.le_refl _)))⟩)
      (first | (go_at_call 27; refine (group_any _ _).mono ?_; rintro e w5 ⟨rfl, rfl⟩))
    all_goals
      clear HL k0 c0 HZ
      generalize (w3.alloc (.cells #[.int .i64 0, .int .i64 0, .int .i64 0] 52)).drew = W5 at *
      have HG5 := Lib.hid (Nat.le_trans (Nat.le_trans H.out.2.2.2.1.size HA.out.2.1.size) T3.out.2.2.2.2.2.2.2.size)
      generalize w3.heap.size = g5 at *
      have s5 := M.out.1
      have m5 := M.out.2.1
      have n5 := M.out.2.2.1
      have x0 : W5.cell? ⟨g5, 0, none⟩ = some (.int .i64 0) := by rw [cell_of n5]; rfl
      have x1 : W5.cell? ⟨g5, 1, none⟩ = some (.int .i64 0) := by rw [cell_of n5]; rfl
      have x2 : W5.cell? ⟨g5, 2, none⟩ = some (.int .i64 0) := by rw [cell_of n5]; rfl
      have y0 : W5.cell? ⟨g1, 0, none⟩ = some (.int .i64 0) := by rw [cell_of m5]; rfl
      have y1 : W5.cell? ⟨g1, 1, none⟩ = some (.int .i64 0) := by rw [cell_of m5]; rfl
      have y2 : W5.cell? ⟨g1, 2, none⟩ = some (.int .i64 0) := by rw [cell_of m5]; rfl
      have z0 := frozen_of m5 0
      have z1 := frozen_of m5 1
      have z2 := frozen_of m5 2
      have q0 := frozen_of s5 0
      have qc := s5.c0
      have h51 : g5 ≠ g1 := by have := M.out.2.2.2.2.1; omega
      have h5p : g5 ≠ p := by have := M.out.2.2.2.2.2.1; omega
      have v0 := frozen_of n5 0
      have v1 := frozen_of n5 1
      have v2 := frozen_of n5 2
      have ll := HL2.out W5 M.out.2.2.2.2.2.2
      have T6 : Touch [g5] W5 (((W5.setCell ⟨g5, 0, none⟩ (.int .i64 n)).setCell ⟨g5, 1, none⟩ (.int .i64 ph')).setCell ⟨g5, 2, none⟩ (.int .i64 er)) := (((Touch.refl _ _).setCell _ (by simp)).setCell _ (by simp)).setCell _ (by simp)
      have m6 := (T6.block g1 (heap_lt m5) (by simpa using h51.symm)).trans m5
      have s6 := s5.kept T6 (by simpa using h5p.symm)
      have e1 : Touch [g1] (((W5.setCell ⟨g5, 0, none⟩ (.int .i64 n)).setCell ⟨g5, 1, none⟩ (.int .i64 ph')).setCell ⟨g5, 2, none⟩ (.int .i64 er)) ((((((W5.setCell ⟨g5, 0, none⟩ (.int .i64 n)).setCell ⟨g5, 1, none⟩ (.int .i64 ph')).setCell ⟨g5, 2, none⟩ (.int .i64 er)).setCell ⟨g1, 0, none⟩ (.int .i64 n)).setCell ⟨g1, 1, none⟩ (.int .i64 ph')).setCell ⟨g1, 2, none⟩ (.int .i64 er)) := (((Touch.refl _ _).setCell _ (by simp)).setCell _ (by simp)).setCell _ (by simp)
      have e2 := s6.kept e1 (by simpa using hp1)
      have e3 := e2.set0 ph'
      have e4 := set3 m6 (.int .i64 n) (.int .i64 ph') (.int .i64 er)
      have e5 := (e3.2.block g1 (heap_lt e4) (by simpa using hp1.symm)).trans e4
      have E := Lib.hid (And.intro e3.1 (And.intro e5 (((T6.mono (S' := [g1, g5, p]) (by simp)).trans e1 (by simp)).trans e3.2 (by simp))))
      clear s5 m5 n5 T6 m6 s6 e1 e2 e3 e4 e5
      go_wp2_with fail
      clear ll v0 v1 v2 x0 x1 x2 y0 y1 y2 z0 z1 z2 q0 qc
      generalize ((((((W5.setCell ⟨g5, 0, none⟩ (.int .i64 n)).setCell ⟨g5, 1, none⟩ (.int .i64 ph')).setCell ⟨g5, 2, none⟩ (.int .i64 er)).setCell ⟨g1, 0, none⟩ (.int .i64 n)).setCell ⟨g1, 1, none⟩ (.int .i64 ph')).setCell ⟨g1, 2, none⟩ (.int .i64 er)).setCell ⟨p, 0, none⟩ (.int .i64 ph') = Wf at *
      have u0 : Wf.cell? ⟨g1, 0, none⟩ = some (.int .i64 n) := by rw [cell_of E.out.2.1]; rfl
      have u2 : Wf.cell? ⟨g1, 2, none⟩ = some (.int .i64 er) := by rw [cell_of E.out.2.1]; rfl
      go_quiet (fail)
      go_wp2
      go_ret2
      exact ⟨rfl, E.out.1, ((((H.out.2.2.2.1.trans HA.out.2.1 (by simp)).trans M.out.2.2.2.1 (by simp)).mono (S' := [p]) (by simp)).trans E.out.2.2 (by have := HG1.out; have := HG5.out; simp; omega)).drewN nq⟩
end Go.Proofs.Ythommlfigdjehaa
