/- A session's first step. -/
import Derived.Test.YthommlfigdjehaaSe3
import Derived.Deep.DeepCutAuto
import Derived.Deep.CutBlock
namespace Go.Proofs.Ythommlfigdjehaa
open Go Go.RowKit Go.Maps

theorem ask_cells {w : World} {g : Nat} {a : AskT} (h : w.heap[g]? = some (.cells #[.int .u8 a.kind, .string a.name, .string a.portal, .string a.sql, .slice a.kA a.kn a.kc, .slice a.vA a.vn a.vc, .slice a.aA a.an a.ac, .slice a.nA a.nn a.nc, .slice a.fA a.fn a.fc, .int .i64 a.most, .int .u8 a.what, .bool a.cancel, .int .i64 a.pid, .int .i64 a.secret] 30 (0, 0))) :
    w.cell? ⟨g, 0, none⟩ = some (.int .u8 a.kind) ∧ w.cell? ⟨g, 1, none⟩ = some (.string a.name) ∧ w.cell? ⟨g, 2, none⟩ = some (.string a.portal) ∧ w.cell? ⟨g, 3, none⟩ = some (.string a.sql) ∧ w.cell? ⟨g, 4, none⟩ = some (.slice a.kA a.kn a.kc) ∧ w.cell? ⟨g, 5, none⟩ = some (.slice a.vA a.vn a.vc) ∧ w.cell? ⟨g, 6, none⟩ = some (.slice a.aA a.an a.ac) ∧ w.cell? ⟨g, 7, none⟩ = some (.slice a.nA a.nn a.nc) ∧ w.cell? ⟨g, 8, none⟩ = some (.slice a.fA a.fn a.fc) ∧ w.cell? ⟨g, 9, none⟩ = some (.int .i64 a.most) ∧ w.cell? ⟨g, 10, none⟩ = some (.int .u8 a.what) ∧ w.cell? ⟨g, 11, none⟩ = some (.bool a.cancel) ∧ w.cell? ⟨g, 12, none⟩ = some (.int .i64 a.pid) ∧ w.cell? ⟨g, 13, none⟩ = some (.int .i64 a.secret) := by
  refine ⟨?_, ?_, ?_, ?_, ?_, ?_, ?_, ?_, ?_, ?_, ?_, ?_, ?_, ?_⟩
  all_goals (rw [cell_of h]; rfl)
theorem GoodA.with {w : World} {a : AskT} (h : GoodA w a) (b : Bool) : GoodA w { a with cancel := b } := ⟨h.kind, h.keys, h.vals, h.few⟩
set_option maxHeartbeats 1000000 in
theorem begin_any {w : World} {p : Nat} {u d : ByteArray} {a : AskT} (h : SS w p 1 u d) (g : GoodA w a) {n er ph' : Int} {u' d' : ByteArray} (hf : firstF u d a.kind a.cancel a.keys a.vals = (n, er, ph', u', d')) :
    Calls Try.prog 25 #[.pointer (some ⟨p, 0, none⟩), .agg #[.int .u8 a.kind, .string a.name, .string a.portal, .string a.sql, .slice a.kA a.kn a.kc, .slice a.vA a.vn a.vc, .slice a.aA a.an a.ac, .slice a.nA a.nn a.nc, .slice a.fA a.fn a.fc, .int .i64 a.most, .int .u8 a.what, .bool a.cancel, .int .i64 a.pid, .int .i64 a.secret]] w fun e w' => e = .returned (.agg #[.int .i64 n, .int .i64 ph', .int .i64 er]) ∧ SS w' p 1 u' d' ∧ Touch [p] w w' := by
  have hp := heap_lt h
  have t0 : Touch [] w ((w.alloc (.cells #[.int .u8 a.kind, .string a.name, .string a.portal, .string a.sql, .slice a.kA a.kn a.kc, .slice a.vA a.vn a.vc, .slice a.aA a.an a.ac, .slice a.nA a.nn a.nc, .slice a.fA a.fn a.fc, .int .i64 a.most, .int .u8 a.what, .bool a.cancel, .int .i64 a.pid, .int .i64 a.secret] 30)).alloc (.cells #[.int .i64 0, .int .i64 0, .int .i64 0] 52)) := ((Touch.refl _ _).alloc _).alloc _
  have b0 : ((w.alloc (.cells #[.int .u8 a.kind, .string a.name, .string a.portal, .string a.sql, .slice a.kA a.kn a.kc, .slice a.vA a.vn a.vc, .slice a.aA a.an a.ac, .slice a.nA a.nn a.nc, .slice a.fA a.fn a.fc, .int .i64 a.most, .int .u8 a.what, .bool a.cancel, .int .i64 a.pid, .int .i64 a.secret] 30)).alloc (.cells #[.int .i64 0, .int .i64 0, .int .i64 0] 52)).heap[w.heap.size]? = some (.cells #[.int .u8 a.kind, .string a.name, .string a.portal, .string a.sql, .slice a.kA a.kn a.kc, .slice a.vA a.vn a.vc, .slice a.aA a.an a.ac, .slice a.nA a.nn a.nc, .slice a.fA a.fn a.fc, .int .i64 a.most, .int .u8 a.what, .bool a.cancel, .int .i64 a.pid, .int .i64 a.secret] 30 (0, 0)) := (RowKit.Below.heap_alloc _ _ _ (by simp)).trans (heap_alloc_new w _)
  have b1 : ((w.alloc (.cells #[.int .u8 a.kind, .string a.name, .string a.portal, .string a.sql, .slice a.kA a.kn a.kc, .slice a.vA a.vn a.vc, .slice a.aA a.an a.ac, .slice a.nA a.nn a.nc, .slice a.fA a.fn a.fc, .int .i64 a.most, .int .u8 a.what, .bool a.cancel, .int .i64 a.pid, .int .i64 a.secret] 30)).alloc (.cells #[.int .i64 0, .int .i64 0, .int .i64 0] 52)).heap[w.heap.size + 1]? = some (.cells #[.int .i64 0, .int .i64 0, .int .i64 0] 52 (0, 0)) := by
    have := heap_alloc_new (w.alloc (.cells #[.int .u8 a.kind, .string a.name, .string a.portal, .string a.sql, .slice a.kA a.kn a.kc, .slice a.vA a.vn a.vc, .slice a.aA a.an a.ac, .slice a.nA a.nn a.nc, .slice a.fA a.fn a.fc, .int .i64 a.most, .int .u8 a.what, .bool a.cancel, .int .i64 a.pid, .int .i64 a.secret] 30)) (Obj.cells #[.int .i64 0, .int .i64 0, .int .i64 0] 52)
    simpa using this
  have H := Lib.hid (And.intro h (And.intro g (And.intro hf (And.intro t0 (And.intro b0 (And.intro b1 hp))))))
  clear h g hf t0 b0 b1 hp
  go_enter Try.func25, Try.ntmps25
  go_wp2_with fail
  generalize ((w.alloc (.cells #[.int .u8 a.kind, .string a.name, .string a.portal, .string a.sql, .slice a.kA a.kn a.kc, .slice a.vA a.vn a.vc, .slice a.aA a.an a.ac, .slice a.nA a.nn a.nc, .slice a.fA a.fn a.fc, .int .i64 a.most, .int .u8 a.what, .bool a.cancel, .int .i64 a.pid, .int .i64 a.secret] 30)).alloc (.cells #[.int .i64 0, .int .i64 0, .int .i64 0] 52)) = W at *
  obtain ⟨g0, hg0⟩ : ∃ g, g = w.heap.size := ⟨_, rfl⟩
  obtain ⟨g1, hg1⟩ : ∃ g, g = w.heap.size + 1 := ⟨_, rfl⟩
  have hpg : p ≠ g0 ∧ p ≠ g1 := by have := H.out.2.2.2.2.2.2; omega
  have G := Lib.hid (And.intro hg0 hg1)
  rw [← hg1, ← hg0] at H
  rw [← hg1, ← hg0]
  clear hg0 hg1
  refine (val_any (H.out.2.1.kept0 H.out.2.2.2.1) userB).mono ?_
  rintro e w1 ⟨rfl, t1⟩
  have hne0 : p ≠ g0 := hpg.1
  have hne1 : p ≠ g1 := hpg.2
  have h01 : g0 ≠ g1 := by have := G.out; omega
  have t01 := H.out.2.2.2.1.trans t1 (by simp)
  have h1 : SS w1 p 1 u d := H.out.1.kept t01 (by simp)
  have b0 := (t1.block g0 (heap_lt H.out.2.2.2.2.1) (by simp)).trans H.out.2.2.2.2.1
  have b1 := (t1.block g1 (heap_lt H.out.2.2.2.2.2.1) (by simp)).trans H.out.2.2.2.2.2.1
  have k0 : w1.cell? ⟨g0, 0, none⟩ = some (.int .u8 a.kind) := by rw [cell_of b0]; rfl
  have k11 : w1.cell? ⟨g0, 11, none⟩ = some (.bool a.cancel) := by rw [cell_of b0]; rfl
  have m0 : w1.cell? ⟨g1, 0, none⟩ = some (.int .i64 0) := by rw [cell_of b1]; rfl
  have m1 : w1.cell? ⟨g1, 1, none⟩ = some (.int .i64 0) := by rw [cell_of b1]; rfl
  have m2 : w1.cell? ⟨g1, 2, none⟩ = some (.int .i64 0) := by rw [cell_of b1]; rfl
  have f0 := frozen_of b1 0
  have f1 := frozen_of b1 1
  have f2 := frozen_of b1 2
  have hgl : w.heap.size ≤ g1 := by have := G.out; omega
  have hset : ∀ (w' : World) x y z, Touch [p] w w' → Touch [p] w (((w'.setCell ⟨g1, 0, none⟩ x).setCell ⟨g1, 1, none⟩ y).setCell ⟨g1, 2, none⟩ z) := fun w' x y z t => ((t.setCell x (.inr hgl)).setCell y (.inr hgl)).setCell z (.inr hgl)
  have hset2 : ∀ (w' : World) x y z {ph u d}, SS w' p ph u d → SS (((w'.setCell ⟨g1, 0, none⟩ x).setCell ⟨g1, 1, none⟩ y).setCell ⟨g1, 2, none⟩ z) p ph u d := fun w' x y z _ _ _ h => h.kept (S := [g1]) ((((Touch.refl [g1] w').setCell x (by simp)).setCell y (by simp)).setCell z (by simp)) (by simpa using hne1)
  have F := Lib.hid (And.intro h1 (And.intro t01 (And.intro b0 (And.intro hset hset2))))
  have hf := H.out.2.2.1
  clear t01 h1 b0 b1 hset hset2 hgl hpg
  unfold firstF at hf
  by_cases hk : a.kind = 0
  · have hk1 : (a.kind == 0) = true := by simp [hk]
    have hk2 : (a.kind != 0) = false := by simp [hk]
    cases hc : a.cancel
    · by_cases hu : valF a.keys a.vals userB = ⟨#[]⟩
      · rw [if_pos (.inr ⟨hc, hu⟩)] at hf
        simp only [Prod.mk.injEq] at hf
        obtain ⟨rfl, rfl, rfl, rfl, rfl⟩ := hf
        have hu1 : (valF a.keys a.vals userB).toList = [] := by rw [hu, ByteArray.toList_eq]
        rw [hc] at k11
        clear hk hc hu
        go_wp2_with fail
        exact bodyPost_ret (v := .agg #[.int .i64 9, .int .i64 7, .int .i64 4]) (by simp [results, Try.results25, go_sem, m0, m1, m2]) rfl ⟨rfl, F.out.2.2.2.2 _ _ _ _ F.out.1, F.out.2.2.2.1 _ _ _ _ (F.out.2.1.mono (by simp))⟩
      · rw [if_neg (by simp [hk, hu]), if_neg (by simp [hc])] at hf
        simp only [Prod.mk.injEq] at hf
        obtain ⟨rfl, rfl, rfl, rfl, hd'⟩ := hf
        have hu1 : ¬ (valF a.keys a.vals userB).toList = [] := fun hh => hu (by
          rw [ByteArray.toList_eq] at hh
          generalize valF a.keys a.vals userB = z at hh
          obtain ⟨⟨z⟩⟩ := z
          simpa using hh)
        have HD := Lib.hid hd'
        clear hk hu hd' m0 k11 k0 m1 m2 f0 f1 f2
        generalize hus : valF a.keys a.vals userB = us at *
        have HUS := Lib.hid hus
        have hu2 : us.toList.isEmpty = false := by simpa using hu1
        clear hus
        obtain ⟨y0, y1, y2, y3, y4, y5, y6, y7, y8, y9, y10, y11, y12, y13⟩ := ask_cells F.out.2.2.1
        rw [hc] at y11
        clear hc
        go_wp2_with fail
        refine (val_any (a := { a with cancel := false }) (((H.out.2.1.with false).kept0 H.out.2.2.2.1).kept0 t1) dbB).mono ?_
        rintro e w2 ⟨rfl, t2⟩
        clear y0 y1 y2 y3 y4 y5 y6 y7 y8 y9 y10 y11 y12 y13
        dsimp only
        generalize valF a.keys a.vals dbB = ds at *
        have h2 : SS w2 p 1 u d := F.out.1.kept t2 (by simp)
        have f1 := frozen_of h2 1
        have f2 := frozen_of h2 2
        have p1 := h2.c1
        have p2 := h2.c2
        have b1 := (t2.block g1 (by have := heap_lt H.out.2.2.2.2.2.1; have := t1.size; omega) (by simp)).trans ((t1.block g1 (heap_lt H.out.2.2.2.2.2.1) (by simp)).trans H.out.2.2.2.2.2.1)
        have m0 : w2.cell? ⟨g1, 0, none⟩ = some (.int .i64 0) := by rw [cell_of b1]; rfl
        have m1 : w2.cell? ⟨g1, 1, none⟩ = some (.int .i64 0) := by rw [cell_of b1]; rfl
        have m2 : w2.cell? ⟨g1, 2, none⟩ = some (.int .i64 0) := by rw [cell_of b1]; rfl
        have q0 := frozen_of b1 0
        have q1 := frozen_of b1 1
        have q2 := frozen_of b1 2
        have s1 := h2.set1 us
        have s2 := s1.1.set2 ds
        have s3 := s2.1.set2 us
        have T := (F.out.2.1.trans t2 (by simp)).mono (S' := [p]) (by simp)
        have T2 := (T.trans s1.2 (by simp)).trans s2.2 (by simp)
        have R := Lib.hid (And.intro s2.1 (And.intro s3.1 (And.intro T2 (T2.trans s3.2 (by simp)))))
        clear b1 h2 s1 s2 s3 T T2 t2
        by_cases hd : ds = ⟨#[]⟩
        · have hd1 : ds.toList = [] := by rw [hd, ByteArray.toList_eq]
          have HD2 : us = d' := by have := HD.out; rw [if_pos hd] at this; exact this
          subst HD2
          clear hd
          go_wp2_with fail
          exact bodyPost_ret (v := .agg #[.int .i64 1, .int .i64 2, .int .i64 0]) (by simp [results, Try.results25, go_sem, m0, m1, m2]) rfl ⟨rfl, F.out.2.2.2.2 _ _ _ _ (by rw [HUS.out]; exact R.out.2.1), F.out.2.2.2.1 _ _ _ _ R.out.2.2.2⟩
        · have hd1 : ¬ ds.toList = [] := fun hh => hd (by
            rw [ByteArray.toList_eq] at hh
            obtain ⟨⟨z⟩⟩ := ds
            simpa using hh)
          have hd2 : ds.toList.isEmpty = false := by simpa using hd1
          have HD2 : ds = d' := by have := HD.out; rw [if_neg hd] at this; exact this
          subst HD2
          clear hd
          go_wp2_with fail
          exact bodyPost_ret (v := .agg #[.int .i64 1, .int .i64 2, .int .i64 0]) (by simp [results, Try.results25, go_sem, m0, m1, m2]) rfl ⟨rfl, F.out.2.2.2.2 _ _ _ _ (by rw [HUS.out]; exact R.out.1), F.out.2.2.2.1 _ _ _ _ R.out.2.2.1⟩
    · rw [if_neg (by simp [hk, hc]), if_pos hc] at hf
      simp only [Prod.mk.injEq] at hf
      obtain ⟨rfl, rfl, rfl, rfl, rfl⟩ := hf
      rw [hc] at k11
      clear hk hc
      go_wp2_with fail
      exact bodyPost_ret (v := .agg #[.int .i64 8, .int .i64 7, .int .i64 0]) (by simp [results, Try.results25, go_sem, m0, m1, m2]) rfl ⟨rfl, F.out.2.2.2.2 _ _ _ _ F.out.1, F.out.2.2.2.1 _ _ _ _ (F.out.2.1.mono (by simp))⟩
  · rw [if_pos (.inl hk)] at hf
    simp only [Prod.mk.injEq] at hf
    obtain ⟨rfl, rfl, rfl, rfl, rfl⟩ := hf
    have hk1 : (a.kind == 0) = false := by simp [hk]
    have hk2 : (a.kind != 0) = true := by simp [hk]
    clear hk
    go_wp2_with fail
    exact bodyPost_ret (v := .agg #[.int .i64 9, .int .i64 7, .int .i64 4]) (by simp [results, Try.results25, go_sem, m0, m1, m2]) rfl ⟨rfl, F.out.2.2.2.2 _ _ _ _ F.out.1, F.out.2.2.2.1 _ _ _ _ (F.out.2.1.mono (by simp))⟩
end Go.Proofs.Ythommlfigdjehaa
