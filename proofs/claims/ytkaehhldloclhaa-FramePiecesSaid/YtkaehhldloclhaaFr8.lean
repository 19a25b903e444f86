/- frame: the next message waits, or is whole. -/
import Derived.Test.YtkaehhldloclhaaFr5
namespace Go.Proofs.Ytkaehhldloclhaa
open Go Go.RowKit

/-- What is read and written when a message is whole. -/
theorem NW.msgF {w W : World} {p g o n cp : Nat} {L : Nat × Nat} {M : FM} (h : NW w W p g o n cp M L) (k : Value) (s : Value) (v : Value) (b : Value) (k' : Value) (s' : Value) (W10 W11 W12 W13 W14 : World)
    (h10 : W10 = W.alloc (.cells #[k, s] 23)) (h11 : W11 = W10.setCell ⟨p, 0, none⟩ v) (h12 : W12 = W11.setCell ⟨p, 1, none⟩ b) (h13 : W13 = W12.setCell ⟨w.heap.size, 0, none⟩ k') (h14 : W14 = W13.setCell ⟨w.heap.size, 1, none⟩ s') :
    (W10.cell? ⟨p, 0, none⟩ = some (.slice (some ⟨g, o, none⟩) n cp) ∧ W10.cell? ⟨p, 1, none⟩ = some (.bool M.first) ∧ W10.cell? ⟨g, o, none⟩ = some (.int .u8 (kindF M.left false).toNat) ∧ W10.frozen? ⟨p, 0, none⟩ = false) ∧
    (W11.cell? ⟨p, 1, none⟩ = some (.bool M.first) ∧ W11.frozen? ⟨p, 1, none⟩ = false) ∧
    (W12.cell? ⟨W.heap.size, 0, none⟩ = some k ∧ W12.cell? ⟨W.heap.size, 1, none⟩ = some s ∧ W12.cell? ⟨w.heap.size, 0, none⟩ = some (.int .u8 0) ∧ W12.frozen? ⟨w.heap.size, 0, none⟩ = false) ∧
    (W13.cell? ⟨w.heap.size, 1, none⟩ = some (.string ⟨#[]⟩) ∧ W13.frozen? ⟨w.heap.size, 1, none⟩ = false) ∧
    (W14.cell? ⟨w.heap.size, 0, none⟩ = some k' ∧ W14.cell? ⟨w.heap.size, 1, none⟩ = some s') ∧
    W14.heap[p]? = some (.cells #[v, b, .int .i64 M.e, .bool true] 47 (0, 0)) ∧ (∀ i, i < w.heap.size → i ≠ p → W14.heap[i]? = w.heap[i]?) ∧ Touch [p] w W14 := by
  subst h10
  subst h11
  subst h12
  subst h13
  subst h14
  have hp := h.p
  have hgl := h.gl
  have hW := h.t.size
  have hwW : w.heap.size < W.heap.size := heap_lt h.b
  have N := h.next ((Touch.refl _ _).alloc (.cells #[k, s] 23))
  have hnew : (W.alloc (.cells #[k, s] 23)).heap[W.heap.size]? = some (.cells #[k, s] 23 (0, 0)) := heap_alloc_new W _
  obtain ⟨c0, c1, _, c3, _⟩ := N.facts
  generalize W.alloc (.cells #[k, s] 23) = X at *
  have b1 := block_set (i := 0) N.r.blk v
  have b2 := block_set (i := 1) b1 b
  have m2 := (cell_other (i := 1) (v := b) (w := X.setCell ⟨p, 0, none⟩ v) (show W.heap.size ≠ p by omega)).trans ((cell_other (i := 0) (v := v) (show W.heap.size ≠ p by omega)).trans hnew)
  have r2 := (cell_other (i := 1) (v := b) (w := X.setCell ⟨p, 0, none⟩ v) (show w.heap.size ≠ p by omega)).trans ((cell_other (i := 0) (v := v) (show w.heap.size ≠ p by omega)).trans N.b)
  have tt : Touch [p] w (((X.setCell ⟨p, 0, none⟩ v).setCell ⟨p, 1, none⟩ b).setCell ⟨w.heap.size, 0, none⟩ k' |>.setCell ⟨w.heap.size, 1, none⟩ s') :=
    ((((N.t.mono (by simp)).setCell (a := ⟨p, 0, none⟩) v (.inl (by simp))).setCell (a := ⟨p, 1, none⟩) b (.inl (by simp))).setCell (a := ⟨w.heap.size, 0, none⟩) k' (.inr (Nat.le_refl _))).setCell (a := ⟨w.heap.size, 1, none⟩) s' (.inr (Nat.le_refl _))
  have e2 := (cell_other (i := 1) (v := s') (w := ((X.setCell ⟨p, 0, none⟩ v).setCell ⟨p, 1, none⟩ b).setCell ⟨w.heap.size, 0, none⟩ k') (show p ≠ w.heap.size by omega)).trans ((cell_other (i := 0) (v := k') (w := (X.setCell ⟨p, 0, none⟩ v).setCell ⟨p, 1, none⟩ b) (show p ≠ w.heap.size by omega)).trans b2)
  generalize hX : (X.setCell ⟨p, 0, none⟩ v).setCell ⟨p, 1, none⟩ b = Y at *
  obtain ⟨a1, a2, a3, a4⟩ := set2 m2
  obtain ⟨y1, y2, y3, y4, y5, y6⟩ := wrote2 r2 k' s'
  refine ⟨⟨c0, c1, c3, frozen_of N.r.blk 0⟩, ⟨(cell_of b1 1).trans rfl, frozen_of b1 1⟩, ⟨a1, a2, y1, y2⟩, ⟨y3, y4⟩, ⟨y5, y6⟩, e2.trans rfl, fun i hi hn => tt.block i hi (by simpa using hn), tt⟩
theorem NW.doneM {w W : World} {p g o n cp : Nat} {L : Nat × Nat} {M : FM} (h : NW w W p g o n cp M L) {k s k' s' : Value} {A' : Option Addr} {n' cp' q : Nat} (hq : q ≤ M.left.size) (hn : n' = n - q) (hA : n' = 0 ∨ A' = some ⟨g, o + q, none⟩) (hc : n' ≤ cp' ∧ cp' ≤ maxLen) :
    RdE (((((W.alloc (.cells #[k, s] 23)).setCell ⟨p, 0, none⟩ (.slice A' n' cp')).setCell ⟨p, 1, none⟩ (.bool false)).setCell ⟨w.heap.size, 0, none⟩ k').setCell ⟨w.heap.size, 1, none⟩ s') p ⟨M.left.extract q M.left.size, false, M.e⟩ L ∧
    Touch [p] w (((((W.alloc (.cells #[k, s] 23)).setCell ⟨p, 0, none⟩ (.slice A' n' cp')).setCell ⟨p, 1, none⟩ (.bool false)).setCell ⟨w.heap.size, 0, none⟩ k').setCell ⟨w.heap.size, 1, none⟩ s') := by
  obtain ⟨_, _, _, _, _, z1, z2, z3⟩ := h.msgF k s (.slice A' n' cp') (.bool false) k' s' _ _ _ _ _ rfl rfl rfl rfl rfl
  generalize (((((W.alloc (.cells #[k, s] 23)).setCell ⟨p, 0, none⟩ (.slice A' n' cp')).setCell ⟨p, 1, none⟩ (.bool false)).setCell ⟨w.heap.size, 0, none⟩ k').setCell ⟨w.heap.size, 1, none⟩ s') = Y at *
  have hty : TyB Y A' n' := by
    rcases hA with h0 | h0
    · exact .inl h0
    · subst h0
      rcases h.r.ty with h1 | h1
      · exact .inl (by omega)
      by_cases hn0 : n = 0
      · exact .inl (by omega)
      obtain ⟨cs, fr, hcs⟩ := h1 _ rfl
      have hfar : g ≠ p := by
        rcases h.r.far with h2 | h2
        · omega
        · exact h2 _ rfl
      refine .inr fun a ha => ⟨cs, fr, ?_⟩
      cases ha
      have hY := z2 g h.gl hfar
      exact hY.trans ((h.t.block g h.gl (by simp)).symm.trans hcs)
  refine ⟨⟨A', n', cp', z1, ?_, hc, ?_, ?_, ?_, h.r.e, hty⟩, z3⟩
  · have hnl := h.r.n_eq
    have hp := h.p
    have hgl := h.gl
    rcases hA with h0 | h0
    · refine ⟨?_, .inl h0⟩
      simp
      omega
    · subst h0
      subst hn
      by_cases h00 : n - q = 0
      · refine ⟨?_, .inl h00⟩
        simp
        omega
      have hgp : g ≠ p := by
        rcases h.r.far with h1 | h1
        · omega
        · exact h1 _ rfl
      have hsub := h.r.row.sub q n (by omega) (Nat.le_refl _)
      rw [hnl] at hsub ⊢
      obtain ⟨i1, i2⟩ := hsub
      refine ⟨i1, ?_⟩
      rcases i2 with h2 | ⟨g', o', he, hg', i2⟩
      · exact .inl h2
      · cases he
        refine .inr ⟨g, o + q, rfl, Nat.lt_of_lt_of_le hgl z3.size, fun j x hj i v hv => ?_⟩
        have e1 := i2 j x hj i v hv
        have e2 : w.heap[g]? = W.heap[g]? := (h.t.block g hgl (by simp)).symm
        have e3 := (z2 g hgl hgp).trans e2
        exact (World.cell?_of_block e3).trans e1
  · rcases hA with h0 | h0
    · exact .inl h0
    · subst h0
      by_cases h00 : n' = 0
      · exact .inl h00
      refine .inr fun a ha => ?_
      cases ha
      rcases h.r.far with h1 | h1
      · omega
      · exact h1 ⟨g, o, none⟩ rfl
  · show (M.left.extract q M.left.size).size ≤ L.1
    rw [ByteArray.size_extract]
    have := h.r.sz
    omega
  · rcases hA with h0 | h0
    · exact .inl h0
    · subst h0
      by_cases h00 : n' = 0
      · exact .inl h00
      refine .inr fun a ha => ?_
      cases ha
      rcases h.r.bl with h1 | h1
      · omega
      · exact h1 ⟨g, o, none⟩ rfl
set_option maxHeartbeats 1000000 in
theorem next_whole0 {w : World} {p : Nat} {L : Nat × Nat} {M : FM} {q : Nat} (h : RdE w p M L) (hs : hd M.first ≤ M.left.size) (hf : M.first = false) (hk : printable (kindF M.left false) = true) (hz : 4 ≤ lenF M.left false) (hz2 : lenF M.left false ≤ 4096) (hq : (q : Int) = 1 + lenF M.left false) (he : M.e = 0) (hlt : q ≤ M.left.size) :
    Calls Try.prog 24 #[.pointer (some ⟨p, 0, none⟩)] w (nextPost w p L (afterN M (.msg ⟨kindF M.left false, M.left.extract 5 q⟩ (M.left.extract q M.left.size)))) := by
  obtain ⟨g, o, n, cp, N⟩ := NW.start h hs
  obtain ⟨l, f, e⟩ := M
  dsimp only at *
  subst hf
  subst he
  have hp := N.p
  have hgp : w.heap.size ≠ p := by omega
  have hn : (5 : Int) ≤ n := by have := N.h; simp [hd] at this; omega
  have hcp : (5 : Int) ≤ cp := by have := N.r.le; omega
  have hnl : n = l.size := N.r.n_eq
  have hle := N.r.le
  have hmx : maxLen = 9223372036854775807 := rfl
  have F : ∀ W, NW w W p g o n cp ⟨l, false, 0⟩ L → W.cell? ⟨p, 0, none⟩ = some (.slice (some ⟨g, o, none⟩) n cp) ∧ W.cell? ⟨p, 1, none⟩ = some (.bool false) ∧ W.cell? ⟨p, 2, none⟩ = some (.int .i64 0) ∧
    W.cell? ⟨g, o, none⟩ = some (.int .u8 (kindF l false).toNat) ∧ (convert 45 9 (.slice (some ⟨g, o, none⟩) 5 cp)).run Try.prog W = .ok (.string (l.extract 0 5)) W := fun W N => N.facts
  obtain ⟨c0, c1, c2, c3, c4⟩ := F _ N
  have HH : ∀ W, NW w W p g o n cp ⟨l, false, 0⟩ L → Calls Try.prog 27 #[.pointer (some ⟨p, 0, none⟩)] W fun e w' => e = .returned (.int .i64 5) ∧ W = w' := fun W N => head_f N
  have HG : ∀ W, Calls Try.prog 28 #[.string (l.extract 0 5), .int .i64 1] W fun e w' => e = .returned (.tuple #[.int .i64 (lenF l false), .int .i64 5, .int .i64 0]) ∧ Touch [] W w' := fun W => get_f N W
  have HP := printable_any (kindF l false)
  rw [hk] at HP
  have HP := Lib.hid HP
  clear hk
  have hw : wrap64 (1 + lenF l false) = (q : Int) := by unfold wrap64; omega
  have hzq : 1 + lenF l false = (q : Int) := by omega
  have hq1 : (q : Int) ≤ n := by omega
  have hq2 : (q : Int) ≤ cp := by omega
  have hq3 : (5 : Int) ≤ q := by omega
  have hq4 : (0 : Int) ≤ q := by omega
  have hq5 : (n : Int) ≤ cp := by omega
  have HW : Hid (∀ W, NW w W p g o n cp ⟨l, false, 0⟩ L → (convert 45 9 (.slice (some ⟨g, o + 5, none⟩) (q - 5) (q - 5))).run Try.prog W = .ok (.string (l.extract 5 q)) W) := Lib.hid (fun W N => conv_row (N.r.row.sub 5 q (by omega) (by omega)) _)
  have hsz : (l.extract 5 q).size = q - 5 := by rw [ByteArray.size_extract]; omega
  have Hex := Lib.hid (And.intro hlt (And.intro hnl hsz))
  generalize lenF l false = z at *
  have NN := Lib.hid N
  have HH := Lib.hid HH
  have HG := Lib.hid HG
  have F := Lib.hid F
  clear N hs hp hgp h hq hle hmx hnl hlt hsz
  unfold nextPost
  dsimp only [afterN, msgV]
  go_enter Try.func24, Try.ntmps24
  go_wp2_with (first
    | (go_at_call 27; refine (HH.out _ NN.out).mono ?_; rintro e w1 ⟨rfl, rfl⟩)
    | (go_at_call 28; refine (HG.out _).mono ?_; rintro e w2 ⟨rfl, t2⟩; have N2 := NN.out.next t2; clear c0 c1 c2 c3 c4 t2; obtain ⟨d0, d1, d2, d3, _⟩ := F.out _ N2; have d4 := HW.out _ N2; have d5 := conv_zero (P := Try.prog) w2 45 5 Try.underlying45 Try.underlying5 (some ⟨g, o, none⟩) 0 9 Try.underlying9; have MF := fun k s v b k' s' => N2.msgF k s v b k' s' _ _ _ _ _ rfl rfl rfl rfl rfl; have m1 := fun k s => (MF k s k k k k).1; have m2 := fun k s v => (MF k s v k k k).2.1; have m3 := fun k s v b => (MF k s v b k k).2.2.1; have m4 := fun k s v b k' => (MF k s v b k' k).2.2.2.1; have m5 := fun k s v b k' s' => (MF k s v b k' s').2.2.2.2.1; have MH := Lib.hid MF; clear MF; have N3 := Lib.hid N2; clear N2)
    | (go_at_call 20; refine (HP.out _).mono ?_; rintro e w3 ⟨rfl, rfl⟩))
  all_goals
    obtain ⟨x1, x2, x3⟩ := Hex.out
    have mx : maxLen = 9223372036854775807 := rfl
    have le := N3.out.r.le
    exact bodyPost_ret (v := _) (by simp [results, Try.results24, go_sem, m5] <;> rfl) rfl ⟨rfl, N3.out.doneM (by show _ ≤ l.size; omega) (by omega) (by first | exact .inr rfl | (left; omega)) (by omega)⟩
set_option maxHeartbeats 1000000 in
theorem next_whole1 {w : World} {p : Nat} {L : Nat × Nat} {M : FM} {q : Nat} (h : RdE w p M L) (hs : hd M.first ≤ M.left.size) (hf : M.first = true) (hz : 4 ≤ lenF M.left true) (hz2 : lenF M.left true ≤ 4096) (hq : (q : Int) = 0 + lenF M.left true) (he : M.e = 0) (hlt : q ≤ M.left.size) :
    Calls Try.prog 24 #[.pointer (some ⟨p, 0, none⟩)] w (nextPost w p L (afterN M (.msg ⟨kindF M.left true, M.left.extract 4 q⟩ (M.left.extract q M.left.size)))) := by
  obtain ⟨g, o, n, cp, N⟩ := NW.start h hs
  obtain ⟨l, f, e⟩ := M
  dsimp only at *
  subst hf
  subst he
  have hp := N.p
  have hgp : w.heap.size ≠ p := by omega
  have hn : (4 : Int) ≤ n := by have := N.h; simp [hd] at this; omega
  have hcp : (4 : Int) ≤ cp := by have := N.r.le; omega
  have hnl : n = l.size := N.r.n_eq
  have hle := N.r.le
  have hmx : maxLen = 9223372036854775807 := rfl
  have F : ∀ W, NW w W p g o n cp ⟨l, true, 0⟩ L → W.cell? ⟨p, 0, none⟩ = some (.slice (some ⟨g, o, none⟩) n cp) ∧ W.cell? ⟨p, 1, none⟩ = some (.bool true) ∧ W.cell? ⟨p, 2, none⟩ = some (.int .i64 0) ∧
    W.cell? ⟨g, o, none⟩ = some (.int .u8 (kindF l false).toNat) ∧ (convert 45 9 (.slice (some ⟨g, o, none⟩) 4 cp)).run Try.prog W = .ok (.string (l.extract 0 4)) W := fun W N => N.facts
  obtain ⟨c0, c1, c2, c3, c4⟩ := F _ N
  have HH : ∀ W, NW w W p g o n cp ⟨l, true, 0⟩ L → Calls Try.prog 27 #[.pointer (some ⟨p, 0, none⟩)] W fun e w' => e = .returned (.int .i64 4) ∧ W = w' := fun W N => head_f N
  have HG : ∀ W, Calls Try.prog 28 #[.string (l.extract 0 4), .int .i64 0] W fun e w' => e = .returned (.tuple #[.int .i64 (lenF l true), .int .i64 4, .int .i64 0]) ∧ Touch [] W w' := fun W => get_f N W
  have hw : wrap64 (lenF l true) = (q : Int) := by unfold wrap64; omega
  have hzq : lenF l true = (q : Int) := by omega
  have hq1 : (q : Int) ≤ n := by omega
  have hq2 : (q : Int) ≤ cp := by omega
  have hq3 : (4 : Int) ≤ q := by omega
  have hq4 : (0 : Int) ≤ q := by omega
  have hq5 : (n : Int) ≤ cp := by omega
  have HW : Hid (∀ W, NW w W p g o n cp ⟨l, true, 0⟩ L → (convert 45 9 (.slice (some ⟨g, o + 4, none⟩) (q - 4) (q - 4))).run Try.prog W = .ok (.string (l.extract 4 q)) W) := Lib.hid (fun W N => conv_row (N.r.row.sub 4 q (by omega) (by omega)) _)
  have hsz : (l.extract 4 q).size = q - 4 := by rw [ByteArray.size_extract]; omega
  have Hex := Lib.hid (And.intro hlt (And.intro hnl hsz))
  generalize lenF l true = z at *
  have NN := Lib.hid N
  have HH := Lib.hid HH
  have HG := Lib.hid HG
  have F := Lib.hid F
  clear N hs hp hgp h hq hle hmx hnl hlt hsz
  unfold nextPost
  dsimp only [afterN, msgV]
  go_enter Try.func24, Try.ntmps24
  go_wp2_with (first
    | (go_at_call 27; refine (HH.out _ NN.out).mono ?_; rintro e w1 ⟨rfl, rfl⟩)
    | (go_at_call 28; refine (HG.out _).mono ?_; rintro e w2 ⟨rfl, t2⟩; have N2 := NN.out.next t2; clear c0 c1 c2 c3 c4 t2; obtain ⟨d0, d1, d2, d3, _⟩ := F.out _ N2; have d4 := HW.out _ N2; have d5 := conv_zero (P := Try.prog) w2 45 5 Try.underlying45 Try.underlying5 (some ⟨g, o, none⟩) 0 9 Try.underlying9; have MF := fun k s v b k' s' => N2.msgF k s v b k' s' _ _ _ _ _ rfl rfl rfl rfl rfl; have m1 := fun k s => (MF k s k k k k).1; have m2 := fun k s v => (MF k s v k k k).2.1; have m3 := fun k s v b => (MF k s v b k k).2.2.1; have m4 := fun k s v b k' => (MF k s v b k' k).2.2.2.1; have m5 := fun k s v b k' s' => (MF k s v b k' s').2.2.2.2.1; have MH := Lib.hid MF; clear MF; have N3 := Lib.hid N2; clear N2))
  all_goals
    obtain ⟨x1, x2, x3⟩ := Hex.out
    have mx : maxLen = 9223372036854775807 := rfl
    have le := N3.out.r.le
    exact bodyPost_ret (v := _) (by simp [results, Try.results24, go_sem, m5] <;> rfl) rfl ⟨rfl, N3.out.doneM (by show _ ≤ l.size; omega) (by omega) (by first | exact .inr rfl | (left; omega)) (by omega)⟩
end Go.Proofs.Ytkaehhldloclhaa
