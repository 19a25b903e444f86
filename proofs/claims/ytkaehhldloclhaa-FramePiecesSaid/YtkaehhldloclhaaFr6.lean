/- frame: the next message is wrong. -/
import Derived.Test.YtkaehhldloclhaaFr5
namespace Go.Proofs.Ytkaehhldloclhaa
open Go Go.RowKit

set_option maxHeartbeats 1000000 in
theorem next_kind {w : World} {p : Nat} {L : Nat × Nat} {M : FM} (h : RdE w p M L) (hs : hd M.first ≤ M.left.size) (hf : M.first = false) (hk : printable (kindF M.left false) = false) :
    Calls Try.prog 24 #[.pointer (some ⟨p, 0, none⟩)] w (nextPost w p L (afterN M (.bad 5))) := by
  obtain ⟨g, o, n, cp, N⟩ := NW.start h hs
  obtain ⟨l, f, e⟩ := M
  dsimp only at *
  subst hf
  have hp := N.p
  have hgp : w.heap.size ≠ p := by omega
  have hn : (5 : Int) ≤ n := by have := N.h; simp [hd] at this; omega
  have hcp : (5 : Int) ≤ cp := by have := N.r.le; omega
  have F : ∀ W, NW w W p g o n cp ⟨l, false, e⟩ L → W.cell? ⟨p, 0, none⟩ = some (.slice (some ⟨g, o, none⟩) n cp) ∧ W.cell? ⟨p, 1, none⟩ = some (.bool false) ∧ W.cell? ⟨p, 2, none⟩ = some (.int .i64 e) ∧
    W.cell? ⟨g, o, none⟩ = some (.int .u8 (kindF l false).toNat) ∧ (convert 45 9 (.slice (some ⟨g, o, none⟩) 5 cp)).run Try.prog W = .ok (.string (l.extract 0 5)) W := fun W N => N.facts
  obtain ⟨c0, c1, c2, c3, c4⟩ := F _ N
  have HH : ∀ W, NW w W p g o n cp ⟨l, false, e⟩ L → Calls Try.prog 27 #[.pointer (some ⟨p, 0, none⟩)] W fun e w' => e = .returned (.int .i64 5) ∧ W = w' := fun W N => head_f N
  have HG : ∀ W, Calls Try.prog 28 #[.string (l.extract 0 5), .int .i64 1] W fun e w' => e = .returned (.tuple #[.int .i64 (lenF l false), .int .i64 5, .int .i64 0]) ∧ Touch [] W w' := fun W => get_f N W
  have hzb := lenF_bound l false
  have HP := printable_any (kindF l false)
  rw [hk] at HP
  have HP := Lib.hid HP
  clear hk
  generalize lenF l false = z at *
  generalize kindF l false = c at *
  have NN := Lib.hid N
  have HH := Lib.hid HH
  have HG := Lib.hid HG
  have F := Lib.hid F
  clear N hs hp hgp h
  unfold nextPost
  go_enter Try.func24, Try.ntmps24
  go_wp2_with (first
    | (go_at_call 27; refine (HH.out _ NN.out).mono ?_; rintro e w1 ⟨rfl, rfl⟩)
    | (go_at_call 28; refine (HG.out _).mono ?_; rintro e w2 ⟨rfl, t2⟩; have N2 := NN.out.next t2; clear c0 c1 c2 c3 c4 t2; obtain ⟨d0, d1, d2, d3, _⟩ := F.out _ N2; obtain ⟨x1, x2, x3, x4⟩ := N2.wrote (.int .i64 5); obtain ⟨y1, y2, y3, y4, y5, y6⟩ := wrote2 x4 (.int .u8 0) (.string ⟨#[]⟩); have N3 := Lib.hid N2; clear N2 x4)
    | (go_at_call 20; refine (HP.out _).mono ?_; rintro e w3 ⟨rfl, rfl⟩))
  have D := N3.out.doneE 5 (by decide) (.int .u8 0) (.string ⟨#[]⟩)
  exact bodyPost_ret (v := .tuple #[msgV ⟨0, ByteArray.empty⟩, .bool false]) (by simp [results, Try.results24, go_sem, msgV, y5, y6]; rfl) rfl ⟨rfl, D.1, D.2⟩
set_option maxHeartbeats 1000000 in
theorem next_form0 {w : World} {p : Nat} {L : Nat × Nat} {M : FM} (h : RdE w p M L) (hs : hd M.first ≤ M.left.size) (hf : M.first = false) (hk : printable (kindF M.left false) = true) (hz : lenF M.left false < 4) :
    Calls Try.prog 24 #[.pointer (some ⟨p, 0, none⟩)] w (nextPost w p L (afterN M (.bad 4))) := by
  obtain ⟨g, o, n, cp, N⟩ := NW.start h hs
  obtain ⟨l, f, e⟩ := M
  dsimp only at *
  subst hf
  have hp := N.p
  have hgp : w.heap.size ≠ p := by omega
  have hn : (5 : Int) ≤ n := by have := N.h; simp [hd] at this; omega
  have hcp : (5 : Int) ≤ cp := by have := N.r.le; omega
  have F : ∀ W, NW w W p g o n cp ⟨l, false, e⟩ L → W.cell? ⟨p, 0, none⟩ = some (.slice (some ⟨g, o, none⟩) n cp) ∧ W.cell? ⟨p, 1, none⟩ = some (.bool false) ∧ W.cell? ⟨p, 2, none⟩ = some (.int .i64 e) ∧
    W.cell? ⟨g, o, none⟩ = some (.int .u8 (kindF l false).toNat) ∧ (convert 45 9 (.slice (some ⟨g, o, none⟩) 5 cp)).run Try.prog W = .ok (.string (l.extract 0 5)) W := fun W N => N.facts
  obtain ⟨c0, c1, c2, c3, c4⟩ := F _ N
  have HH : ∀ W, NW w W p g o n cp ⟨l, false, e⟩ L → Calls Try.prog 27 #[.pointer (some ⟨p, 0, none⟩)] W fun e w' => e = .returned (.int .i64 5) ∧ W = w' := fun W N => head_f N
  have HG : ∀ W, Calls Try.prog 28 #[.string (l.extract 0 5), .int .i64 1] W fun e w' => e = .returned (.tuple #[.int .i64 (lenF l false), .int .i64 5, .int .i64 0]) ∧ Touch [] W w' := fun W => get_f N W
  have hzb := lenF_bound l false
  have HP := printable_any (kindF l false)
  rw [hk] at HP
  have HP := Lib.hid HP
  clear hk
  generalize lenF l false = z at *
  generalize kindF l false = c at *
  have NN := Lib.hid N
  have HH := Lib.hid HH
  have HG := Lib.hid HG
  have F := Lib.hid F
  clear N hs hp hgp h
  unfold nextPost
  go_enter Try.func24, Try.ntmps24
  go_wp2_with (first
    | (go_at_call 27; refine (HH.out _ NN.out).mono ?_; rintro e w1 ⟨rfl, rfl⟩)
    | (go_at_call 28; refine (HG.out _).mono ?_; rintro e w2 ⟨rfl, t2⟩; have N2 := NN.out.next t2; clear c0 c1 c2 c3 c4 t2; obtain ⟨d0, d1, d2, d3, _⟩ := F.out _ N2; obtain ⟨x1, x2, x3, x4⟩ := N2.wrote (.int .i64 4); obtain ⟨y1, y2, y3, y4, y5, y6⟩ := wrote2 x4 (.int .u8 0) (.string ⟨#[]⟩); have N3 := Lib.hid N2; clear N2 x4)
    | (go_at_call 20; refine (HP.out _).mono ?_; rintro e w3 ⟨rfl, rfl⟩))
  have D := N3.out.doneE 4 (by decide) (.int .u8 0) (.string ⟨#[]⟩)
  exact bodyPost_ret (v := .tuple #[msgV ⟨0, ByteArray.empty⟩, .bool false]) (by simp [results, Try.results24, go_sem, msgV, y5, y6]; rfl) rfl ⟨rfl, D.1, D.2⟩
set_option maxHeartbeats 1000000 in
theorem next_form1 {w : World} {p : Nat} {L : Nat × Nat} {M : FM} (h : RdE w p M L) (hs : hd M.first ≤ M.left.size) (hf : M.first = true) (hz : lenF M.left true < 4) :
    Calls Try.prog 24 #[.pointer (some ⟨p, 0, none⟩)] w (nextPost w p L (afterN M (.bad 4))) := by
  obtain ⟨g, o, n, cp, N⟩ := NW.start h hs
  obtain ⟨l, f, e⟩ := M
  dsimp only at *
  subst hf
  have hp := N.p
  have hgp : w.heap.size ≠ p := by omega
  have hn : (4 : Int) ≤ n := by have := N.h; simp [hd] at this; omega
  have hcp : (4 : Int) ≤ cp := by have := N.r.le; omega
  have F : ∀ W, NW w W p g o n cp ⟨l, true, e⟩ L → W.cell? ⟨p, 0, none⟩ = some (.slice (some ⟨g, o, none⟩) n cp) ∧ W.cell? ⟨p, 1, none⟩ = some (.bool true) ∧ W.cell? ⟨p, 2, none⟩ = some (.int .i64 e) ∧
    W.cell? ⟨g, o, none⟩ = some (.int .u8 (kindF l false).toNat) ∧ (convert 45 9 (.slice (some ⟨g, o, none⟩) 4 cp)).run Try.prog W = .ok (.string (l.extract 0 4)) W := fun W N => N.facts
  obtain ⟨c0, c1, c2, c3, c4⟩ := F _ N
  have HH : ∀ W, NW w W p g o n cp ⟨l, true, e⟩ L → Calls Try.prog 27 #[.pointer (some ⟨p, 0, none⟩)] W fun e w' => e = .returned (.int .i64 4) ∧ W = w' := fun W N => head_f N
  have HG : ∀ W, Calls Try.prog 28 #[.string (l.extract 0 4), .int .i64 0] W fun e w' => e = .returned (.tuple #[.int .i64 (lenF l true), .int .i64 4, .int .i64 0]) ∧ Touch [] W w' := fun W => get_f N W
  have hzb := lenF_bound l true
  generalize lenF l true = z at *
  generalize kindF l false = c at *
  have NN := Lib.hid N
  have HH := Lib.hid HH
  have HG := Lib.hid HG
  have F := Lib.hid F
  clear N hs hp hgp h
  unfold nextPost
  go_enter Try.func24, Try.ntmps24
  go_wp2_with (first
    | (go_at_call 27; refine (HH.out _ NN.out).mono ?_; rintro e w1 ⟨rfl, rfl⟩)
    | (go_at_call 28; refine (HG.out _).mono ?_; rintro e w2 ⟨rfl, t2⟩; have N2 := NN.out.next t2; clear c0 c1 c2 c3 c4 t2; obtain ⟨d0, d1, d2, d3, _⟩ := F.out _ N2; obtain ⟨x1, x2, x3, x4⟩ := N2.wrote (.int .i64 4); obtain ⟨y1, y2, y3, y4, y5, y6⟩ := wrote2 x4 (.int .u8 0) (.string ⟨#[]⟩); have N3 := Lib.hid N2; clear N2 x4))
  have D := N3.out.doneE 4 (by decide) (.int .u8 0) (.string ⟨#[]⟩)
  exact bodyPost_ret (v := .tuple #[msgV ⟨0, ByteArray.empty⟩, .bool false]) (by simp [results, Try.results24, go_sem, msgV, y5, y6]; rfl) rfl ⟨rfl, D.1, D.2⟩
set_option maxHeartbeats 1000000 in
theorem next_big0 {w : World} {p : Nat} {L : Nat × Nat} {M : FM} (h : RdE w p M L) (hs : hd M.first ≤ M.left.size) (hf : M.first = false) (hk : printable (kindF M.left false) = true) (hz : 4096 < lenF M.left false) :
    Calls Try.prog 24 #[.pointer (some ⟨p, 0, none⟩)] w (nextPost w p L (afterN M (.bad 2))) := by
  obtain ⟨g, o, n, cp, N⟩ := NW.start h hs
  obtain ⟨l, f, e⟩ := M
  dsimp only at *
  subst hf
  have hp := N.p
  have hgp : w.heap.size ≠ p := by omega
  have hn : (5 : Int) ≤ n := by have := N.h; simp [hd] at this; omega
  have hcp : (5 : Int) ≤ cp := by have := N.r.le; omega
  have F : ∀ W, NW w W p g o n cp ⟨l, false, e⟩ L → W.cell? ⟨p, 0, none⟩ = some (.slice (some ⟨g, o, none⟩) n cp) ∧ W.cell? ⟨p, 1, none⟩ = some (.bool false) ∧ W.cell? ⟨p, 2, none⟩ = some (.int .i64 e) ∧
    W.cell? ⟨g, o, none⟩ = some (.int .u8 (kindF l false).toNat) ∧ (convert 45 9 (.slice (some ⟨g, o, none⟩) 5 cp)).run Try.prog W = .ok (.string (l.extract 0 5)) W := fun W N => N.facts
  obtain ⟨c0, c1, c2, c3, c4⟩ := F _ N
  have HH : ∀ W, NW w W p g o n cp ⟨l, false, e⟩ L → Calls Try.prog 27 #[.pointer (some ⟨p, 0, none⟩)] W fun e w' => e = .returned (.int .i64 5) ∧ W = w' := fun W N => head_f N
  have HG : ∀ W, Calls Try.prog 28 #[.string (l.extract 0 5), .int .i64 1] W fun e w' => e = .returned (.tuple #[.int .i64 (lenF l false), .int .i64 5, .int .i64 0]) ∧ Touch [] W w' := fun W => get_f N W
  have hzb := lenF_bound l false
  have HP := printable_any (kindF l false)
  rw [hk] at HP
  have HP := Lib.hid HP
  clear hk
  generalize lenF l false = z at *
  generalize kindF l false = c at *
  have NN := Lib.hid N
  have HH := Lib.hid HH
  have HG := Lib.hid HG
  have F := Lib.hid F
  clear N hs hp hgp h
  unfold nextPost
  go_enter Try.func24, Try.ntmps24
  go_wp2_with (first
    | (go_at_call 27; refine (HH.out _ NN.out).mono ?_; rintro e w1 ⟨rfl, rfl⟩)
    | (go_at_call 28; refine (HG.out _).mono ?_; rintro e w2 ⟨rfl, t2⟩; have N2 := NN.out.next t2; clear c0 c1 c2 c3 c4 t2; obtain ⟨d0, d1, d2, d3, _⟩ := F.out _ N2; obtain ⟨x1, x2, x3, x4⟩ := N2.wrote (.int .i64 2); obtain ⟨y1, y2, y3, y4, y5, y6⟩ := wrote2 x4 (.int .u8 0) (.string ⟨#[]⟩); have N3 := Lib.hid N2; clear N2 x4)
    | (go_at_call 20; refine (HP.out _).mono ?_; rintro e w3 ⟨rfl, rfl⟩))
  have D := N3.out.doneE 2 (by decide) (.int .u8 0) (.string ⟨#[]⟩)
  exact bodyPost_ret (v := .tuple #[msgV ⟨0, ByteArray.empty⟩, .bool false]) (by simp [results, Try.results24, go_sem, msgV, y5, y6]; rfl) rfl ⟨rfl, D.1, D.2⟩
set_option maxHeartbeats 1000000 in
theorem next_big1 {w : World} {p : Nat} {L : Nat × Nat} {M : FM} (h : RdE w p M L) (hs : hd M.first ≤ M.left.size) (hf : M.first = true) (hz : 4096 < lenF M.left true) :
    Calls Try.prog 24 #[.pointer (some ⟨p, 0, none⟩)] w (nextPost w p L (afterN M (.bad 2))) := by
  obtain ⟨g, o, n, cp, N⟩ := NW.start h hs
  obtain ⟨l, f, e⟩ := M
  dsimp only at *
  subst hf
  have hp := N.p
  have hgp : w.heap.size ≠ p := by omega
  have hn : (4 : Int) ≤ n := by have := N.h; simp [hd] at this; omega
  have hcp : (4 : Int) ≤ cp := by have := N.r.le; omega
  have F : ∀ W, NW w W p g o n cp ⟨l, true, e⟩ L → W.cell? ⟨p, 0, none⟩ = some (.slice (some ⟨g, o, none⟩) n cp) ∧ W.cell? ⟨p, 1, none⟩ = some (.bool true) ∧ W.cell? ⟨p, 2, none⟩ = some (.int .i64 e) ∧
    W.cell? ⟨g, o, none⟩ = some (.int .u8 (kindF l false).toNat) ∧ (convert 45 9 (.slice (some ⟨g, o, none⟩) 4 cp)).run Try.prog W = .ok (.string (l.extract 0 4)) W := fun W N => N.facts
  obtain ⟨c0, c1, c2, c3, c4⟩ := F _ N
  have HH : ∀ W, NW w W p g o n cp ⟨l, true, e⟩ L → Calls Try.prog 27 #[.pointer (some ⟨p, 0, none⟩)] W fun e w' => e = .returned (.int .i64 4) ∧ W = w' := fun W N => head_f N
  have HG : ∀ W, Calls Try.prog 28 #[.string (l.extract 0 4), .int .i64 0] W fun e w' => e = .returned (.tuple #[.int .i64 (lenF l true), .int .i64 4, .int .i64 0]) ∧ Touch [] W w' := fun W => get_f N W
  have hzb := lenF_bound l true
  generalize lenF l true = z at *
  generalize kindF l false = c at *
  have NN := Lib.hid N
  have HH := Lib.hid HH
  have HG := Lib.hid HG
  have F := Lib.hid F
  clear N hs hp hgp h
  unfold nextPost
  go_enter Try.func24, Try.ntmps24
  go_wp2_with (first
    | (go_at_call 27; refine (HH.out _ NN.out).mono ?_; rintro e w1 ⟨rfl, rfl⟩)
    | (go_at_call 28; refine (HG.out _).mono ?_; rintro e w2 ⟨rfl, t2⟩; have N2 := NN.out.next t2; clear c0 c1 c2 c3 c4 t2; obtain ⟨d0, d1, d2, d3, _⟩ := F.out _ N2; obtain ⟨x1, x2, x3, x4⟩ := N2.wrote (.int .i64 2); obtain ⟨y1, y2, y3, y4, y5, y6⟩ := wrote2 x4 (.int .u8 0) (.string ⟨#[]⟩); have N3 := Lib.hid N2; clear N2 x4))
  have D := N3.out.doneE 2 (by decide) (.int .u8 0) (.string ⟨#[]⟩)
  exact bodyPost_ret (v := .tuple #[msgV ⟨0, ByteArray.empty⟩, .bool false]) (by simp [results, Try.results24, go_sem, msgV, y5, y6]; rfl) rfl ⟨rfl, D.1, D.2⟩
end Go.Proofs.Ytkaehhldloclhaa
