/- frame: the next message waits, or is whole. -/
import Derived.Test.YtkaehhldloclhaaFr5
namespace Go.Proofs.Ytkaehhldloclhaa
open Go Go.RowKit

set_option maxHeartbeats 1000000 in
theorem next_wait0 {w : World} {p : Nat} {L : Nat × Nat} {M : FM} {q : Nat} (h : RdE w p M L) (hs : hd M.first ≤ M.left.size) (hf : M.first = false) (hk : printable (kindF M.left false) = true) (hz : 4 ≤ lenF M.left false) (hz2 : lenF M.left false ≤ 4096) (hq : (q : Int) = 1 + lenF M.left false) (he : M.e = 0) (hlt : M.left.size < q) :
    Calls Try.prog 24 #[.pointer (some ⟨p, 0, none⟩)] w (nextPost w p L (afterN M (.wait))) := by
  obtain ⟨g, o, n, cp, N⟩ := NW.start h hs
  obtain ⟨l, f, e⟩ := M
  dsimp only at *
  subst hf
  subst he
  have hp := N.p
  have hgp : w.heap.size ≠ p := by omega
  have hn : (5 : Int) ≤ n := by have := N.h; simp [hd] at this; omega
  have hcp : (5 : Int) ≤ cp := by have := N.r.le; omega
  have hnl : n = l.size := N.r.n_eq
  have hle := N.r.le
  have hmx : maxLen = 9223372036854775807 := rfl
  have F : ∀ W, NW w W p g o n cp ⟨l, false, 0⟩ L → W.cell? ⟨p, 0, none⟩ = some (.slice (some ⟨g, o, none⟩) n cp) ∧ W.cell? ⟨p, 1, none⟩ = some (.bool false) ∧ W.cell? ⟨p, 2, none⟩ = some (.int .i64 0) ∧
    W.cell? ⟨g, o, none⟩ = some (.int .u8 (kindF l false).toNat) ∧ (convert 45 9 (.slice (some ⟨g, o, none⟩) 5 cp)).run Try.prog W = .ok (.string (l.extract 0 5)) W := fun W N => N.facts
  obtain ⟨c0, c1, c2, c3, c4⟩ := F _ N
  have HH : ∀ W, NW w W p g o n cp ⟨l, false, 0⟩ L → Calls Try.prog 27 #[.pointer (some ⟨p, 0, none⟩)] W fun e w' => e = .returned (.int .i64 5) ∧ W = w' := fun W N => head_f N
  have HG : ∀ W, Calls Try.prog 28 #[.string (l.extract 0 5), .int .i64 1] W fun e w' => e = .returned (.tuple #[.int .i64 (lenF l false), .int .i64 5, .int .i64 0]) ∧ Touch [] W w' := fun W => get_f N W
  have HP := printable_any (kindF l false)
  rw [hk] at HP
  have HP := Lib.hid HP
  clear hk
  have hw : wrap64 (1 + lenF l false) = (q : Int) := by unfold wrap64; omega
  have hzq : 1 + lenF l false = (q : Int) := by omega
  have hq1 : (n : Int) < q := by omega
  generalize lenF l false = z at *
  generalize kindF l false = c at *
  have NN := Lib.hid N
  have HH := Lib.hid HH
  have HG := Lib.hid HG
  have F := Lib.hid F
  clear N hs hp hgp h hq hle hmx hnl hlt
  unfold nextPost
  go_enter Try.func24, Try.ntmps24
  go_wp2_with (first
    | (go_at_call 27; refine (HH.out _ NN.out).mono ?_; rintro e w1 ⟨rfl, rfl⟩)
    | (go_at_call 28; refine (HG.out _).mono ?_; rintro e w2 ⟨rfl, t2⟩; have N2 := NN.out.next t2; clear c0 c1 c2 c3 c4 t2; obtain ⟨d0, d1, d2, d3, _⟩ := F.out _ N2; obtain ⟨y1, y2, y3, y4, y5, y6⟩ := wrote2 N2.b (.int .u8 0) (.string ⟨#[]⟩); have N3 := Lib.hid N2; clear N2)
    | (go_at_call 20; refine (HP.out _).mono ?_; rintro e w3 ⟨rfl, rfl⟩))
  have D := N3.out.doneW (.int .u8 0) (.string ⟨#[]⟩)
  exact bodyPost_ret (v := .tuple #[msgV ⟨0, ByteArray.empty⟩, .bool false]) (by simp [results, Try.results24, go_sem, msgV, y5, y6]; rfl) rfl ⟨rfl, D.1, D.2⟩
set_option maxHeartbeats 1000000 in
theorem next_wait1 {w : World} {p : Nat} {L : Nat × Nat} {M : FM} {q : Nat} (h : RdE w p M L) (hs : hd M.first ≤ M.left.size) (hf : M.first = true) (hz : 4 ≤ lenF M.left true) (hz2 : lenF M.left true ≤ 4096) (hq : (q : Int) = 0 + lenF M.left true) (he : M.e = 0) (hlt : M.left.size < q) :
    Calls Try.prog 24 #[.pointer (some ⟨p, 0, none⟩)] w (nextPost w p L (afterN M (.wait))) := by
  obtain ⟨g, o, n, cp, N⟩ := NW.start h hs
  obtain ⟨l, f, e⟩ := M
  dsimp only at *
  subst hf
  subst he
  have hp := N.p
  have hgp : w.heap.size ≠ p := by omega
  have hn : (4 : Int) ≤ n := by have := N.h; simp [hd] at this; omega
  have hcp : (4 : Int) ≤ cp := by have := N.r.le; omega
  have hnl : n = l.size := N.r.n_eq
  have hle := N.r.le
  have hmx : maxLen = 9223372036854775807 := rfl
  have F : ∀ W, NW w W p g o n cp ⟨l, true, 0⟩ L → W.cell? ⟨p, 0, none⟩ = some (.slice (some ⟨g, o, none⟩) n cp) ∧ W.cell? ⟨p, 1, none⟩ = some (.bool true) ∧ W.cell? ⟨p, 2, none⟩ = some (.int .i64 0) ∧
    W.cell? ⟨g, o, none⟩ = some (.int .u8 (kindF l false).toNat) ∧ (convert 45 9 (.slice (some ⟨g, o, none⟩) 4 cp)).run Try.prog W = .ok (.string (l.extract 0 4)) W := fun W N => N.facts
  obtain ⟨c0, c1, c2, c3, c4⟩ := F _ N
  have HH : ∀ W, NW w W p g o n cp ⟨l, true, 0⟩ L → Calls Try.prog 27 #[.pointer (some ⟨p, 0, none⟩)] W fun e w' => e = .returned (.int .i64 4) ∧ W = w' := fun W N => head_f N
  have HG : ∀ W, Calls Try.prog 28 #[.string (l.extract 0 4), .int .i64 0] W fun e w' => e = .returned (.tuple #[.int .i64 (lenF l true), .int .i64 4, .int .i64 0]) ∧ Touch [] W w' := fun W => get_f N W
  have hw : wrap64 (lenF l true) = (q : Int) := by unfold wrap64; omega
  have hzq : lenF l true = (q : Int) := by omega
  have hq1 : (n : Int) < q := by omega
  generalize lenF l true = z at *
  generalize kindF l false = c at *
  have NN := Lib.hid N
  have HH := Lib.hid HH
  have HG := Lib.hid HG
  have F := Lib.hid F
  clear N hs hp hgp h hq hle hmx hnl hlt
  unfold nextPost
  go_enter Try.func24, Try.ntmps24
  go_wp2_with (first
    | (go_at_call 27; refine (HH.out _ NN.out).mono ?_; rintro e w1 ⟨rfl, rfl⟩)
    | (go_at_call 28; refine (HG.out _).mono ?_; rintro e w2 ⟨rfl, t2⟩; have N2 := NN.out.next t2; clear c0 c1 c2 c3 c4 t2; obtain ⟨d0, d1, d2, d3, _⟩ := F.out _ N2; obtain ⟨y1, y2, y3, y4, y5, y6⟩ := wrote2 N2.b (.int .u8 0) (.string ⟨#[]⟩); have N3 := Lib.hid N2; clear N2))
  have D := N3.out.doneW (.int .u8 0) (.string ⟨#[]⟩)
  exact bodyPost_ret (v := .tuple #[msgV ⟨0, ByteArray.empty⟩, .bool false]) (by simp [results, Try.results24, go_sem, msgV, y5, y6]; rfl) rfl ⟨rfl, D.1, D.2⟩
end Go.Proofs.Ytkaehhldloclhaa
