/- gauge: GaugeMerges answers true. -/
import Derived.Test.YtmgcmheiabmajaaGaC
import Derived.Test.YtmgcmheiabmajaaGaArg
namespace Go.Proofs.Ytmgcmheiabmajaa
open Go Go.RowKit Go.Proofs.Ytmgcmheiabmajaa.Pa Go.Proofs.YtmgcmheiabmajaaW.PrintWords Go.Proofs.YtmgcmheiabmajaaW.PrintLast

/-- Four gauges of the call's own, apart. -/
structure Q4 (w0 w : World) (px bx cx py by_ cy pz bz cz po bo co n1 n2 n3 : Nat) (X Y Z O : GS) : Prop where
  x : GA w px bx cx X.L X.t X.s
  y : GA w py by_ cy Y.L Y.t Y.s
  z : GA w pz bz cz Z.L Z.t Z.s
  o : GA w po bo co O.L O.t O.s
  bel : Below w0.heap.size w0 w
  dx : w0.heap.size ≤ px ∧ w0.heap.size ≤ bx ∧ px < n1 ∧ bx < n1
  dy : n1 ≤ py ∧ n1 ≤ by_ ∧ py < n2 ∧ by_ < n2
  dz : n2 ≤ pz ∧ n2 ≤ bz ∧ pz < n3 ∧ bz < n3
  do_ : n3 ≤ po ∧ n3 ≤ bo
section
variable {w0 w w' : World} {px bx cx py by_ cy pz bz cz po bo co n1 n2 n3 : Nat} {X Y Z O X' : GS}
theorem Q4.keep (h : Q4 w0 w px bx cx py by_ cy pz bz cz po bo co n1 n2 n3 X Y Z O) (k : Below w.heap.size w w') : Q4 w0 w' px bx cx py by_ cy pz bz cz po bo co n1 n2 n3 X Y Z O :=
  ⟨h.x.below k, h.y.below k, h.z.below k, h.o.below k, h.bel.trans (k.mono h.bel.size), h.dx, h.dy, h.dz, h.do_⟩
theorem Q4.toX (h : Q4 w0 w px bx cx py by_ cy pz bz cz po bo co n1 n2 n3 X Y Z O) (g : GA w' px bx cx X'.L X'.t X'.s) (k : Touch [px, bx] w w') : Q4 w0 w' px bx cx py by_ cy pz bz cz po bo co n1 n2 n3 X' Y Z O := by
  have d1 := h.dx
  have d2 := h.dy
  have d3 := h.dz
  have d4 := h.do_
  exact ⟨g, h.y.kept k (by simp; omega) (by simp; omega), h.z.kept k (by simp; omega) (by simp; omega), h.o.kept k (by simp; omega) (by simp; omega), h.bel.trans (k.below h.bel.size (fun i hi => by simp at hi; omega)), h.dx, h.dy, h.dz, h.do_⟩
theorem Q4.toY (h : Q4 w0 w px bx cx py by_ cy pz bz cz po bo co n1 n2 n3 X Y Z O) (g : GA w' py by_ cy X'.L X'.t X'.s) (k : Touch [py, by_] w w') : Q4 w0 w' px bx cx py by_ cy pz bz cz po bo co n1 n2 n3 X X' Z O := by
  have d1 := h.dx
  have d2 := h.dy
  have d3 := h.dz
  have d4 := h.do_
  exact ⟨h.x.kept k (by simp; omega) (by simp; omega), g, h.z.kept k (by simp; omega) (by simp; omega), h.o.kept k (by simp; omega) (by simp; omega), h.bel.trans (k.below h.bel.size (fun i hi => by simp at hi; omega)), h.dx, h.dy, h.dz, h.do_⟩
theorem Q4.toZ (h : Q4 w0 w px bx cx py by_ cy pz bz cz po bo co n1 n2 n3 X Y Z O) (g : GA w' pz bz cz X'.L X'.t X'.s) (k : Touch [pz, bz] w w') : Q4 w0 w' px bx cx py by_ cy pz bz cz po bo co n1 n2 n3 X Y X' O := by
  have d1 := h.dx
  have d2 := h.dy
  have d3 := h.dz
  have d4 := h.do_
  exact ⟨h.x.kept k (by simp; omega) (by simp; omega), h.y.kept k (by simp; omega) (by simp; omega), g, h.o.kept k (by simp; omega) (by simp; omega), h.bel.trans (k.below h.bel.size (fun i hi => by simp at hi; omega)), h.dx, h.dy, h.dz, h.do_⟩
theorem Q4.stX (h : Q4 w0 w px bx cx py by_ cy pz bz cz po bo co n1 n2 n3 X Y Z O) : St w0 w px bx cx X.L X.t X.s := ⟨h.x, h.bel, h.dx.1, h.dx.2.1⟩
theorem Q4.stY (h : Q4 w0 w px bx cx py by_ cy pz bz cz po bo co n1 n2 n3 X Y Z O) : St w0 w py by_ cy Y.L Y.t Y.s := ⟨h.y, h.bel, by have := h.dx; have := h.dy; omega, by have := h.dx; have := h.dy; omega⟩
theorem Q4.stZ (h : Q4 w0 w px bx cx py by_ cy pz bz cz po bo co n1 n2 n3 X Y Z O) : St w0 w pz bz cz Z.L Z.t Z.s := ⟨h.z, h.bel, by have := h.dx; have := h.dy; have := h.dz; omega, by have := h.dx; have := h.dy; have := h.dz; omega⟩
end
theorem play_len {B : List Int} (hg : Good B) (l : List Int) (k : Nat) (hk : l.length ≤ k) : Okg B k (playG (startG B) l) := by
  have h := Okg.play l 0 (startG B) (Okg.start hg)
  exact ⟨h.good, h.bs, h.c, by have := h.t; omega, h.s⟩
theorem play_snoc (S : GS) (l : List Int) (x : Int) : playG S (l ++ [x]) = stepG (playG S l) x := by unfold playG; rw [List.foldl_append]; rfl
theorem good_one : Good [1099511627776] := ⟨by decide, by decide, by simp, by decide, by decide⟩
section
variable {w : World} {A0 A1 A2 : Option Addr} {c0 c1 c2 : Nat} {l0 l1 l2 : List Int}
set_option maxRecDepth 100000 in
set_option maxHeartbeats 16000000 in
theorem merges_any (hr0 : Kd.C (Kd.int .i64) w A0 l0.length l0) (hc0 : l0.length ≤ c0) (hr1 : Kd.C (Kd.int .i64) w A1 l1.length l1) (hr2 : Kd.C (Kd.int .i64) w A2 l2.length l2) : Calls Try.prog 4 #[.slice A0 l0.length c0, .slice A1 l1.length c1, .slice A2 l2.length c2] w fun e w' => e = .returned (.bool true) ∧ Below w.heap.size w w' := by
  have H0 := Lib.hid (And.intro hr0 hc0)
  have H1 := Lib.hid hr1
  have H2 := Lib.hid hr2
  clear hr0 hc0 hr1 hr2
  obtain ⟨m, hm⟩ : ∃ m, m = l0.length := ⟨_, rfl⟩
  have HM := Lib.hid hm
  obtain ⟨n, hn⟩ : ∃ n, n = l1.length := ⟨_, rfl⟩
  have HN := Lib.hid hn
  obtain ⟨r, hr⟩ : ∃ r, r = l2.length := ⟨_, rfl⟩
  have HR := Lib.hid hr
  rw [← hm, ← hn, ← hr]
  clear hm hn hr
  go_enter Try.func4, Try.ntmps4
  by_cases hbig : 100 < m
  · have hbi : (100 : Int) < m := by omega
    repeat (first | go_step3 | go_values | go_skip | go_guarded | go_step | go_upon)
    (go_at_call 6; refine (known_any _).mono ?_; rintro e wk ⟨rfl, hBk⟩; have HBK := Lib.hid hBk; clear hBk; dsimp only)
    repeat (first | go_step3 | go_values | go_skip | go_guarded | go_step | go_upon)
    go_ret
    exact ⟨rfl, HBK.out⟩
  have hbi : ¬ (100 : Int) < m := by omega
  by_cases hbig1 : 100 < n
  · have hbi1 : (100 : Int) < n := by omega
    repeat (first | go_step3 | go_values | go_skip | go_guarded | go_step | go_upon)
    (go_at_call 6; refine (known_any _).mono ?_; rintro e wk ⟨rfl, hBk⟩; have HBK := Lib.hid hBk; clear hBk; dsimp only)
    repeat (first | go_step3 | go_values | go_skip | go_guarded | go_step | go_upon)
    go_ret
    exact ⟨rfl, HBK.out⟩
  have hbi1 : ¬ (100 : Int) < n := by omega
  by_cases hbig2 : 100 < r
  · have hbi2 : (100 : Int) < r := by omega
    repeat (first | go_step3 | go_values | go_skip | go_guarded | go_step | go_upon)
    (go_at_call 6; refine (known_any _).mono ?_; rintro e wk ⟨rfl, hBk⟩; have HBK := Lib.hid hBk; clear hBk; dsimp only)
    repeat (first | go_step3 | go_values | go_skip | go_guarded | go_step | go_upon)
    go_ret
    exact ⟨rfl, HBK.out⟩
  have hbi2 : ¬ (100 : Int) < r := by omega
  repeat (first | go_step3 | go_values | go_skip | go_guarded | go_step | go_upon)
  by_cases hg : Good l0
  case neg =>
    have HNEW : Hid (∀ w1, Below w.heap.size w w1 → Calls Try.prog 7 #[.slice A0 m c0] w1 fun e w' => e = .returned (.tuple #[.pointer none, .int .i64 1]) ∧ Below w.heap.size w w') := Lib.hid (fun w1 hb => by
      rw [HM.out]
      exact (new_bad (Kd.C_below H0.out.1 hb) H0.out.2 hg).mono fun _ _ ⟨e, b⟩ => ⟨e, hb.trans (b.mono hb.size)⟩)
    clear hg
    (go_at_call 7; refine (HNEW.out _ (Below.refl _ _)).mono ?_; rintro e w1 ⟨rfl, hB⟩; have HB1 := Lib.hid hB; clear hB; dsimp only)
    repeat (first | go_step3 | go_values | go_skip | go_guarded | go_step | go_upon)
    (go_at_call 7; refine (HNEW.out _ HB1.out).mono ?_; rintro e w2 ⟨rfl, hB⟩; have HB2 := Lib.hid hB; clear hB; dsimp only)
    repeat (first | go_step3 | go_values | go_skip | go_guarded | go_step | go_upon)
    (go_at_call 7; refine (HNEW.out _ HB2.out).mono ?_; rintro e w3 ⟨rfl, hB⟩; have HB3 := Lib.hid hB; clear hB; dsimp only)
    repeat (first | go_step3 | go_values | go_skip | go_guarded | go_step | go_upon)
    (go_at_call 7; refine (new_ok (l := [1099511627776]) (c := 1) (litI w3 [1099511627776] 3 (by decide)) (by decide) good_one).mono ?_; rintro e w4 ⟨p4, b4, cp4, rfl, _, _, _, hB⟩; have hsz : w3.heap.size ≤ (w3.alloc (.cells #[.int .i64 1099511627776] 3)).heap.size := (by simp); have HB4 : Hid (Below w.heap.size w w4) := Lib.hid ((HB3.out.trans (below_alloc (Below.refl _ _) _ |>.mono HB3.out.size)).trans (hB.mono (Nat.le_trans HB3.out.size hsz))); clear hB hsz; dsimp only)
    repeat (first | go_step3 | go_values | go_skip | go_guarded | go_step | go_upon)
    (go_at_call 6; refine (known_any _).mono ?_; rintro e wk ⟨rfl, hBk⟩; have HBK := Lib.hid hBk; clear hBk; dsimp only)
    repeat (first | go_step3 | go_values | go_skip | go_guarded | go_step | go_upon)
    go_ret
    exact ⟨rfl, HB4.out.trans (HBK.out.mono HB4.out.size)⟩
  case pos =>
  have HNEW : Hid (∀ w1, Below w.heap.size w w1 → Calls Try.prog 7 #[.slice A0 m c0] w1 (NewP w1 l0)) := Lib.hid (fun w1 hb => by
    rw [HM.out]
    exact new_ok (Kd.C_below H0.out.1 hb) H0.out.2 hg)
  have HG := Lib.hid hg
  clear hg
  (go_at_call 7; refine (HNEW.out _ (Below.refl _ _)).mono ?_; rintro e w1 ⟨px, bx, cx, rfl, hG1, hp1, hb1, hB⟩; have HB1 := Lib.hid hB; have G1 := Lib.hid hG1; have P1 := Lib.hid (And.intro hp1 hb1); clear hB hG1 hp1 hb1; dsimp only)
  repeat (first | go_step3 | go_values | go_skip | go_guarded | go_step | go_upon)
  (go_at_call 7; refine (HNEW.out _ HB1.out).mono ?_; rintro e w2 ⟨py, by_, cy, rfl, hG2, hp2, hb2, hB⟩; have HB2 := Lib.hid (HB1.out.trans (hB.mono HB1.out.size)); have BB2 := Lib.hid hB; have G2 := Lib.hid hG2; have P2 := Lib.hid (And.intro hp2 hb2); clear hB hG2 hp2 hb2; dsimp only)
  repeat (first | go_step3 | go_values | go_skip | go_guarded | go_step | go_upon)
  (go_at_call 7; refine (HNEW.out _ HB2.out).mono ?_; rintro e w3 ⟨pz, bz, cz, rfl, hG3, hp3, hb3, hB⟩; have HB3 := Lib.hid (HB2.out.trans (hB.mono HB2.out.size)); have BB3 := Lib.hid hB; have G3 := Lib.hid hG3; have P3 := Lib.hid (And.intro hp3 hb3); clear hB hG3 hp3 hb3; dsimp only)
  repeat (first | go_step3 | go_values | go_skip | go_guarded | go_step | go_upon)
  (go_at_call 7; refine (new_ok (l := [1099511627776]) (c := 1) (litI w3 [1099511627776] 3 (by decide)) (by decide) good_one).mono ?_; rintro e w4 ⟨po, bo, co, rfl, hG4, hp4, hb4, hB⟩; have hsz : w3.heap.size ≤ (w3.alloc (.cells #[.int .i64 1099511627776] 3)).heap.size := (by simp); have BB4 : Hid (Below w3.heap.size w3 w4) := Lib.hid ((below_alloc (Below.refl _ _) _).trans (hB.mono hsz)); have G4 := Lib.hid hG4; have P4 := Lib.hid (And.intro (Nat.le_trans hsz hp4) (Nat.le_trans hsz hb4)); clear hB hsz hG4 hp4 hb4; dsimp only)
  have Q0 : Hid (Q4 w w4 px bx cx py by_ cy pz bz cz po bo co w1.heap.size w2.heap.size w3.heap.size (startG l0) (startG l0) (startG l0) (startG [1099511627776])) := Lib.hid (by
    have a2 := G1.out.below BB2.out
    have a3 := a2.below BB3.out
    have a4 := a3.below BB4.out
    have b3 := G2.out.below BB3.out
    have b4 := b3.below BB4.out
    have d4 := G3.out.below BB4.out
    exact ⟨a4, b4, d4, G4.out, HB3.out.trans (BB4.out.mono HB3.out.size), ⟨P1.out.1, P1.out.2, G1.out.lt.1, G1.out.lt.2⟩, ⟨P2.out.1, P2.out.2, G2.out.lt.1, G2.out.lt.2⟩, ⟨P3.out.1, P3.out.2, G3.out.lt.1, G3.out.lt.2⟩, P4.out⟩)
  generalize w1.heap.size = n1 at Q0
  generalize w2.heap.size = n2 at Q0
  generalize w3.heap.size = n3 at Q0
  clear G1 G2 G3 G4 P1 P2 P3 P4 BB2 BB3 BB4 HB1 HB2 HB3
  repeat (first | go_step3 | go_values | go_skip | go_guarded | go_step | go_upon)
  go_loopw [15] (fun i wr => ∃ k : Nat, i = .int .i64 k ∧ k ≤ n ∧ Hid (Q4 w wr px bx cx py by_ cy pz bz cz po bo co n1 n2 n3 (playG (startG l0) (l1.take k)) (startG l0) (startG l0) (startG [1099511627776]))) (fun i _ => n - (intOf i).toNat)
  case atStart => exact ⟨0, rfl, Nat.zero_le _, Q0⟩
  clear Q0
  case round =>
    obtain ⟨k, rfl, hk, HQ⟩ := hrel
    by_cases hlt : k < n
    · have hki : (k : Int) < n := by omega
      have hk0 : (0 : Int) ≤ k := by omega
      have hkn : k < l1.length := by have := HN.out; omega
      obtain ⟨ad2, hA2, cy1⟩ := Kd.at_int (Kd.C_below H1.out HQ.out.bel) (k : Int) hk0 (by omega)
      subst hA2
      rw [rd_at l1 k hkn, Int.toNat_natCast] at cy1
      have HADD := Lib.hid (add_play HQ.out.stX (play_len HG.out (l1.take k) 1000 (by rw [List.length_take]; omega)) (by omega) (l1[k]))
      have HTK := Lib.hid (play_take (startG l0) l1 k hkn)
      have HLT := Lib.hid hlt
      generalize l1[k] = y at *
      clear hkn hlt
      repeat (first | go_step3 | go_values | go_skip | go_guarded | go_step | go_upon)
      (go_at_call 9; refine HADD.out.mono ?_; rintro e w5 ⟨rfl, hS2, hT2⟩; rw [← HTK.out] at hS2; have HQ2 := Lib.hid (HQ.out.toX hS2.ga hT2); clear hS2 hT2; dsimp only)
      repeat (first | go_step3 | go_values | go_skip | go_guarded | go_step | go_upon)
      try go_roundw
      case rel => exact ⟨k + 1, by go_num, HLT.out, HQ2⟩
      case measure => have := HLT.out; simp [intOf]; omega
    · have hge : ¬ (k : Int) < n := by omega
      rw [List.take_of_length_le (by have := HN.out; omega)] at HQ
      clear hlt
      repeat (first | go_step3 | go_values | go_skip | go_guarded | go_step | go_upon)
      go_loopw [16] (fun i wr => ∃ j : Nat, i = .int .i64 j ∧ j ≤ r ∧ Hid (Q4 w wr px bx cx py by_ cy pz bz cz po bo co n1 n2 n3 (playG (startG l0) l1) (playG (startG l0) (l2.take j)) (playG (startG l0) (l2.reverse.take j)) (startG [1099511627776]))) (fun i _ => r - (intOf i).toNat)
      case atStart => exact ⟨0, rfl, Nat.zero_le _, HQ⟩
      clear HQ
      case round =>
        obtain ⟨j, rfl, hj, HQ⟩ := hrel
        by_cases hlt : j < r
        · have hji : (j : Int) < r := by omega
          have hj0 : (0 : Int) ≤ j := by omega
          have hjn : j < l2.length := by have := HR.out; omega
          have hjr : j < l2.reverse.length := by rw [List.length_reverse]; exact hjn
          obtain ⟨ad2, hA2, cy1⟩ := Kd.at_int (Kd.C_below H2.out HQ.out.bel) (j : Int) hj0 (by omega)
          subst hA2
          rw [rd_at l2 j hjn, Int.toNat_natCast] at cy1
          have HADD := Lib.hid (add_play HQ.out.stY (play_len HG.out (l2.take j) 1000 (by rw [List.length_take]; omega)) (by omega) (l2[j]))
          have HTK := Lib.hid (play_take (startG l0) l2 j hjn)
          have HTR := Lib.hid (play_take (startG l0) l2.reverse j hjr)
          have HREV : Hid (l2.reverse[j] = l2[r - 1 - j]'(by have := HR.out; omega)) := Lib.hid (by rw [List.getElem_reverse]; congr 1; rw [← HR.out])
          have HAT2 : Hid (∀ W, Below w.heap.size w W → W.cell? (ad2.add (r - 1 - j)) = some (.int .i64 (l2[r - 1 - j]'(by have := HR.out; omega)))) := Lib.hid (fun W hW => by
            obtain ⟨ad3, hA3, cz3⟩ := Kd.at_int (Kd.C_below H2.out hW) ((r - 1 - j : Nat) : Int) (by omega) (by have := HR.out; omega)
            cases hA3
            rw [rd_at l2 (r - 1 - j) (by have := HR.out; omega), Int.toNat_natCast] at cz3
            exact cz3)
          have HLT := Lib.hid hlt
          have hrj : (r : Int) - 1 - (j : Int) = ((r - 1 - j : Nat) : Int) := by omega
          have hrj0 : (0 : Int) ≤ ((r - 1 - j : Nat) : Int) := by omega
          have hrj1 : ((r - 1 - j : Nat) : Int) < r := by omega
          rw [HREV.out] at HTR
          generalize l2[j] = y at *
          generalize (l2[r - 1 - j]'(by have := HR.out; omega)) = y2 at *
          clear hjn hjr HREV hlt
          repeat (first | go_step3 | go_values | go_skip | go_guarded | go_step | go_upon)
          (go_at_call 9; refine HADD.out.mono ?_; rintro e w5 ⟨rfl, hS2, hT2⟩; rw [← HTK.out] at hS2; have HQ2 := Lib.hid (HQ.out.toY hS2.ga hT2); clear hS2 hT2; dsimp only)
          have cz2 := HAT2.out _ HQ2.out.bel
          have HADD2 := Lib.hid (add_play HQ2.out.stZ (play_len HG.out (l2.reverse.take j) 1000 (by rw [List.length_take]; omega)) (by omega) y2)
          clear HAT2 cy1
          repeat (first | go_step3 | go_values | go_skip | go_guarded | go_step | go_upon)
          (go_at_call 9; refine HADD2.out.mono ?_; rintro e w6 ⟨rfl, hS2, hT2⟩; rw [← HTR.out] at hS2; have HQ3 := Lib.hid (HQ2.out.toZ hS2.ga hT2); clear hS2 hT2; dsimp only)
          repeat (first | go_step3 | go_values | go_skip | go_guarded | go_step | go_upon)
          try go_roundw
          case rel => exact ⟨j + 1, by go_num, HLT.out, HQ3⟩
          case measure => have := HLT.out; simp [intOf]; omega
        · have hge : ¬ (j : Int) < r := by omega
          rw [List.take_of_length_le (by have := HR.out; omega), List.take_of_length_le (by rw [List.length_reverse]; have := HR.out; omega)] at HQ
          clear hlt
          repeat (first | go_step3 | go_values | go_skip | go_guarded | go_step | go_upon)
          have HQ1 : Hid (Q4 w wr px bx cx py by_ cy pz bz cz po bo co n1 n2 n3 (playG (startG l0) l1) (playG (startG l0) l2) (playG (startG l0) (l2.reverse ++ l1.take 0)) (startG [1099511627776])) := Lib.hid (by rw [List.take_zero, List.append_nil]; exact HQ.out)
          clear HQ
          go_loopw [17] (fun i wr => ∃ k : Nat, i = .int .i64 k ∧ k ≤ n ∧ Hid (Q4 w wr px bx cx py by_ cy pz bz cz po bo co n1 n2 n3 (playG (startG l0) l1) (playG (startG l0) l2) (playG (startG l0) (l2.reverse ++ l1.take k)) (startG [1099511627776]))) (fun i _ => n - (intOf i).toNat)
          case atStart => exact ⟨0, rfl, Nat.zero_le _, HQ1⟩
          clear HQ1
          case round =>
          obtain ⟨i3, rfl, hi3, HQ⟩ := hrel
          by_cases hlt : i3 < n
          · have hki : (i3 : Int) < n := by omega
            have hk0 : (0 : Int) ≤ i3 := by omega
            have hkn : i3 < l1.length := by have := HN.out; omega
            obtain ⟨ad2, hA2, cy1⟩ := Kd.at_int (Kd.C_below H1.out HQ.out.bel) (i3 : Int) hk0 (by omega)
            subst hA2
            rw [rd_at l1 i3 hkn, Int.toNat_natCast] at cy1
            have HADD := Lib.hid (add_play HQ.out.stZ (play_len HG.out (l2.reverse ++ l1.take i3) 1000 (by rw [List.length_append, List.length_take, List.length_reverse]; have := HR.out; omega)) (by omega) (l1[i3]))
            have HTK : Hid (playG (startG l0) (l2.reverse ++ l1.take (i3 + 1)) = stepG (playG (startG l0) (l2.reverse ++ l1.take i3)) l1[i3]) := Lib.hid (by rw [List.take_succ_eq_append_getElem hkn, ← List.append_assoc, play_snoc])
            have HLT := Lib.hid hlt
            generalize l1[i3] = y at *
            clear hkn hlt
            repeat (first | go_step3 | go_values | go_skip | go_guarded | go_step | go_upon)
            (go_at_call 9; refine HADD.out.mono ?_; rintro e w5 ⟨rfl, hS2, hT2⟩; rw [← HTK.out] at hS2; have HQ2 := Lib.hid (HQ.out.toZ hS2.ga hT2); clear hS2 hT2; dsimp only)
            repeat (first | go_step3 | go_values | go_skip | go_guarded | go_step | go_upon)
            try go_roundw
            case rel => exact ⟨i3 + 1, by go_num, HLT.out, HQ2⟩
            case measure => have := HLT.out; simp [intOf]; omega
          have hge3 : ¬ (i3 : Int) < n := by omega
          rw [List.take_of_length_le (by have := HN.out; omega)] at HQ
          clear hlt
          have HMG := Lib.hid (merged HG.out l1 l2)
          have OX := play_len HG.out l1 1000 (by have := HN.out; omega)
          have OY := play_len HG.out l2 1000 (by have := HR.out; omega)
          have OZ := play_len HG.out (l2.reverse ++ l1) 1000 (by rw [List.length_append, List.length_reverse]; have := HN.out; have := HR.out; omega)
          generalize playG (startG l0) (l2.reverse ++ l1) = Z at *
          generalize playG (startG l0) l1 = X at *
          generalize playG (startG l0) l2 = Y at *
          have HOX := Lib.hid OX
          have HOY := Lib.hid OY
          have HOZ := Lib.hid OZ
          clear OX OY OZ
          repeat (first | go_step3 | go_values | go_skip | go_guarded | go_step | go_upon)
          (go_at_call 20; refine (copy_any HQ.out.x).mono ?_; rintro e w6 ⟨pc, bc, cc, rfl, hGC, hpc, hbc, hB⟩; have hpx := HQ.out.x.lt; have HQ2 := Lib.hid (HQ.out.keep hB); have HC2 := Lib.hid hGC; have HD2 : Hid ((pc ≠ px ∧ pc ≠ bx) ∧ bc ≠ px ∧ bc ≠ bx) := Lib.hid (by omega); clear hGC hpc hbc hB hpx HQ; dsimp only)
          repeat (first | go_step3 | go_values | go_skip | go_guarded | go_step | go_upon)
          (go_at_call 21; refine (merge_any HQ2.out.x HQ2.out.y (HOX.out.sm (by omega)) (HOY.out.sm (by omega))).mono ?_; rintro e w7 hmp; have hmp2 : e = .returned (.int .i64 0) ∧ GA w7 px bx cx Z.L Z.t Z.s ∧ Touch [px, bx] w6 w7 := (by
            rcases hmp with ⟨_, he, hGm, hTm⟩ | ⟨hne, _⟩
            · refine ⟨he, ?_, hTm⟩
              have e1 := HMG.out
              rw [← e1]
              exact hGm
            · exact absurd (HOX.out.bs.trans HOY.out.bs.symm) hne); clear hmp; obtain ⟨rfl, hGm, hTm⟩ := hmp2; have HQ3 := Lib.hid (HQ2.out.toX hGm hTm); have HC3 := Lib.hid (HC2.out.kept hTm (by simp; exact HD2.out.1) (by simp; exact HD2.out.2)); clear hGm hTm HQ2 HC2; dsimp only)
          repeat (first | go_step3 | go_values | go_skip | go_guarded | go_step | go_upon)
          (go_at_call 11; refine (total_any HQ3.out.x).mono ?_; rintro e w8 ⟨rfl, hT⟩; have hBT := hT.below (Nat.le_refl _) (by simp); have HQ4 := Lib.hid (HQ3.out.keep hBT); have HC4 := Lib.hid (HC3.out.below hBT); clear hT hBT; dsimp only)
          repeat (first | go_step3 | go_values | go_skip | go_guarded | go_step | go_upon)
          (go_at_call 11; refine (total_any HQ4.out.z).mono ?_; rintro e w9 ⟨rfl, hT⟩; have hBT := hT.below (Nat.le_refl _) (by simp); have HQ5 := Lib.hid (HQ4.out.keep hBT); have HC5 := Lib.hid (HC4.out.below hBT); clear hT hBT; dsimp only)
          repeat (first | go_step3 | go_values | go_skip | go_guarded | go_step | go_upon)
          (go_at_call 11; refine (total_any HC5.out).mono ?_; rintro e w10 ⟨rfl, hT⟩; have hBT := hT.below (Nat.le_refl _) (by simp); have HQ6 := Lib.hid (HQ5.out.keep hBT); have HC6 := Lib.hid (HC5.out.below hBT); clear hT hBT; dsimp only)
          repeat (first | go_step3 | go_values | go_skip | go_guarded | go_step | go_upon)
          (go_at_call 11; refine (total_any HQ6.out.y).mono ?_; rintro e w11 ⟨rfl, hT⟩; have hBT := hT.below (Nat.le_refl _) (by simp); have HQ7 := Lib.hid (HQ6.out.keep hBT); have HC7 := Lib.hid (HC6.out.below hBT); clear hT hBT; dsimp only)
          have hsum : X.t + Y.t = Z.t := congrArg GS.t HMG.out
          have r1 : -9223372036854775808 ≤ X.t + Y.t := by have := HOX.out.t; have := HOY.out.t; omega
          have r2 : X.t + Y.t ≤ 9223372036854775807 := by have := HOX.out.t; have := HOY.out.t; omega
          have HM2 := Lib.hid (fun (W : World) (hQ : Q4 w W px bx cx py by_ cy pz bz cz po bo co n1 n2 n3 Z Y Z (startG [1099511627776])) => merge_any hQ.x hQ.o (HOZ.out.sm (by omega)) ((Okg.start good_one).sm (by omega)))
          have HSX := Lib.hid (fun (W : World) (hQ : Q4 w W px bx cx py by_ cy pz bz cz po bo co n1 n2 n3 Z Y Z (startG [1099511627776])) => show_any hQ.x (HOZ.out.sm (by omega)) HOZ.out.bnd)
          have HSZ := Lib.hid (fun (W : World) (hQ : Q4 w W px bx cx py by_ cy pz bz cz po bo co n1 n2 n3 Z Y Z (startG [1099511627776])) => show_any hQ.z (HOZ.out.sm (by omega)) HOZ.out.bnd)
          have HBS : Hid (Z.L.map (·.b) = (startG [1099511627776]).L.map (·.b) ↔ l0 = [1099511627776]) := Lib.hid (by
            rw [HOZ.out.bs, (Okg.start good_one).bs]
            exact List.append_left_inj _)
          clear HC7 HC6 HC5 HC4 HC3
          generalize X.t = xt at *
          generalize Y.t = yt at *
          by_cases hone : m = 1
          case neg =>
            have ho : ((m : Int) == 1) = false := by rw [beq_eq_false_iff_ne]; omega
            have HNB : Hid (¬ Z.L.map (·.b) = (startG [1099511627776]).L.map (·.b)) := Lib.hid (fun h => hone (by rw [HM.out, HBS.out.1 h]; rfl))
            clear hone
            repeat (first | go_step3 | go_values | go_skip | go_guarded | go_step | go_upon)
            (go_at_call 18; refine (HSX.out _ HQ7.out).mono ?_; rintro e w12 ⟨rfl, hB⟩; have HQ8 := Lib.hid (HQ7.out.keep hB); clear hB; dsimp only)
            repeat (first | go_step3 | go_values | go_skip | go_guarded | go_step | go_upon)
            (go_at_call 18; refine (HSZ.out _ HQ8.out).mono ?_; rintro e w13 ⟨rfl, hB⟩; have HQ9 := Lib.hid (HQ8.out.keep hB); clear hB; dsimp only)
            repeat (first | go_step3 | go_values | go_skip | go_guarded | go_step | go_upon)
            (go_at_call 21; refine (HM2.out _ HQ9.out).mono ?_; rintro e w14 hmp; have hmp2 : e = .returned (.int .i64 1) ∧ Below w13.heap.size w13 w14 := (by
              rcases hmp with ⟨hh, _⟩ | ⟨_, he, hb⟩
              · exact absurd hh HNB.out
              · exact ⟨he, hb⟩); clear hmp; obtain ⟨rfl, hb⟩ := hmp2; have HQ10 := Lib.hid (HQ9.out.keep hb); clear hb; dsimp only)
            repeat (first | go_step3 | go_values | go_skip | go_guarded | go_step | go_upon)
            (go_at_call 6; refine (known_any _).mono ?_; rintro e wk ⟨rfl, hBk⟩; have HBK := Lib.hid hBk; clear hBk; dsimp only)
            repeat (first | go_step3 | go_values | go_skip | go_guarded | go_step | go_upon)
            go_ret
            exact ⟨rfl, HQ10.out.bel.trans (HBK.out.mono HQ10.out.bel.size)⟩
          case pos =>
          have ho : ((m : Int) == 1) = true := by rw [beq_iff_eq]; omega
          have h0len : 0 < l0.length := by have := HM.out; omega
          obtain ⟨ad4, hA4, cw4⟩ := Kd.at_int (Kd.C_below H0.out.1 HQ7.out.bel) 0 (Int.le_refl 0) (by omega)
          subst hA4
          have ez : ad4.add 0 = ad4 := by unfold Addr.add; split <;> simp_all
          have hrd0 : rd l0 0 = l0[0] := rd_at l0 0 h0len
          rw [hrd0] at cw4
          simp only [Int.toNat_zero, ez] at cw4
          have hm0 : (0 : Int) < m := by omega
          have HL0 : Hid (l0 = [l0[0]]) := Lib.hid (by
            match l0, h0len, HM.out with
            | [x], _, _ => rfl
            | _ :: _ :: _, _, h => simp at h; omega)
          clear ez hrd0
          generalize hx0 : l0[0] = x0 at *
          by_cases hxo : x0 = 1099511627776
          · have hxi : (x0 == 1099511627776) = true := beq_iff_eq.2 hxo
            have HYB : Hid (Z.L.map (·.b) = (startG [1099511627776]).L.map (·.b)) := Lib.hid (HBS.out.2 (by rw [HL0.out, hxo]))
            clear hxo hone hx0 h0len
            repeat (first | go_step3 | go_values | go_skip | go_guarded | go_step | go_upon)
            (go_at_call 18; refine (HSX.out _ HQ7.out).mono ?_; rintro e w12 ⟨rfl, hB⟩; have HQ8 := Lib.hid (HQ7.out.keep hB); clear hB; dsimp only)
            repeat (first | go_step3 | go_values | go_skip | go_guarded | go_step | go_upon)
            (go_at_call 18; refine (HSZ.out _ HQ8.out).mono ?_; rintro e w13 ⟨rfl, hB⟩; have HQ9 := Lib.hid (HQ8.out.keep hB); clear hB; dsimp only)
            repeat (first | go_step3 | go_values | go_skip | go_guarded | go_step | go_upon)
            (go_at_call 21; refine (HM2.out _ HQ9.out).mono ?_; rintro e w14 hmp; have hmp2 : e = .returned (.int .i64 0) ∧ Below w.heap.size w w14 := (by
              rcases hmp with ⟨_, he, _, hT⟩ | ⟨hh, _⟩
              · exact ⟨he, HQ9.out.bel.trans (hT.below HQ9.out.bel.size (fun i hi => by have := HQ9.out.dx; simp at hi; omega))⟩
              · exact absurd HYB.out hh); clear hmp; obtain ⟨rfl, hb⟩ := hmp2; have HB14 := Lib.hid hb; clear hb; dsimp only)
            repeat (first | go_step3 | go_values | go_skip | go_guarded | go_step | go_upon)
            (go_at_call 6; refine (known_any _).mono ?_; rintro e wk ⟨rfl, hBk⟩; have HBK := Lib.hid hBk; clear hBk; dsimp only)
            repeat (first | go_step3 | go_values | go_skip | go_guarded | go_step | go_upon)
            go_ret
            exact ⟨rfl, HB14.out.trans (HBK.out.mono HB14.out.size)⟩
          · have hxi : (x0 == 1099511627776) = false := beq_eq_false_iff_ne.2 hxo
            have HNB : Hid (¬ Z.L.map (·.b) = (startG [1099511627776]).L.map (·.b)) := Lib.hid (fun h => hxo (by
              have e1 := HBS.out.1 h
              rw [HL0.out] at e1
              exact (List.cons.inj e1).1))
            clear hxo hone hx0 h0len
            repeat (first | go_step3 | go_values | go_skip | go_guarded | go_step | go_upon)
            (go_at_call 18; refine (HSX.out _ HQ7.out).mono ?_; rintro e w12 ⟨rfl, hB⟩; have HQ8 := Lib.hid (HQ7.out.keep hB); clear hB; dsimp only)
            repeat (first | go_step3 | go_values | go_skip | go_guarded | go_step | go_upon)
            (go_at_call 18; refine (HSZ.out _ HQ8.out).mono ?_; rintro e w13 ⟨rfl, hB⟩; have HQ9 := Lib.hid (HQ8.out.keep hB); clear hB; dsimp only)
            repeat (first | go_step3 | go_values | go_skip | go_guarded | go_step | go_upon)
            (go_at_call 21; refine (HM2.out _ HQ9.out).mono ?_; rintro e w14 hmp; have hmp2 : e = .returned (.int .i64 1) ∧ Below w13.heap.size w13 w14 := (by
              rcases hmp with ⟨hh, _⟩ | ⟨_, he, hb⟩
              · exact absurd hh HNB.out
              · exact ⟨he, hb⟩); clear hmp; obtain ⟨rfl, hb⟩ := hmp2; have HQ10 := Lib.hid (HQ9.out.keep hb); clear hb; dsimp only)
            repeat (first | go_step3 | go_values | go_skip | go_guarded | go_step | go_upon)
            (go_at_call 6; refine (known_any _).mono ?_; rintro e wk ⟨rfl, hBk⟩; have HBK := Lib.hid hBk; clear hBk; dsimp only)
            repeat (first | go_step3 | go_values | go_skip | go_guarded | go_step | go_upon)
            go_ret
            exact ⟨rfl, HQ10.out.bel.trans (HBK.out.mono HQ10.out.bel.size)⟩
end
theorem merges_walk {w : World} {m0 m1 m2 base : Nat} {v0 v1 v2 : Value} (hv0 : Value.okWide Try.prog w .any base 22 v0) (hd0 : Rd Try.prog w m0 22 v0.cells.toList) (hv1 : Value.okWide Try.prog w .any base 22 v1) (hd1 : Rd Try.prog w m1 22 v1.cells.toList) (hv2 : Value.okWide Try.prog w .any base 22 v2) (hd2 : Rd Try.prog w m2 22 v2.cells.toList) : Calls Try.prog 4 #[v0, v1, v2] w fun e w' => e = .returned (.bool true) ∧ Below w.heap.size w w' := by
  obtain ⟨A0, c0, l0, rfl, a1, a2, _⟩ := ints_arg hv0 hd0
  obtain ⟨A1, c1, l1, rfl, b1, _, _⟩ := ints_arg hv1 hd1
  obtain ⟨A2, c2, l2, rfl, d1, _, _⟩ := ints_arg hv2 hd2
  exact merges_any a1 a2 b1 d1
end Go.Proofs.Ytmgcmheiabmajaa
