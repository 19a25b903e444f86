/- The book's known calls. -/
import Derived.Test.YtjmgookpmngmaadPr9
namespace Go.Proofs.Ytjmgookpmngmaad
open Go Go.RowKit Go.Maps

theorem gS {s : ByteArray} (h : s.size ≤ 100) : goodS s := by unfold goodS maxLen; omega
theorem row_lit {w : World} {g : Nat} {l : List ByteArray} {t : TypeId} {fr : Nat × Nat} (h : w.heap[g]? = some (.cells (strsV l).toArray t fr)) : RowG strC 1 w (some ⟨g, 0, none⟩) l.length l :=
  ⟨rfl, .inr ⟨g, 0, rfl, heap_lt h, fun j x hj i v hv => by
    cases i with
    | zero =>
      simp [strC] at hv
      subst hv
      rw [cell_of h]
      simp [strsV, strV, hj]
    | succ i => simp [strC] at hv⟩⟩
set_option maxRecDepth 8000 in
set_option maxHeartbeats 4000000 in
theorem known_any (w : World) : Calls Try.prog 9 #[] w fun e w' => e = .returned (.bool true) ∧ Below w.heap.size w w' := by
  have i1 : goodI 1 := goodI_of (by decide)
  have i2 : goodI 2 := goodI_of (by decide)
  have I := Lib.hid (And.intro i1 i2)
  clear i1 i2
  go_enter Try.func9, Try.ntmps9
  go_wp2_with fail
  refine (New_any w).mono ?_
  rintro e w0 ⟨pb, rfl, own0, b0, low, t0⟩
  have S0 : Hid (KS w w0 own0 pb BM.zero 0 ∧ KM BM.zero [] [] [] [] []) := Lib.hid ⟨⟨b0, low, t0.below (Nat.le_refl _) (by simp)⟩, ⟨rfl, rfl, rfl, rfl, rfl⟩⟩
  clear b0 low t0
  go_wp2_with fail
  refine (Define_ok (s := tA) (q := tS1) S0.out.1.b (by decide) I.out.1 (gS (by decide)) (by decide) (.inl (by rw [S0.out.2.a]; rfl))).mono ?_
  rintro e w1 ⟨rfl, own1, b1, g1⟩
  obtain ⟨M1, hM1⟩ : ∃ M, M = BM.put BM.zero 1 tA tS1 := ⟨_, rfl⟩
  rw [← hM1] at b1
  have S1 : Hid (KS w w1 own1 pb M1 1 ∧ KM M1 [(tA, tS1)] [] [] [] []) := Lib.hid ⟨S0.out.1.step b1 g1, by rw [hM1]; have := S0.out.2.put tA tS1; simpa [mput, dAE, dEA, dAB] using this⟩
  clear b1 g1 hM1 S0
  go_wp2_with fail
  refine (Define_twice (s := tA) (q := tS2) (x := tS1) S1.out.1.b I.out.1 (gS (by decide)) (by decide) (by rw [S1.out.2.a]; rfl) dAE).mono ?_
  rintro e wz ⟨rfl, rfl⟩
  go_wp2_with fail
  refine (Define_ok (s := tE) (q := tX) S1.out.1.b (by decide) I.out.1 (gS (by decide)) (by decide) (.inr rfl)).mono ?_
  rintro e w2 ⟨rfl, own2, b2, g2⟩
  obtain ⟨M2, hM2⟩ : ∃ M, M = BM.put M1 1 tE tX := ⟨_, rfl⟩
  rw [← hM2] at b2
  have S2 : Hid (KS w w2 own2 pb M2 2 ∧ KM M2 [(tA, tS1), (tE, tX)] [] [] [] []) := Lib.hid ⟨S1.out.1.step b2 g2, by rw [hM2]; have := S1.out.2.put tE tX; simpa [mput, dAE, dEA, dAB] using this⟩
  clear b2 g2 hM2 S1
  go_wp2_with fail
  refine (Define_ok (s := tE) (q := tY) S2.out.1.b (by decide) I.out.1 (gS (by decide)) (by decide) (.inr rfl)).mono ?_
  rintro e w3 ⟨rfl, own3, b3, g3⟩
  obtain ⟨M3, hM3⟩ : ∃ M, M = BM.put M2 1 tE tY := ⟨_, rfl⟩
  rw [← hM3] at b3
  have S3 : Hid (KS w w3 own3 pb M3 3 ∧ KM M3 [(tA, tS1), (tE, tY)] [] [] [] []) := Lib.hid ⟨S2.out.1.step b3 g3, by rw [hM3]; have := S2.out.2.put tE tY; simpa [mput, dAE, dEA, dAB] using this⟩
  clear b3 g3 hM3 S2
  go_wp2_with fail
  refine (Find_yes (s := tE) (x := tY) S3.out.1.b I.out.1 (gS (by decide)) (by rw [S3.out.2.a]; simp [mget, dAE])).mono ?_
  rintro e wz ⟨rfl, rfl⟩
  go_wp2_with fail
  refine (Find_no (s := tA) S3.out.1.b I.out.2 (gS (by decide)) (by rw [S3.out.2.b]; rfl)).mono ?_
  rintro e wz ⟨rfl, rfl⟩
  have NM : Hid (BM.name M3 tA = n1B) := Lib.hid (by rw [S3.out.2.name]; exact name1)
  go_wp2_with fail
  have cv := Need_any (q := tA) S3.out.1.b (by decide) I.out.1 (gS (by decide)) true (by rw [NM.out, S3.out.2.d]; exact .inl ⟨rfl, by simp⟩)
  rw [NM.out] at cv
  refine cv.mono ?_
  clear cv
  rintro e w4 ⟨rfl, own4, b4, g4⟩
  simp only [if_true] at b4
  obtain ⟨M4, hM4⟩ : ∃ M, M = (BM.more (BM.nmd M3 tA) 1 n1B) := ⟨_, rfl⟩
  rw [← hM4] at b4
  have S4 : Hid (KS w w4 own4 pb M4 6 ∧ KM M4 [(tA, tS1), (tE, tY)] [] [(tA, n1B)] [n1B] []) := Lib.hid ⟨S3.out.1.step b4 g4, by rw [hM4]; have := (S3.out.2.nmd tA n1B NM.out).more1 n1B; simpa [mput, dAB, dBA] using this⟩
  clear b4 g4 hM4 S3 NM
  have NM : Hid (BM.name M4 tA = n1B) := Lib.hid (by rw [S4.out.2.name]; rfl)
  go_wp2_with fail
  have cv := Need_any (q := tA) S4.out.1.b (by decide) I.out.2 (gS (by decide)) true (by rw [NM.out, S4.out.2.e]; exact .inl ⟨rfl, by simp⟩)
  rw [NM.out] at cv
  refine cv.mono ?_
  clear cv
  rintro e w5 ⟨rfl, own5, b5, g5⟩
  simp only [if_true] at b5
  obtain ⟨M5, hM5⟩ : ∃ M, M = (BM.more (BM.nmd M4 tA) 2 n1B) := ⟨_, rfl⟩
  rw [← hM5] at b5
  have S5 : Hid (KS w w5 own5 pb M5 9 ∧ KM M5 [(tA, tS1), (tE, tY)] [] [(tA, n1B)] [n1B] [n1B]) := Lib.hid ⟨S4.out.1.step b5 g5, by rw [hM5]; have := (S4.out.2.nmd tA n1B NM.out).more2 n1B; simpa [mput, dAB, dBA] using this⟩
  clear b5 g5 hM5 S4 NM
  have NM : Hid (BM.name M5 tA = n1B) := Lib.hid (by rw [S5.out.2.name]; rfl)
  go_wp2_with fail
  have cv := Need_any (q := tA) S5.out.1.b (by decide) I.out.1 (gS (by decide)) false (by rw [NM.out, S5.out.2.d]; exact .inr ⟨rfl, by simp⟩)
  rw [NM.out] at cv
  refine cv.mono ?_
  clear cv
  rintro e w6 ⟨rfl, own6, b6, g6⟩
  simp only [Bool.false_eq_true, if_false] at b6
  obtain ⟨M6, hM6⟩ : ∃ M, M = (BM.nmd M5 tA) := ⟨_, rfl⟩
  rw [← hM6] at b6
  have S6 : Hid (KS w w6 own6 pb M6 12 ∧ KM M6 [(tA, tS1), (tE, tY)] [] [(tA, n1B)] [n1B] [n1B]) := Lib.hid ⟨S5.out.1.step b6 g6, by rw [hM6]; have := S5.out.2.nmd tA n1B NM.out; simpa [mput, dAB, dBA] using this⟩
  clear b6 g6 hM6 S5 NM
  have NM : Hid (BM.name M6 tB = n2B) := Lib.hid (by rw [S6.out.2.name]; simp [mget, dAB]; exact name2)
  go_wp2_with fail
  have cv := Need_any (q := tB) S6.out.1.b (by decide) I.out.1 (gS (by decide)) true (by rw [NM.out, S6.out.2.d]; exact .inl ⟨rfl, by simp [Ne.symm d12]⟩)
  rw [NM.out] at cv
  refine cv.mono ?_
  clear cv
  rintro e w7 ⟨rfl, own7, b7, g7⟩
  simp only [if_true] at b7
  obtain ⟨M7, hM7⟩ : ∃ M, M = (BM.more (BM.nmd M6 tB) 1 n2B) := ⟨_, rfl⟩
  rw [← hM7] at b7
  have S7 : Hid (KS w w7 own7 pb M7 15 ∧ KM M7 [(tA, tS1), (tE, tY)] [] [(tA, n1B), (tB, n2B)] [n1B, n2B] [n1B]) := Lib.hid ⟨S6.out.1.step b7 g7, by rw [hM7]; have := (S6.out.2.nmd tB n2B NM.out).more1 n2B; simpa [mput, dAB, dBA] using this⟩
  clear b7 g7 hM7 S6 NM
  go_wp2_with fail
  have cv := Has_any S7.out.1.b (by decide) I.out.1
  rw [S7.out.2.d] at cv
  refine cv.mono ?_
  clear cv
  rintro e w8 ⟨A8, c8, rfl, o8, t8⟩
  have hon := own_none S7.out.1.b o8
  have S8 : Hid (KS w w8 own7 pb M7 15 ∧ KM M7 [(tA, tS1), (tE, tY)] [] [(tA, n1B), (tB, n2B)] [n1B, n2B] [n1B] ∧ RowG strC 1 w8 A8 2 [n1B, n2B] ∧ ((2 : Nat) = 0 ∨ ∀ a, A8 = some a → own7 a.block = none)) := Lib.hid ⟨S7.out.1.t0 t8, S7.out.2, strs_row o8, hon⟩
  clear o8 t8 hon S7
  go_wp2_with fail
  have cv := Forget_any S8.out.1.b (by decide) I.out.1
  rw [S8.out.2.1.d] at cv
  refine cv.mono ?_
  clear cv
  rintro e w9 ⟨rfl, b9, g9⟩
  have R9 := S8.out.2.2.1.grow g9 S8.out.2.2.2
  have S9 : Hid (KS w w9 own7 pb (BM.forget M7 1) 15 ∧ KM (BM.forget M7 1) [(tA, tS1), (tE, tY)] [] [(tA, n1B), (tB, n2B)] [] [n1B] ∧ RowG strC 1 w9 A8 2 [n1B, n2B] ∧ ((2 : Nat) = 0 ∨ ∀ a, A8 = some a → own7 a.block = none)) := Lib.hid ⟨S8.out.1.step b9 g9, S8.out.2.1.forget, R9.1, R9.2⟩
  clear b9 g9 R9 S8
  generalize BM.forget M7 1 = M9 at *
  have NM : Hid (BM.name M9 tB = n2B) := Lib.hid (by rw [S9.out.2.1.name]; simp [mget, dAB])
  go_wp2_with fail
  have cv := Need_any (q := tB) S9.out.1.b (by decide) I.out.1 (gS (by decide)) true (by rw [NM.out, S9.out.2.1.d]; exact .inl ⟨rfl, by simp⟩)
  rw [NM.out] at cv
  refine cv.mono ?_
  clear cv
  rintro e w10 ⟨rfl, own10, b10, g10⟩
  simp only [if_true] at b10
  obtain ⟨M10, hM10⟩ : ∃ M, M = (BM.more (BM.nmd M9 tB) 1 n2B) := ⟨_, rfl⟩
  rw [← hM10] at b10
  have R10 := S9.out.2.2.1.grow g10 S9.out.2.2.2
  have S10 : Hid (KS w w10 own10 pb M10 18 ∧ M10.mine 1 = [(tA, tS1), (tE, tY)] ∧ RowG strC 1 w10 A8 2 [n1B, n2B]) := Lib.hid ⟨S9.out.1.step b10 g10, by rw [hM10]; exact S9.out.2.1.a, R10.1⟩
  clear b10 g10 hM10 S9 NM R10
  have u1 : tY.toList = [121] := by rw [ByteArray.toList_eq]; rfl
  have u2 : n1B.toList = [115, 49] := by rw [ByteArray.toList_eq]; rfl
  have u3 : n2B.toList = [115, 50] := by rw [ByteArray.toList_eq]; rfl
  go_wp2_with fail
  have ta : Touch [] w10 (w10.alloc (.cells #[.string ⟨#[115, 49]⟩, .string ⟨#[115, 50]⟩] 9)) := (Touch.refl _ _).alloc _
  have rl : RowG strC 1 (w10.alloc (.cells #[.string ⟨#[115, 49]⟩, .string ⟨#[115, 50]⟩] 9)) (some ⟨w10.heap.size, 0, none⟩) 2 [n1B, n2B] := row_lit (l := [n1B, n2B]) (heap_alloc_new w10 _)
  have cv := Texts_any (cp := c8) (cp' := 2) (S10.out.2.2.kept0 ta) rl (by decide)
  rw [decide_eq_true rfl] at cv
  have SA := Lib.hid (S10.out.1.t0 ta)
  refine cv.mono ?_
  clear cv rl ta
  rintro e w11 ⟨rfl, t11⟩
  have S11 := Lib.hid (SA.out.t0 t11)
  have hm11 := S10.out.2.1
  have HM11 := Lib.hid hm11
  clear t11 SA S10 hm11
  go_wp2_with fail
  refine (Close_yes (s := tA) (x := tS1) S11.out.b I.out.1 (gS (by decide)) (by rw [HM11.out]; rfl)).mono ?_
  rintro e w12 ⟨rfl, b12, g12⟩
  have S12 := Lib.hid (S11.out.step b12 g12)
  have HM12 : Hid ((BM.del M10 1 tA).mine 1 = [(tE, tY)]) := Lib.hid (by simp only [BM.del, upd, if_true, HM11.out]; simp [mdel, dEA])
  clear b12 g12 S11 HM11
  go_wp2_with fail
  refine (Close_no (s := tA) S12.out.b I.out.1 (gS (by decide)) (by rw [HM12.out]; simp [mget, dEA])).mono ?_
  rintro e wz ⟨rfl, rfl⟩
  go_wp2_with fail
  have cv := Leave_any S12.out.b I.out.1
  rw [HM12.out] at cv
  refine cv.mono ?_
  clear cv
  rintro e w13 ⟨rfl, b13, g13⟩
  have S13 := Lib.hid (S12.out.step b13 g13)
  clear b13 g13 S12
  go_wp2
  go_ret
  exact ⟨rfl, S13.out.bel⟩
end Go.Proofs.Ytjmgookpmngmaad
