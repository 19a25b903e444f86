/- PrepLeaves. -/
import Derived.Test.YtjmgookpmngmaadPrArg
namespace Go.Proofs.Ytjmgookpmngmaad
open Go Go.RowKit Go.Maps Go.WideShapes

def agB : ByteArray := ⟨#[97, 103, 97, 105, 110]⟩
theorem mput_len {K α : Type} [DecidableEq K] (l : List (K × α)) (x : K) (v : α) : (mput l x v).length = l.length + if mget l x = none then 1 else 0 := by
  induction l with
  | nil => simp [mput, mget]
  | cons q r ih =>
    obtain ⟨y, u⟩ := q
    unfold mput mget
    by_cases e : y = x
    · simp [e]
    · rw [if_neg e, if_neg e]; simp [ih]; omega
set_option maxRecDepth 8000 in
set_option maxHeartbeats 8000000 in
theorem PrepLeaves_walk (w : World) (A : Option Addr) (n cp : Nat) (l : List ByteArray) (hA : RowG strC 1 w A n l) (hg : ∀ o ∈ l, TextSz o) (hnn : n ≤ maxLen) (conn : Int) (hcon : goodI conn) :
    Calls Try.prog 5 #[.slice A n cp, .int .i64 conn] w fun e w' => e = .returned (.bool true) ∧ Below w.heap.size w w' := by
  have HA := Lib.hid hA; have HG := Lib.hid hg
  have hn := hnn
  unfold maxLen at hn
  have i1 : goodI 1 := goodI_of (by decide)
  have I := Lib.hid (And.intro i1 (And.intro hcon hcon))
  clear hA hg hnn i1 hcon
  go_enter Try.func5, Try.ntmps5
  go_wp2_with fail
  refine (New_any w).mono ?_
  rintro e w0 ⟨pb, rfl, own0, b0, low, t0⟩
  have S0 : Hid (KS w w0 own0 pb BM.zero 0) := Lib.hid ⟨b0, low, t0.below (Nat.le_refl _) (by simp)⟩
  clear b0 low t0
  by_cases h30 : n ≤ 30
  · have hi : ¬ (30 : Int) < (n : Int) := by omega
    go_wp2_with fail
    go_loopw [6, 7] (fun m i wr => ∃ (j : Nat) (own : Own) (M : BM), j ≤ n ∧ i = .int .i64 j ∧ m = .int .i64 (M.mine 1).length ∧ (M.mine 1).length ≤ j ∧ Hid (KS w wr own pb M (7 * j))) (fun _ i _ => n - (intOf i).toNat)
    case atStart => exact ⟨0, own0, BM.zero, Nat.zero_le _, rfl, rfl, Nat.zero_le _, S0⟩
    clear S0
    case round =>
      obtain ⟨j, own, M, hj, rfl, rfl, hlen, hb⟩ := hrel
      by_cases hlt : j < n
      · obtain ⟨g, b, s, hAA, hgl, hoj, hom, _, hc⟩ := (HA.out.below hb.out.bel).at hlt
        subst hAA
        have y0 := hc 0 (.string s) rfl
        simp only [Nat.mul_one, Nat.add_zero] at y0
        have GA := Lib.hid (HG.out s hom)
        have hz := HG.out s hom
        unfold TextSz at hz
        have HY : Hid (∀ wq, Below w.heap.size w wq → wq.cell? ⟨g, b + j, none⟩ = some (.string s)) := Lib.hid fun wq hq => by
          obtain ⟨g', b', s', h1, _, h3, _, _, h6⟩ := (HA.out.below hq).at hlt
          cases h1
          rw [hoj] at h3; cases h3
          have := h6 0 (.string s) rfl
          simpa using this
        clear hc hom hoj hgl
        have hi0 : (0 : Int) ≤ j := by omega
        have hi1 : (j : Int) < (n : Int) := by omega
        by_cases h100 : 100 < s.size
        · have hk : (100 : Int) < (s.size : Int) := by omega
          go_wp2_with fail
          refine (known_any _).mono ?_
          rintro e w9 ⟨rfl, t9⟩
          have HF := Lib.hid (hb.out.bel.trans (t9.mono hb.out.bel.size))
          clear t9
          go_wp2
          go_ret
          exact ⟨rfl, HF.out⟩
        · have hk : ¬ (100 : Int) < (s.size : Int) := by omega
          obtain ⟨m2, hm2⟩ : ∃ m2 : Int, m2 = ((mput (M.mine 1) s tX).length : Int) := ⟨_, rfl⟩
          cases hm : mget (M.mine 1) s with
          | none =>
            have HM := Lib.hid hm
            clear hm
            go_wp2_with fail
            refine (Find_no hb.out.b I.out.1 (gT GA.out) HM.out).mono ?_
            rintro e wz ⟨rfl, rfl⟩
            go_wp2_with fail
            refine (Define_ok (s := s) (q := tX) hb.out.b (by omega) I.out.1 (gT GA.out) (by decide) (.inl HM.out)).mono ?_
            rintro e w3 ⟨rfl, own3, b3, g3⟩
            have S3 := Lib.hid (hb.out.step b3 g3)
            have y0 := HY.out w3 S3.out.bel
            clear b3 g3
            go_wp2_with fail
            refine (Need_some S3.out.b (by omega) I.out.2.1 (gT GA.out)).mono ?_
            rintro e w4 ⟨x, own4, M4, rfl, b4, g4, hm4, _, _⟩
            have S4 : Hid (KS w w4 own4 pb M4 (7 * (j + 1)) ∧ M4.mine 1 = mput (M.mine 1) s tX) := Lib.hid ⟨(S3.out.step b4 g4).mono (by omega), by rw [hm4]; simp [BM.put, upd]⟩
            clear b4 g4 hm4 S3
            have HL : Hid ((M4.mine 1).length = (M.mine 1).length + 1) := Lib.hid (by rw [S4.out.2, mput_len, if_pos HM.out])
            go_wp2_with fail
            go_roundw
            case rel => exact ⟨j + 1, own4, M4, by omega, by go_num, by rw [HL.out]; go_num, by rw [HL.out]; omega, Lib.hid S4.out.1⟩
            case measure => simp [intOf]; omega
          | some x0 =>
            have HM := Lib.hid hm
            clear hm
            go_wp2_with fail
            refine (Find_yes hb.out.b I.out.1 (gT GA.out) HM.out).mono ?_
            rintro e wz ⟨rfl, rfl⟩
            go_wp2_with fail
            have cv : Calls Try.prog 13 #[.pointer (some ⟨pb, 0, none⟩), .int .i64 1, .string s, .string tX] wr fun e w' => ∃ x own' M', e = .returned (.int .i64 x) ∧ BkE w' own' pb M' (7 * j + 3) ∧ Grow own own' wr w' ∧ (M'.mine 1).length = (M.mine 1).length := by
              by_cases he : s = ⟨#[]⟩
              · refine (Define_ok (s := s) (q := tX) hb.out.b (by omega) I.out.1 (gT GA.out) (by decide) (.inr he)).mono ?_
                rintro e w3 ⟨rfl, own3, b3, g3⟩
                refine ⟨0, own3, _, rfl, b3.mono (by omega), g3, ?_⟩
                simp only [BM.put, upd, if_true]
                rw [mput_len, HM.out]; simp
              · refine (Define_twice (s := s) (q := tX) hb.out.b I.out.1 (gT GA.out) (by decide) HM.out he).mono ?_
                rintro e w3 ⟨rfl, rfl⟩
                exact ⟨9, own, M, rfl, hb.out.b.mono (by omega), Grow.refl _ _, rfl⟩
            refine cv.mono ?_
            clear cv
            rintro e w3 ⟨x, own3, M3, rfl, b3, g3, hl3⟩
            have S3 := Lib.hid (hb.out.step b3 g3)
            have HL3 := Lib.hid hl3
            have y0 := HY.out w3 S3.out.bel
            clear b3 g3 hl3
            go_wp2_with fail
            refine (Need_some S3.out.b (by omega) I.out.2.1 (gT GA.out)).mono ?_
            rintro e w4 ⟨x, own4, M4, rfl, b4, g4, hm4, _, _⟩
            have S4 : Hid (KS w w4 own4 pb M4 (7 * (j + 1)) ∧ (M4.mine 1).length = (M.mine 1).length) := Lib.hid ⟨(S3.out.step b4 g4).mono (by omega), by rw [hm4]; exact HL3.out⟩
            clear b4 g4 hm4 S3
            go_wp2_with fail
            go_roundw
            case rel => exact ⟨j + 1, own4, M4, by omega, by go_num, by rw [S4.out.2], by rw [S4.out.2]; omega, Lib.hid S4.out.1⟩
            case measure => simp [intOf]; omega
      · go_wp2_with fail
        refine (Has_any hb.out.b (by omega) I.out.2.1).mono ?_
        rintro e w2 ⟨A2, c2, rfl, _, t2⟩
        have S2 := Lib.hid (hb.out.t0 t2)
        clear t2 hb
        go_wp2_with fail
        refine (Leave_any S2.out.b I.out.1).mono ?_
        rintro e w3 ⟨rfl, b3, g3⟩
        have S3 : Hid (KS w w3 own pb (M.gone 1) (7 * j) ∧ (M.gone 1).order conn = M.order conn) := Lib.hid ⟨S2.out.step b3 g3, rfl⟩
        clear b3 g3 S2
        go_wp2_with fail
        have cv := Has_any S3.out.1.b (by omega) I.out.2.1
        rw [S3.out.2] at cv
        refine cv.mono ?_
        clear cv
        rintro e w4 ⟨A4, c4, rfl, _, t4⟩
        have S4 := Lib.hid (S3.out.1.t0 t4)
        have HO := Lib.hid S3.out.2
        clear t4 S3
        have hL0 : (((M.mine 1).length : Int) != ((M.mine 1).length : Int)) = false := by simp
        have hL1 : (((M.order conn).length : Int) != ((M.order conn).length : Int)) = false := by simp
        go_wp2_with fail
        go_loopw [11] (fun i wr => ∃ (k : Nat), k ≤ n ∧ i = .int .i64 k ∧ Hid (KS w wr own pb (M.gone 1) (7 * j))) (fun i _ => n - (intOf i).toNat)
        case atStart => exact ⟨0, Nat.zero_le _, rfl, S4⟩
        clear S4
        case round =>
          obtain ⟨k, hk, rfl, hb⟩ := hrel
          by_cases hlt2 : k < n
          · obtain ⟨g, b, s, hAA, hgl, hoj, hom, _, hc⟩ := (HA.out.below hb.out.bel).at hlt2
            subst hAA
            have y0 := hc 0 (.string s) rfl
            simp only [Nat.mul_one, Nat.add_zero] at y0
            have GA := Lib.hid (HG.out s hom)
            clear hc hom hoj hgl
            have hi0 : (0 : Int) ≤ k := by omega
            have hi1 : (k : Int) < (n : Int) := by omega
            go_wp2_with fail
            refine (Find_no hb.out.b I.out.1 (gT GA.out) (by simp [BM.gone, upd, mget])).mono ?_
            rintro e wz ⟨rfl, rfl⟩
            go_wp2_with fail
            go_roundw
            case rel => exact ⟨k + 1, by omega, by go_num, hb⟩
            case measure => simp [intOf]; omega
          · go_wp2_with fail
            refine (Define_ok (s := agB) (q := tX) hb.out.b (by omega) I.out.1 (gS (by decide)) (by decide) (.inl (by simp [BM.gone, upd, mget]))).mono ?_
            rintro e w5 ⟨rfl, own5, b5, g5⟩
            have S5 := Lib.hid (hb.out.step b5 g5)
            clear b5 g5 hb
            go_wp2_with fail
            have cv := Forget_any S5.out.b (by omega) I.out.2.1
            have e5 : ((M.gone 1).put 1 agB tX).order conn = M.order conn := rfl
            rw [e5] at cv
            refine cv.mono ?_
            clear cv e5
            rintro e w6 ⟨rfl, b6, g6⟩
            have S6 := Lib.hid (S5.out.step b6 g6)
            clear b6 g6 S5
            go_wp2_with fail
            refine (known_any _).mono ?_
            rintro e w9 ⟨rfl, t9⟩
            have HF := Lib.hid (S6.out.bel.trans (t9.mono S6.out.bel.size))
            clear t9
            go_wp2
            go_ret
            exact ⟨rfl, HF.out⟩
  · have hi : (30 : Int) < (n : Int) := by omega
    go_wp2_with fail
    refine (known_any _).mono ?_
    rintro e w9 ⟨rfl, t9⟩
    have HF := Lib.hid (S0.out.bel.trans (t9.mono S0.out.bel.size))
    clear t9
    go_wp2
    go_ret
    exact ⟨rfl, HF.out⟩
end Go.Proofs.Ytjmgookpmngmaad
