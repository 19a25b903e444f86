/- A gauge's Add: a number's bucket is found by halves. -/
import Derived.Test.YtmgcmheiabmajaaGa1
import Derived.Test.YtmgcmheiabmajaaWMore
namespace Go.Proofs.Ytmgcmheiabmajaa
open Go Go.RowKit Go.Proofs.YtmgcmheiabmajaaW.PrintWords

/-- How many bounds are below a number, from the first one on. -/
def posB (L : List SB) (x : Int) : Nat := (L.takeWhile fun y => decide (y.b < x)).length
def Ris (L : List SB) : Prop := L.Pairwise fun a b => a.b < b.b
theorem pos_le {L : List SB} {x : Int} {m : Nat} {y : SB} (h : L[m]? = some y) (hy : ¬ y.b < x) : posB L x ≤ m := by
  induction L generalizing m with
  | nil => simp at h
  | cons a r ih =>
    unfold posB
    rw [List.takeWhile_cons]
    cases m with
    | zero =>
      simp only [List.getElem?_cons_zero, Option.some.injEq] at h
      subst h
      rw [if_neg (by simpa using hy)]
      exact Nat.zero_le _
    | succ m =>
      have := ih (m := m) (by simpa using h)
      unfold posB at this
      split
      · simp only [List.length_cons]; omega
      · exact Nat.zero_le _
theorem pos_gt {L : List SB} {x : Int} {m : Nat} {y : SB} (hr : Ris L) (h : L[m]? = some y) (hy : y.b < x) : m < posB L x := by
  induction L generalizing m with
  | nil => simp at h
  | cons a r ih =>
    unfold posB
    rw [List.takeWhile_cons]
    obtain ⟨h1, h2⟩ := List.pairwise_cons.1 hr
    cases m with
    | zero =>
      simp only [List.getElem?_cons_zero, Option.some.injEq] at h
      subst h
      rw [if_pos (by simpa using hy)]
      simp
    | succ m =>
      have hm : r[m]? = some y := by simpa using h
      have ha : a.b < y.b := h1 y (List.mem_of_getElem? hm)
      have := ih (m := m) h2 hm
      unfold posB at this
      rw [if_pos (by simp; omega)]
      simp only [List.length_cons]
      omega
def addL (L : List SB) (x : Int) : List SB := putC L (posB L x) ((L.getD (posB L x) ⟨0, 0⟩).c + 1)
def cutI : Int := 1152921504606846976
structure Sm (L : List SB) (t s : Int) : Prop where
  c : ∀ y ∈ L, 0 ≤ y.c ∧ y.c ≤ 1000000
  t : 0 ≤ t ∧ t ≤ 1000000
  s : 0 ≤ s ∧ s ≤ 1152921504606846976
section
variable {w : World} {p b cp : Nat} {L : List SB} {t s : Int}
theorem add_bad (h : GA w p b cp L t s) (x : Int) (hx : x < 0 ∨ 1099511627776 < x) : Calls Try.prog 9 #[.pointer (some ⟨p, 0, none⟩), .int .i64 x] w fun e w' => e = .returned (.bool false) ∧ w' = w := by
  have HT := Lib.hid (there_any h)
  clear h
  go_enter Try.func9, Try.ntmps9
  repeat (first | go_step3 | go_values | go_skip | go_guarded | go_step | go_upon)
  (go_at_call 23; refine HT.out.mono ?_; rintro e w1 ⟨rfl, rfl⟩; dsimp only)
  by_cases h0 : x < 0
  · clear hx
    repeat (first | go_step3 | go_values | go_skip | go_guarded | go_step | go_upon)
    go_ret
    exact ⟨rfl, rfl⟩
  · have h1 : 1099511627776 < x := by omega
    clear hx
    repeat (first | go_step3 | go_values | go_skip | go_guarded | go_step | go_upon)
    go_ret
    exact ⟨rfl, rfl⟩
def AddP (w : World) (p b cp : Nat) (L : List SB) (t s x : Int) (e : Ending) (w' : World) : Prop := e = .returned (.bool true) ∧ GA w' p b cp (addL L x) (t + 1) (mn (s + x) cutI) ∧ Touch [p, b] w w'
set_option maxHeartbeats 1000000 in
theorem add_any (h : GA w p b cp L t s) (hr : Ris L) (hs : Sm L t s) (x : Int) (h0 : 0 ≤ x) (h1 : x ≤ 1099511627776) (hpos : posB L x < L.length) : Calls Try.prog 9 #[.pointer (some ⟨p, 0, none⟩), .int .i64 x] w (AddP w p b cp L t s x) := by
  have HT := Lib.hid (there_any h)
  have HG := Lib.hid h
  have HR := Lib.hid hr
  have HS := Lib.hid hs
  have HP := Lib.hid hpos
  have hlen : L.length ≤ 101 := h.few.2
  obtain ⟨c0, _⟩ := h.cells
  have n0 : ¬ x < 0 := by omega
  have n1 : ¬ 1099511627776 < x := by omega
  have HX := Lib.hid (And.intro h0 h1)
  clear h hr hs hpos h0 h1
  obtain ⟨n, hn⟩ : ∃ n, n = L.length := ⟨_, rfl⟩
  have HL := Lib.hid hn
  rw [← hn] at c0 hlen
  clear hn
  go_enter Try.func9, Try.ntmps9
  repeat (first | go_step3 | go_values | go_skip | go_guarded | go_step | go_upon)
  (go_at_call 23; refine HT.out.mono ?_; rintro e w1 ⟨rfl, rfl⟩; dsimp only)
  repeat (first | go_step3 | go_values | go_skip | go_guarded | go_step | go_upon)
  refine wp_region_tw (by kernel_rfl) (by kernel_rfl) ?_
  have q0 := TW.cell c0
  repeat (go_big_quiet_step (fail))
  refine wpQuiet_nil ?_
  rintro _ ⟨X, rfl⟩
  have HB0 : Hid (Touch [] w1 X.w) := Lib.hid X.t
  clear q0
  generalize X.w = wr at *
  have hn1 : (n : Int) - 1 = ((n - 1 : Nat) : Int) := by have := HG.out.few.1; have := HL.out; omega
  rw [hn1]
  repeat (first | go_step3 | go_values | go_skip | go_guarded | go_step | go_upon)
  go_loopw [5, 6] (fun a z wr => ∃ lo hi : Nat, a = .int .i64 lo ∧ z = .int .i64 hi ∧ lo ≤ hi ∧ hi < n ∧ Hid (lo ≤ posB L x ∧ posB L x ≤ hi) ∧ Hid (Touch [] w1 wr)) (fun a z _ => (intOf z).toNat - (intOf a).toNat)
  case atStart => exact ⟨0, n - 1, rfl, rfl, Nat.zero_le _, by have := HG.out.few.1; have := HL.out; omega, Lib.hid ⟨Nat.zero_le _, by have := HP.out; have := HL.out; omega⟩, HB0⟩
  case round =>
    obtain ⟨lo, hi, rfl, rfl, hlh, hhn, HQ, HB⟩ := hrel
    have HGr := Lib.hid (HG.out.kept HB.out (by simp) (by simp))
    obtain ⟨c0r, _⟩ := HGr.out.cells
    rw [← HL.out] at c0r
    by_cases hlt : lo < hi
    · have hlt' : (lo : Int) < hi := by omega
      obtain ⟨m, hm⟩ : ∃ m, m = (lo + hi) / 2 := ⟨_, rfl⟩
      have hmn : m < L.length := by have := HL.out; omega
      obtain ⟨y, hy⟩ : ∃ y, L[m]? = some y := ⟨L[m], List.getElem?_eq_getElem hmn⟩
      obtain ⟨cm, _⟩ := HGr.out.at m y hy
      have hd1 : ((lo : Int) + hi) / 2 = (m : Int) := by omega
      have hd2 : ((lo : Int) + hi).tdiv 2 = (m : Int) := by rw [Int.tdiv_eq_ediv_of_nonneg (by omega)]; exact hd1
      have hm0 : (0 : Int) ≤ m := by omega
      have hm1 : (m : Int) < n := by have := HL.out; omega
      have HM := Lib.hid (And.intro hm (And.intro hy hmn))
      clear hm hy hmn
      by_cases hyx : y.b < x
      · have HN := Lib.hid (pos_gt HR.out HM.out.2.1 hyx)
        repeat (first | go_step3 | go_values | go_skip | go_guarded | go_step | go_upon)
        try go_roundw
        case rel => exact ⟨m + 1, hi, by go_num, rfl, by have := HM.out.1; omega, hhn, Lib.hid ⟨HN.out, HQ.out.2⟩, HB⟩
        case measure => have := HM.out.1; simp [intOf]; omega
      · have HN := Lib.hid (pos_le HM.out.2.1 hyx)
        have hyx' : ¬ y.b < x := hyx
        repeat (first | go_step3 | go_values | go_skip | go_guarded | go_step | go_upon)
        try go_roundw
        case rel => exact ⟨lo, m, rfl, rfl, by have := HM.out.1; omega, by omega, Lib.hid ⟨HQ.out.1, HN.out⟩, HB⟩
        case measure => have := HM.out.1; simp [intOf]; omega
    · have hge : ¬ (lo : Int) < hi := by omega
      have hj : lo = posB L x := by have := HQ.out; omega
      have hjn : lo < L.length := by have := HL.out; omega
      obtain ⟨y, hy⟩ : ∃ y, L[lo]? = some y := ⟨L[lo], List.getElem?_eq_getElem hjn⟩
      obtain ⟨_, cm, fm⟩ := HGr.out.at lo y hy
      have hm0 : (0 : Int) ≤ lo := by omega
      have hm1 : (lo : Int) < n := by have := HL.out; omega
      obtain ⟨hyc0, hyc1⟩ := HS.out.c y (List.mem_of_getElem? hy)
      have hw1 : wrap64 (y.c + 1) = y.c + 1 := by unfold wrap64; omega
      have HY := Lib.hid (And.intro hj (And.intro hy hjn))
      have hyb1 : -9223372036854775808 ≤ y.c + 1 := by omega
      have hyb2 : y.c + 1 ≤ 9223372036854775807 := by omega
      have G1 := HGr.out.setC lo hjn (y.c + 1)
      obtain ⟨_, d1, _, _, e1, _⟩ := G1.cells
      have G2 := G1.setT (t + 1)
      obtain ⟨_, _, d2, _, _, e2⟩ := G2.cells
      have G3 := Lib.hid (G2.setS (mn (s + x) cutI))
      clear G1 G2
      have b1 : -9223372036854775808 ≤ t + 1 := by have := HS.out.t; omega
      have b2 : t + 1 ≤ 9223372036854775807 := by have := HS.out.t; omega
      have b3 : -9223372036854775808 ≤ s + x := by have := HS.out.s; have := HX.out; omega
      have b4 : s + x ≤ 9223372036854775807 := by have := HS.out.s; have := HX.out; omega
      clear hj hy hjn hlt
      repeat (first | go_step3 | go_values | go_skip | go_guarded | go_step | go_upon)
      go_ret
      have hadd : addL L x = putC L lo (y.c + 1) := by
        unfold addL
        rw [← HY.out.1, List.getD_eq_getElem?_getD, HY.out.2.1]
        rfl
      refine ⟨rfl, ?_, ?_⟩
      · rw [hadd]
        exact G3.out
      · exact (((HB.out.mono (by simp)).setCell _ (.inl (by simp))).setCell _ (.inl (by simp))).setCell _ (.inl (by simp))
end
end Go.Proofs.Ytmgcmheiabmajaa
