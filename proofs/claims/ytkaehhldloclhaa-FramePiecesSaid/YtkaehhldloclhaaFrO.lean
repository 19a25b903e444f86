/- octet's functions that layer 2 reaches (after XOct). -/
import Derived.Test.YtkaehhldloclhaaOctPut
import Derived.BigQuiet
import Derived.Deep.QuietTactic
import Derived.Deep.DeepCutAuto
import Derived.WalkLawsBesides
import Derived.Laws.StructEq
namespace Go.Proofs.Ytkaehhldloclhaa
open Go.RowKit

theorem ret_int {k : IntKind} {a b : Int} (h : a = b) : Ending.returned (.int k a) = .returned (.int k b) := by rw [h]
theorem byte_at (s : ByteArray) (i : Nat) (h : i < s.size) : s[i] = s.data.toList[i]'(by simpa using h) := by
  simp [ByteArray.getElem_eq_getElem_data]

theorem put_any' (s : ByteArray) (n k : Int) (w : World) (h0 : 0 ≤ k) (hk : k ≤ 4) (hs : s.size + 4 ≤ 140737488355328) :
    Calls Try.prog 26 #[.string s, .int .i64 n, .int .i64 k] w fun e w' => e = .returned (.string (putF s n k.toNat)) ∧ Below w.heap.size w w' := by
  obtain ⟨k, rfl⟩ := Int.eq_ofNat_of_zero_le h0
  exact put_any s n k w (by omega) hs
theorem Put32_any (s : ByteArray) (n : Int) (w : World) (hs : s.size + 4 ≤ 140737488355328) :
    Calls Try.prog 21 #[.string s, .int .i64 n] w fun e w' => e = .returned (.string (putF s n 4)) ∧ Below w.heap.size w w' := by
  go_enter Try.func21, Try.ntmps21
  go_wp2_with (go_at_call 26; refine (put_any s n 4 _ (by decide) hs).mono ?_; rintro e w1 ⟨rfl, hb⟩)
  go_ret
  exact ⟨rfl, hb⟩

theorem ret_str {a b : ByteArray} (h : a = b) : Ending.returned (.string a) = .returned (.string b) := by rw [h]
def gotV (x : ByteArray × Int × Int) : Value := .agg #[.string x.1, .int .i64 x.2.1, .int .i64 x.2.2]
set_option maxHeartbeats 400000 in
theorem bytes_any (s : ByteArray) (at_ n : Int) (w : World) (hs : s.size ≤ 4611686018427387904) (h1 : -9223372036854775808 ≤ at_ ∧ at_ ≤ 9223372036854775807) (h2 : -9223372036854775808 ≤ n ∧ n ≤ 9223372036854775807) :
    Calls Try.prog 32 #[.string s, .int .i64 at_, .int .i64 n] w fun e w' => e = .returned (gotV (gotF s at_ n)) ∧ Below w.heap.size w w' := by
  by_cases c1 : at_ < 0
  · have Hr : Hid (gotF s at_ n = (⟨#[]⟩, 0, 1)) := Lib.hid (by simp [gotF, c1])
    go_enter Try.func32, Try.ntmps32
    go_wp2
    exact bodyPost_ret (v := gotV (⟨#[]⟩, 0, 1)) (by simp [results, Try.results32, go_sem, gotV]) rfl ⟨by rw [Hr.out], (Below.refl _ _).alloc (Nat.le_refl _) _⟩
  by_cases c2 : (s.size : Int) < at_
  · have Hr : Hid (gotF s at_ n = (⟨#[]⟩, 0, 1)) := Lib.hid (by simp [gotF, c2])
    go_enter Try.func32, Try.ntmps32
    go_wp2
    exact bodyPost_ret (v := gotV (⟨#[]⟩, 0, 1)) (by simp [results, Try.results32, go_sem, gotV]) rfl ⟨by rw [Hr.out], (Below.refl _ _).alloc (Nat.le_refl _) _⟩
  by_cases c3 : n < 0
  · have Hr : Hid (gotF s at_ n = (⟨#[]⟩, 0, 1)) := Lib.hid (by simp [gotF, c3])
    go_enter Try.func32, Try.ntmps32
    go_wp2
    exact bodyPost_ret (v := gotV (⟨#[]⟩, 0, 1)) (by simp [results, Try.results32, go_sem, gotV]) rfl ⟨by rw [Hr.out], (Below.refl _ _).alloc (Nat.le_refl _) _⟩
  obtain ⟨a, rfl⟩ := Int.eq_ofNat_of_zero_le (show 0 ≤ at_ by omega)
  obtain ⟨k, rfl⟩ := Int.eq_ofNat_of_zero_le (show 0 ≤ n by omega)
  have ha : a ≤ s.size := by omega
  by_cases c4 : (s.size : Int) - a < k
  · have Hr : Hid (gotF s a k = (⟨#[]⟩, 0, 3)) := Lib.hid (by simp only [gotF]; rw [if_neg (by omega), if_pos c4])
    clear c1 c2 c3
    go_enter Try.func32, Try.ntmps32
    go_wp2
    exact bodyPost_ret (v := gotV (⟨#[]⟩, 0, 3)) (by simp [results, Try.results32, go_sem, gotV]) rfl ⟨by rw [Hr.out], (Below.refl _ _).alloc (Nat.le_refl _) _⟩
  have Hr : Hid (gotF s a k = (s.extract a (a + k), (a : Int) + k, 0)) := Lib.hid (by simp only [gotF]; rw [if_neg (by omega), if_neg c4, show ((a : Int) + k).toNat = a + k by omega]; rfl)
  have hk : a + k ≤ s.size := by omega
  clear c1 c2 c3
  go_enter Try.func32, Try.ntmps32
  go_wp2
  exact bodyPost_ret (v := gotV (s.extract a (a + k), (a : Int) + k, 0)) (by simp [results, Try.results32, go_sem, gotV]) rfl ⟨by rw [Hr.out], (Below.refl _ _).alloc (Nat.le_refl _) _⟩

theorem bcell {W w1 : World} (hb : Below W.heap.size W w1) : (∀ b o, b < W.heap.size → w1.cell? ⟨b, o, none⟩ = W.cell? ⟨b, o, none⟩) ∧ (∀ b o, b < W.heap.size → w1.frozen? ⟨b, o, none⟩ = W.frozen? ⟨b, o, none⟩) :=
  ⟨fun b o h => hb.cell (p := ⟨b, o, none⟩) h, fun b o h => hb.frozen (p := ⟨b, o, none⟩) h⟩
set_option maxHeartbeats 400000 in
theorem number_bad (s : ByteArray) (at_ : Int) (k : Nat) (c : Int) (w : World) (hs : s.size ≤ 4611686018427387904) (h1 : -9223372036854775808 ≤ at_ ∧ at_ ≤ 9223372036854775807) (h2 : k ≤ 4) (hg : gotF s at_ k = (⟨#[]⟩, 0, c)) :
    Calls Try.prog 31 #[.string s, .int .i64 at_, .int .i64 k] w fun e w' => e = .returned (.tuple #[.int .i64 0, .int .i64 0, .int .i64 c]) ∧ Below w.heap.size w w' := by
  have Hg := Lib.hid hg; clear hg
  go_enter Try.func31, Try.ntmps31
  go_wp2_with (go_at_call 32; refine (bytes_any s at_ k _ hs h1 (by omega)).mono ?_; rintro e w1 ⟨rfl, hb⟩; rw [Hg.out]; simp only [gotV])
  go_quiet (fail)
  go_wp2
  go_ret3
  exact ⟨rfl, below_drewN (hb.alloc hb.size _) _⟩

set_option maxHeartbeats 1000000 in
theorem number_good (s x : ByteArray) (at_ tt : Int) (k : Nat) (w : World) (hs : s.size ≤ 4611686018427387904) (h1 : -9223372036854775808 ≤ at_ ∧ at_ ≤ 9223372036854775807) (h2 : k ≤ 4) (h0 : 0 < k) (hx : x.size = k) (hg : gotF s at_ k = (x, tt, 0)) :
    Calls Try.prog 31 #[.string s, .int .i64 at_, .int .i64 k] w fun e w' => e = .returned (.tuple #[.int .i64 (numOf (sgn x.data.toList) x.data.toList), (.int .i64 tt), .int .i64 0]) ∧ Below w.heap.size w w' := by
  have Hg := Lib.hid hg; clear hg
  have hx0 : 0 < x.size := by omega
  have hne : (x.toList == ([] : List UInt8)) = false := by
    rw [ByteArray.toList_eq]
    simp
    intro h
    have : x.data.size = 0 := by rw [h]; rfl
    have : x.size = 0 := this
    omega
  have Hx := Lib.hid hx
  obtain ⟨hx1, hx2⟩ : x.size ≤ k ∧ k ≤ x.size := by omega
  clear hx
  go_enter Try.func31, Try.ntmps31
  go_wp2_with (go_at_call 32; refine (bytes_any s at_ k _ hs h1 (by omega)).mono ?_; rintro e w1 ⟨rfl, hb⟩; rw [Hg.out]; simp only [gotV])
  have hsg : wrap64 (-wrap64 ((x[0].toNat : Int) / 128)) = sgn x.data.toList := by
    have hl : 0 < x.data.toList.length := by simpa using hx0
    have e0 := byte_at x 0 hx0
    generalize x[0] = b at e0 ⊢
    have hb := b.toNat_lt
    cases hc : x.data.toList with
    | nil => simp [hc] at hl
    | cons c r =>
      simp only [hc, List.getElem_cons_zero] at e0
      subst e0
      simp only [sgn]
      unfold wrap64
      split <;> omega
  rw [hsg]
  clear hsg hne
  go_loop [10, 11, 30] (fun n _ i => ∃ j : Nat, j ≤ k ∧ i = .int .i64 j ∧ n = .int .i64 (numOf (sgn x.data.toList) (x.data.toList.take j))) (fun _ _ i => k - (intOf i).toNat)
  case atStart => exact ⟨0, Nat.zero_le _, rfl, rfl⟩
  case round =>
    obtain ⟨j, hj, rfl, rfl⟩ := hrel
    by_cases hlt : j < k
    · have hjx : j < x.size := by omega
      have hjx2 : j < x.data.toList.length := by simpa using hjx
      have hbd : -16777216 ≤ numOf (sgn x.data.toList) (x.data.toList.take j) ∧ numOf (sgn x.data.toList) (x.data.toList.take j) ≤ 16777216 := by
        have h := numOf_bound (x.data.toList.take j) (sgn x.data.toList) 0 (by unfold sgn; split <;> simp; split <;> simp) (by unfold sgn; split <;> simp; split <;> simp)
        have hle : (x.data.toList.take j).length ≤ 3 := by simp; omega
        have hpow : (256 : Int) ^ (0 + (x.data.toList.take j).length) ≤ 256 ^ 3 := by
          have := Nat.pow_le_pow_right (n := 256) (by decide) (show 0 + (x.data.toList.take j).length ≤ 3 by omega)
          have h3 : ((256 ^ (0 + (x.data.toList.take j).length) : Nat) : Int) ≤ ((256 ^ 3 : Nat) : Int) := Int.ofNat_le.2 this
          rw [Int.natCast_pow, Int.natCast_pow] at h3
          exact h3
        generalize (256 : Int) ^ (0 + (x.data.toList.take j).length) = pw at h hpow
        have e3 : (256 : Int) ^ 3 = 16777216 := by decide
        omega
      have hstep : Hid (numOf (sgn x.data.toList) (x.data.toList.take (j + 1)) = numOf (sgn x.data.toList) (x.data.toList.take j) * 256 + (x[j].toNat : Int)) := Lib.hid (by
        rw [List.take_succ_eq_append_getElem hjx2, numOf_append]
        simp only [numOf, byte_at x j hjx])
      generalize numOf (sgn x.data.toList) (x.data.toList.take j) = N at hbd hstep ⊢
      have hbj := x[j].toNat_lt
      have hor := or_low N (x[j].toNat : Int) (by omega) (by omega) (by omega)
      go_wp2
      exact ⟨⟨j + 1, by omega, by go_num, by rw [hstep.out]⟩, by simp [intOf]; omega⟩
    · obtain rfl : j = k := by omega
      have hfull : Hid (x.data.toList.take j = x.data.toList) := Lib.hid (List.take_of_length_le (by simpa using hx1))
      go_wp2
      go_quiet (fail)
      go_wp2
      go_ret3
      exact ⟨by rw [hfull.out]; rfl, below_drewN (hb.alloc hb.size _) _⟩

theorem numF_bad {s : ByteArray} {at_ : Int} {k : Nat} (h : at_ < 0 ∨ (s.size : Int) < at_ ∨ (s.size : Int) - at_ < k) : ∃ c, gotF s at_ k = (⟨#[]⟩, 0, c) ∧ numF s at_ k = (0, 0, c) := by
  by_cases h1 : at_ < 0 ∨ (s.size : Int) < at_
  · exact ⟨1, by simp only [gotF]; rw [if_pos (by omega)], by simp only [numF]; rw [if_pos h1]⟩
  · exact ⟨3, by simp only [gotF]; rw [if_neg (by omega), if_pos (by omega)], by simp only [numF]; rw [if_neg h1, if_pos (by omega)]⟩
def numV (x : Int × Int × Int) : Value := .tuple #[.int .i64 x.1, .int .i64 x.2.1, .int .i64 x.2.2]
theorem number_any (s : ByteArray) (at_ : Int) (k : Nat) (w : World) (hs : s.size ≤ 4611686018427387904) (h1 : -9223372036854775808 ≤ at_ ∧ at_ ≤ 9223372036854775807) (h2 : k ≤ 4) (h0 : 0 < k) :
    Calls Try.prog 31 #[.string s, .int .i64 at_, .int .i64 k] w fun e w' => e = .returned (numV (numF s at_ k)) ∧ Below w.heap.size w w' := by
  by_cases h : at_ < 0 ∨ (s.size : Int) < at_ ∨ (s.size : Int) - at_ < k
  · obtain ⟨c, hg, hn⟩ := numF_bad h
    rw [hn]
    exact number_bad s at_ k c w hs h1 h2 hg
  · obtain ⟨a, rfl⟩ := Int.eq_ofNat_of_zero_le (show 0 ≤ at_ by omega)
    have hg : gotF s a k = (s.extract a (a + k), (a : Int) + k, 0) := by simp only [gotF]; rw [if_neg (by omega), if_neg (by omega), show ((a : Int) + k).toNat = a + k by omega]; rfl
    have hd : (s.extract a (a + k)).data.toList = (s.data.toList.drop a).take k := by
      simp [ByteArray.data_extract, Array.toList_extract, List.extract_eq_take_drop]
    have hn : numF s a k = (numOf (sgn (s.extract a (a + k)).data.toList) (s.extract a (a + k)).data.toList, (a : Int) + k, 0) := by
      simp only [numF]; rw [if_neg (by omega), if_neg (by omega), hd]; rfl
    rw [hn]
    exact number_good s _ a _ k w hs h1 h2 h0 (by simp [ByteArray.size_extract]; omega) hg

theorem Get32_any (s : ByteArray) (at_ : Int) (w : World) (hs : s.size ≤ 4611686018427387904) (h1 : -9223372036854775808 ≤ at_ ∧ at_ ≤ 9223372036854775807) :
    Calls Try.prog 28 #[.string s, .int .i64 at_] w fun e w' => e = .returned (numV (numF s at_ 4)) ∧ Below w.heap.size w w' := by
  go_enter Try.func28, Try.ntmps28
  go_wp2_with (go_at_call 31; refine (number_any s at_ 4 _ hs h1 (by decide) (by decide)).mono ?_; rintro e w1 ⟨rfl, hb⟩; simp only [numV])
  go_ret3
  exact ⟨rfl, hb⟩

theorem extract_list (s : ByteArray) (a b : Nat) : (s.extract a b).data.toList = (s.data.toList.drop a).take (b - a) := by
  simp [ByteArray.data_extract, Array.toList_extract, List.extract_eq_take_drop]
end Go.Proofs.Ytkaehhldloclhaa
