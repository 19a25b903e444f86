/- vers' law: what its small functions come to. -/
import Derived.Test.YtjmgookpmngmaacVe8
import Derived.Test.YtjmgookpmngmaacEqF
namespace Go.Proofs.Ytjmgookpmngmaac
open Go Go.RowKit Go.Maps

theorem str_eq {a b : ByteArray} (h : a = b) : (a.toList == b.toList) = true ∧ (a.toList != b.toList) = false := by subst h; simp
theorem str_ne {a b : ByteArray} (h : a ≠ b) : (a.toList == b.toList) = false ∧ (a.toList != b.toList) = true := by
  have : (a.toList == b.toList) = false := by rw [bytes_beq]; simpa using h
  exact ⟨this, by simp [bne, this]⟩

def fewB (l : List ByteArray) : Bool := decide (l.length ≤ 20) && l.all fun s => decide (s.size ≤ 100)
set_option maxHeartbeats 800000 in
theorem few_any {w : World} {A : Option Addr} {N cp : Nat} {l : List ByteArray} (hN : NamesI w A N l) (hn : N ≤ maxLen) (hz : ∀ s ∈ l, s.size ≤ maxLen) :
    Calls Try.prog 9 #[.slice A N cp] w fun e w' => e = .returned (.bool (fewB l)) ∧ w = w' := by
  have HN := Lib.hid hN
  have HZ := Lib.hid hz
  unfold maxLen at hn
  clear hN hz
  go_enter Try.func9, Try.ntmps9
  by_cases h20 : 20 < N
  · have hi : (20 : Int) < (N : Int) := by omega
    have Hf : Hid (fewB l = false) := Lib.hid (by have := HN.out.1; simp only [fewB, Bool.and_eq_false_iff]; exact .inl (by simp; omega))
    go_wp2
    go_ret
    exact ⟨by rw [Hf.out]; rfl, rfl⟩
  · have hi : ¬ (20 : Int) < (N : Int) := by omega
    go_wp2_with fail
    go_loop [3] (fun i => ∃ k : Nat, k ≤ N ∧ i = .int .i64 k ∧ Hid ((l.take k).all (fun s => decide (s.size ≤ 100)) = true)) (fun i => N - (intOf i).toNat)
    case atStart => exact ⟨0, Nat.zero_le _, rfl, Lib.hid rfl⟩
    case round =>
      obtain ⟨k, hk, rfl, hK⟩ := hrel
      by_cases hlt : k < N
      · obtain ⟨g, o, rfl, hadd, c0, hs, hmem⟩ := HN.out.cell (Touch.refl [] w) (by simp) hlt
        have hsz := HZ.out _ hmem
        generalize l.getD k ⟨#[]⟩ = s at *
        have Hs := Lib.hid hs
        have Hm := Lib.hid hmem
        unfold maxLen at hsz
        clear hs hmem
        by_cases h100 : 100 < s.size
        · have hi2 : (100 : Int) < (s.size : Int) := by omega
          have Hf : Hid (fewB l = false) := Lib.hid (by
            have : l.all (fun s => decide (s.size ≤ 100)) = false := List.all_eq_false.2 ⟨s, Hm.out, by simp; omega⟩
            simp [fewB, this])
          go_wp2
          go_ret
          exact ⟨by rw [Hf.out]; rfl, rfl⟩
        · have hi2 : ¬ (100 : Int) < (s.size : Int) := by omega
          go_wp2
          go_round
          case rel => exact ⟨k + 1, by omega, by go_num, Lib.hid (by rw [Hs.out, List.all_append, hK.out]; simp; omega)⟩
          case measure => simp [intOf]; omega
      · have hkN : k = N := by omega
        subst hkN
        have Hf : Hid (fewB l = true) := Lib.hid (by
          have h1 := HN.out.1
          have h2 := hK.out
          rw [show l.take k = l by rw [h1]; exact List.take_length] at h2
          simp only [fewB, h2, Bool.and_true, decide_eq_true_eq]; omega)
        go_wp2
        go_ret
        exact ⟨by rw [Hf.out]; rfl, rfl⟩

set_option maxHeartbeats 800000 in
theorem in_any {w : World} {A : Option Addr} {N cp : Nat} {l : List ByteArray} (hN : NamesI w A N l) (hn : N < 1000000) (s : ByteArray) :
    Calls Try.prog 34 #[.slice A N cp, .string s] w fun e w' => e = .returned (.bool (hasB l s)) ∧ w = w' := by
  have HN := Lib.hid hN
  clear hN
  go_enter Try.func34, Try.ntmps34
  go_wp2_with fail
  go_loop [5] (fun i => ∃ k : Nat, k ≤ N ∧ i = .int .i64 k ∧ Hid (hasB (l.take k) s = false)) (fun i => N - (intOf i).toNat)
  case atStart => exact ⟨0, Nat.zero_le _, rfl, Lib.hid rfl⟩
  case round =>
    obtain ⟨k, hk, rfl, hK⟩ := hrel
    by_cases hlt : k < N
    · obtain ⟨g, o, rfl, hadd, c0, hs, hmem⟩ := HN.out.cell (Touch.refl [] w) (by simp) hlt
      generalize l.getD k ⟨#[]⟩ = t at *
      have Hs := Lib.hid hs
      have Hm := Lib.hid hmem
      clear hs hmem
      by_cases e : t = s
      · obtain ⟨e1, e2⟩ := str_eq e
        have Hf : Hid (hasB l s = true) := Lib.hid (hasB_iff.2 (e ▸ Hm.out))
        clear e
        go_wp2
        go_ret
        exact ⟨by rw [Hf.out]; rfl, rfl⟩
      · obtain ⟨e1, e2⟩ := str_ne e
        have He := Lib.hid e
        clear e
        go_wp2
        go_round
        case rel => exact ⟨k + 1, by omega, by go_num, Lib.hid (by rw [Hs.out, hasB_append, hK.out, hasB_one]; simpa using He.out)⟩
        case measure => simp [intOf]; omega
    · have hkN : k = N := by omega
      subst hkN
      have Hf : Hid (hasB l s = false) := Lib.hid (by have := hK.out; rwa [show l.take k = l by rw [HN.out.1]; exact List.take_length] at this)
      go_wp2
      go_ret
      exact ⟨by rw [Hf.out]; rfl, rfl⟩

def meetsB (l m : List ByteArray) : Bool := l.any fun s => hasB m s
set_option maxHeartbeats 800000 in
theorem Meets_any {w : World} {A : Option Addr} {N cp : Nat} {l : List ByteArray} (hN : NamesI w A N l) (hn : N < 1000000) {A2 : Option Addr} {N2 cp2 : Nat} {l2 : List ByteArray} (hN2 : NamesI w A2 N2 l2) (hn2 : N2 < 1000000) :
    Calls Try.prog 14 #[.slice A N cp, .slice A2 N2 cp2] w fun e w' => e = .returned (.bool (meetsB l l2)) ∧ w = w' := by
  have HN := Lib.hid hN
  clear hN
  go_enter Try.func14, Try.ntmps14
  go_wp2_with fail
  go_loop [5] (fun i => ∃ k : Nat, k ≤ N ∧ i = .int .i64 k ∧ Hid (meetsB (l.take k) l2 = false)) (fun i => N - (intOf i).toNat)
  case atStart => exact ⟨0, Nat.zero_le _, rfl, Lib.hid rfl⟩
  case round =>
    obtain ⟨k, hk, rfl, hK⟩ := hrel
    by_cases hlt : k < N
    · obtain ⟨g, o, rfl, hadd, c0, hs, hmem⟩ := HN.out.cell (Touch.refl [] w) (by simp) hlt
      generalize l.getD k ⟨#[]⟩ = t at *
      have Hs := Lib.hid hs
      have Hm := Lib.hid hmem
      clear hs hmem
      go_wp2_with fail
      refine (in_any hN2 hn2 t).mono ?_
      rintro e w1 ⟨rfl, rfl⟩
      cases hb : hasB l2 t with
      | true =>
        have Hf : Hid (meetsB l l2 = true) := Lib.hid (List.any_eq_true.2 ⟨t, Hm.out, hb⟩)
        clear hb
        go_wp2
        go_ret
        exact ⟨by rw [Hf.out]; rfl, rfl⟩
      | false =>
        have He := Lib.hid hb
        clear hb
        go_wp2
        go_round
        case rel => exact ⟨k + 1, by omega, by go_num, Lib.hid (by rw [Hs.out]; unfold meetsB; rw [List.any_append]; have := hK.out; unfold meetsB at this; simp [this, He.out])⟩
        case measure => simp [intOf]; omega
    · have hkN : k = N := by omega
      subst hkN
      have Hf : Hid (meetsB l l2 = false) := Lib.hid (by have := hK.out; rwa [show l.take k = l by rw [HN.out.1]; exact List.take_length] at this)
      go_wp2
      go_ret
      exact ⟨by rw [Hf.out]; rfl, rfl⟩

theorem ints_ne {l l' : List Int} {j : Nat} (h : l.getD j 0 ≠ l'.getD j 0) : l ≠ l' := fun e => h (by rw [e])
theorem ints_eq {l l' : List Int} (hl : l.length = l'.length) (h : ∀ j, j < l.length → l.getD j 0 = l'.getD j 0) : l = l' := by
  refine List.ext_getElem hl fun j h1 h2 => ?_
  have := h j h1
  simpa [List.getD_eq_getElem?_getD, List.getElem?_eq_getElem h1, List.getElem?_eq_getElem h2] using this
theorem strs_ne {l l' : List ByteArray} {j : Nat} (h : l.getD j ⟨#[]⟩ ≠ l'.getD j ⟨#[]⟩) : l ≠ l' := fun e => h (by rw [e])
theorem strs_eq {l l' : List ByteArray} (hl : l.length = l'.length) (h : ∀ j, j < l.length → l.getD j ⟨#[]⟩ = l'.getD j ⟨#[]⟩) : l = l' := by
  refine List.ext_getElem hl fun j h1 h2 => ?_
  have := h j h1
  simpa [List.getD_eq_getElem?_getD, List.getElem?_eq_getElem h1, List.getElem?_eq_getElem h2] using this

set_option maxHeartbeats 800000 in
theorem Ints_any {w : World} {A : Option Addr} {n cp : Nat} {l : List Int} (h : NumsI w A n l) {A' : Option Addr} {n' cp' : Nat} {l' : List Int} (h' : NumsI w A' n' l') (hn : n < 1000000) :
    Calls Try.prog 20 #[.slice A n cp, .slice A' n' cp'] w fun e w' => e = .returned (.bool (decide (l = l'))) ∧ Touch [] w w' := by
  have H := Lib.hid h
  have H' := Lib.hid h'
  clear h h'
  go_enter Try.func20, Try.ntmps20
  by_cases hne : n = n'
  · have hz : ((n : Int) != (n' : Int)) = false := by simp [hne]
    have HE := Lib.hid hne
    clear hne
    go_wp2
    go_loopw [5] (fun i wr => ∃ j : Nat, j ≤ n ∧ i = .int .i64 j ∧ Hid (∀ q, q < j → l.getD q 0 = l'.getD q 0) ∧ Touch [] w wr) (fun i _ => n - (intOf i).toNat)
    case atStart => exact ⟨0, Nat.zero_le _, rfl, Lib.hid (fun q hq => absurd hq (by omega)), Touch.refl _ _⟩
    case round =>
      obtain ⟨j, hj, rfl, hq, hT⟩ := hrel
      by_cases hlt : j < n
      · obtain ⟨g, o, rfl, hadd, c1⟩ := H.out.cell hT (by simp) hlt
        obtain ⟨g', o', rfl, hadd', c2⟩ := H'.out.cell hT (by simp) (k := j) (by have := HE.out; omega)
        have hi1 : (j : Int) < (n' : Int) := by have := HE.out; omega
        generalize hx : l.getD j 0 = x at c1
        generalize hy : l'.getD j 0 = y at c2
        have Hx := Lib.hid hx; have Hy := Lib.hid hy
        clear hx hy
        by_cases hxy : x = y
        · have hb : (x != y) = false := by simp [hxy]
          go_wp2_with fail
          go_quiet (fail)
          go_wp2
          go_roundw
          case rel => exact ⟨j + 1, by omega, by go_num, Lib.hid (fun q hq' => by
            by_cases h : q < j
            · exact hq.out q h
            · have : q = j := by omega
              subst this
              rw [Hx.out, Hy.out, hxy]), hT.drewN _⟩
          case measure => simp [intOf]; omega
        · have hb : (x != y) = true := by simp [hxy]
          have Hn := Lib.hid (ints_ne (l := l) (l' := l') (j := j) (by rw [Hx.out, Hy.out]; exact hxy))
          go_wp2_with fail
          go_quiet (fail)
          go_wp2
          go_ret
          exact ⟨by rw [decide_eq_false Hn.out]; rfl, hT.drewN _⟩
      · have hjn : j = n := by omega
        subst hjn
        have He := Lib.hid (ints_eq (l := l) (l' := l') (by rw [← H.out.1, ← H'.out.1]; exact HE.out) (fun q hq' => hq.out q (by rw [H.out.1]; exact hq')))
        go_wp2
        go_ret
        exact ⟨by rw [decide_eq_true He.out]; rfl, hT⟩
  · have hz : ((n : Int) != (n' : Int)) = true := by simp; omega
    have Hn : Hid (l ≠ l') := Lib.hid (fun e => hne (by rw [H.out.1, H'.out.1, e]))
    go_wp2
    go_ret
    exact ⟨by rw [decide_eq_false Hn.out]; rfl, Touch.refl _ _⟩
set_option maxHeartbeats 800000 in
theorem Texts_any {w : World} {A : Option Addr} {n cp : Nat} {l : List ByteArray} (h : NamesI w A n l) {A' : Option Addr} {n' cp' : Nat} {l' : List ByteArray} (h' : NamesI w A' n' l') (hn : n < 1000000) :
    Calls Try.prog 24 #[.slice A n cp, .slice A' n' cp'] w fun e w' => e = .returned (.bool (decide (l = l'))) ∧ Touch [] w w' := by
  have H := Lib.hid h
  have H' := Lib.hid h'
  clear h h'
  go_enter Try.func24, Try.ntmps24
  by_cases hne : n = n'
  · have hz : ((n : Int) != (n' : Int)) = false := by simp [hne]
    have HE := Lib.hid hne
    clear hne
    go_wp2
    go_loopw [5] (fun i wr => ∃ j : Nat, j ≤ n ∧ i = .int .i64 j ∧ Hid (∀ q, q < j → l.getD q ⟨#[]⟩ = l'.getD q ⟨#[]⟩) ∧ Touch [] w wr) (fun i _ => n - (intOf i).toNat)
    case atStart => exact ⟨0, Nat.zero_le _, rfl, Lib.hid (fun q hq => absurd hq (by omega)), Touch.refl _ _⟩
    case round =>
      obtain ⟨j, hj, rfl, hq, hT⟩ := hrel
      by_cases hlt : j < n
      · obtain ⟨g, o, rfl, hadd, c1, _⟩ := H.out.cell hT (by simp) hlt
        obtain ⟨g', o', rfl, hadd', c2, _⟩ := H'.out.cell hT (by simp) (k := j) (by have := HE.out; omega)
        have hi1 : (j : Int) < (n' : Int) := by have := HE.out; omega
        generalize hx : l.getD j ⟨#[]⟩ = x at c1
        generalize hy : l'.getD j ⟨#[]⟩ = y at c2
        have Hx := Lib.hid hx; have Hy := Lib.hid hy
        clear hx hy
        by_cases hxy : x = y
        · obtain ⟨b1, b2⟩ := str_eq hxy
          go_wp2_with fail
          go_quiet (fail)
          go_wp2
          go_roundw
          case rel => exact ⟨j + 1, by omega, by go_num, Lib.hid (fun q hq' => by
            by_cases h : q < j
            · exact hq.out q h
            · have : q = j := by omega
              subst this
              rw [Hx.out, Hy.out, hxy]), hT.drewN _⟩
          case measure => simp [intOf]; omega
        · obtain ⟨b1, b2⟩ := str_ne hxy
          have Hn := Lib.hid (strs_ne (l := l) (l' := l') (j := j) (by rw [Hx.out, Hy.out]; exact hxy))
          go_wp2_with fail
          go_quiet (fail)
          go_wp2
          go_ret
          exact ⟨by rw [decide_eq_false Hn.out]; rfl, hT.drewN _⟩
      · have hjn : j = n := by omega
        subst hjn
        have He := Lib.hid (strs_eq (l := l) (l' := l') (by rw [← H.out.1, ← H'.out.1]; exact HE.out) (fun q hq' => hq.out q (by rw [H.out.1]; exact hq')))
        go_wp2
        go_ret
        exact ⟨by rw [decide_eq_true He.out]; rfl, hT⟩
  · have hz : ((n : Int) != (n' : Int)) = true := by simp; omega
    have Hn : Hid (l ≠ l') := Lib.hid (fun e => hne (by rw [H.out.1, H'.out.1, e]))
    go_wp2
    go_ret
    exact ⟨by rw [decide_eq_false Hn.out]; rfl, Touch.refl _ _⟩
end Go.Proofs.Ytjmgookpmngmaac
