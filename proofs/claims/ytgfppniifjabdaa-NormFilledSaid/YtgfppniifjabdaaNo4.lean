/- norm: a number's normal form, whole. -/
import Derived.Test.YtgfppniifjabdaaNo3
namespace Go.Proofs.Ytgfppniifjabdaa
open Go Go.RowKit Go.Proofs.YtgfppniifjabdaaW.PrintWords

theorem bl_inj {a b : ByteArray} (h : bl a = bl b) : a = b := by
  cases a; cases b
  simp only [bl] at h
  rw [Array.toList_inj.1 h]
theorem bl_of (l : List UInt8) : bl (⟨l.toArray⟩ : ByteArray) = l := by simp [bl]
theorem bl_tail (s : ByteArray) : bl (s.extract 1 s.size) = (bl s).drop 1 := by
  unfold bl
  simp only [ByteArray.data_extract, Array.toList_extract, List.extract]
  rw [List.take_of_length_le]
  rw [List.length_drop, Array.length_toList]
  exact Nat.le_refl _
theorem bl_init (s : ByteArray) : bl (s.extract 0 (s.size - 1)) = (bl s).dropLast := by
  unfold bl
  simp only [ByteArray.data_extract, Array.toList_extract, List.extract, List.drop_zero, Nat.sub_zero]
  rw [List.dropLast_eq_take, Array.length_toList]
  rfl
def big : Nat := 140737488351232
def R1 (s0 s : ByteArray) : Prop := 0 < s.size ∧ s.size ≤ 140737488351232 ∧ lead (bl s) = lead (bl s0)
def R2 (s0 s : ByteArray) : Prop := 0 < s.size ∧ s.size ≤ 140737488351232 ∧ (bl s).count 46 = 1 ∧ trail (bl s) = trail (bl s0)
theorem test1_true {l : List UInt8} (h : test1 l = true) : ∃ d r, l = 48 :: d :: r ∧ d ≠ 46 := by
  match l, h with
  | c :: d :: r, h =>
    have h : (c == 48 && d != 46) = true := h
    simp at h
    exact ⟨d, r, by rw [h.1], h.2⟩
theorem test1_false {l : List UInt8} (h : test1 l = false) : lead l = l := by
  match l, h with
  | [], _ => rfl
  | [_], _ => rfl
  | c :: d :: r, h =>
    have h : (c == 48 && d != 46) = false := h
    have hn : ¬ (c = 48 ∧ d ≠ 46) := by
      rintro ⟨rfl, hd⟩
      have : (d != 46) = true := bne_iff_ne.2 hd
      rw [this] at h
      cases h
    exact if_neg hn
theorem R1_step (s0 s : ByteArray) (h : R1 s0 s) (ht : test1 (bl s) = true) : R1 s0 (s.extract 1 s.size) ∧ (s.extract 1 s.size).size < s.size := by
  obtain ⟨h1, h2, h3⟩ := h
  obtain ⟨d, r, e, hd⟩ := test1_true ht
  have hl := bl_len s
  rw [e] at hl
  simp at hl
  have hz : (s.extract 1 s.size).size = s.size - 1 := by simp only [ByteArray.size_extract]; omega
  refine ⟨⟨by omega, by omega, ?_⟩, by omega⟩
  rw [bl_tail, ← h3, e]
  show lead (d :: r) = lead (48 :: d :: r)
  exact (if_pos ⟨rfl, hd⟩ : lead (48 :: d :: r) = lead (d :: r)).symm
theorem last_cat {l : List UInt8} {c : UInt8} (h : l.getLast? = some c) : l = l.dropLast ++ [c] := by
  have hne : l ≠ [] := by intro e; rw [e] at h; cases h
  have := List.dropLast_concat_getLast hne
  rw [List.getLast?_eq_some_getLast hne] at h
  rw [Option.some.inj h] at this
  exact this.symm
theorem R2_step (s0 s : ByteArray) (h : R2 s0 s) (ht : test2 (bl s) = true) : R2 s0 (s.extract 0 (s.size - 1)) ∧ (s.extract 0 (s.size - 1)).size < s.size := by
  obtain ⟨h1, h2, h3, h4⟩ := h
  unfold test2 at ht
  have hcat := last_cat (beq_iff_eq.1 ht)
  have hz : (s.extract 0 (s.size - 1)).size = s.size - 1 := by simp only [ByteArray.size_extract]; omega
  have hc : (bl s).dropLast.count 46 = 1 := by
    rw [hcat, List.count_append] at h3
    simpa using h3
  have hne : (bl s).dropLast ≠ [] := by intro e; rw [e] at hc; simp at hc
  have hlen : 0 < (bl s).dropLast.length := List.length_pos_iff.2 hne
  rw [List.length_dropLast, bl_len] at hlen
  refine ⟨⟨by omega, by omega, by rw [bl_init]; exact hc, ?_⟩, by omega⟩
  rw [bl_init, ← h4]
  conv => rhs; rw [hcat]
  unfold trail
  rw [List.reverse_append]
  show _ = (List.dropWhile (· == 48) (48 :: (bl s).dropLast.reverse)).reverse
  rw [List.dropWhile_cons, if_pos (by decide)]
theorem NumS.below {base gS : Nat} {w0 w w1 : World} {s : ByteArray} (h : NumS base gS w0 w s) (hb : Below w.heap.size w w1) : NumS base gS w0 w1 s :=
  ⟨blk_below h.c hb, h.bel.trans (hb.mono (Nat.le_of_lt (Nat.lt_of_le_of_lt h.h (blk_lt h.c)))), h.h⟩
set_option maxRecDepth 100000 in
set_option maxHeartbeats 4000000 in
theorem number_any (s : ByteArray) (hs : s.size ≤ 140737488351232) (h0 : 0 < s.size) (w : World) : Calls Try.prog 20 #[.string s] w fun e w' => e = .returned (.string ⟨(numL (bl s)).toArray⟩) ∧ Below w.heap.size w w' := by
  have hmf : ∀ (fn : Fn) (first cap : Array Value) (w : World), (Instr.makeFunc fn first cap).run Try.prog w = .ok (.func fn first cap) w := fun _ _ _ _ => rfl
  obtain ⟨w0, hw0⟩ : ∃ w0, w0 = w := ⟨_, rfl⟩
  obtain ⟨base, hbase⟩ : ∃ b, b = w.heap.size := ⟨_, rfl⟩
  obtain ⟨gS, hgS⟩ : ∃ g, g = w.heap.size := ⟨_, rfl⟩
  have N0 : NumS base gS w0 (w.alloc (.cells #[.string s] 9)) s := by
    subst hw0 hbase hgS
    exact ⟨blk_new _ _, below_alloc (Below.refl _ _) _, Nat.le_refl _⟩
  have HN0 := Lib.hid N0
  have HGS := Lib.hid hgS
  have HB := Lib.hid hbase
  have HW := Lib.hid hw0
  have HC1 := Lib.hid (fun w1 (h1 : NumS base gS w0 w1 s) => cut_any base gS w0 34 35 (R1 s) test1 (fun s => s.extract 1 s.size) (fun w s' h r => t2_any base gS w0 w s' r.2.1 h) (fun w s' h r _ => t3_any base gS w0 w s' r.1 h) (R1_step s) (fun _ => rfl) (fun _ => rfl) w1 s h1 ⟨h0, hs, rfl⟩)
  obtain ⟨res, hres⟩ : ∃ r : ByteArray, r = ⟨(numL (bl s)).toArray⟩ := ⟨_, rfl⟩
  rw [← hres]
  have HRES : Hid (bl res = numL (bl s)) := Lib.hid (by rw [hres, bl_of])
  clear N0 hgS hbase hw0 hs h0 hres
  go_enter Try.func20, Try.ntmps20
  repeat (first | go_values | go_skip | go_guarded | go_step | go_upon)
  rw [← HGS.out]
  generalize (w.alloc (.cells #[.string s] 9)) = W0 at *
  (go_at_call 33; refine (HC1.out _ HN0.out).mono ?_; rintro e w1 ⟨rfl, s1, h1, r1, e1⟩; have HN1 := Lib.hid h1; have HR1 := Lib.hid r1; have HE1 := Lib.hid e1; clear h1 r1 e1 HC1 HN0; dsimp only)
  have hc1 : w1.cell? ⟨gS, 0, none⟩ = some (.string s1) := (blk_cell HN1.out.c 0).trans rfl
  repeat (first | go_values | go_skip | go_guarded | go_step | go_upon)
  have HLE : Hid (bl s1 = lead (bl s)) := Lib.hid (by rw [← HR1.out.2.2]; exact (test1_false HE1.out).symm)
  have HSZ : Hid (s1.size ≤ 140737488351232) := Lib.hid HR1.out.2.1
  go_loopw [4] (fun n wr => ∃ k c : Nat, n = .int .i64 c ∧ wr = w1.iter s1 k ∧ Hid (c + ((bl s1).drop k).count 46 = (bl s1).count 46)) (fun _ wr => s1.size - wr.iterPos w1.heap.size)
  case atStart => exact ⟨0, 0, rfl, rfl, Lib.hid (by rw [List.drop_zero, Nat.zero_add])⟩
  case round =>
    obtain ⟨k, c, rfl, rfl, HC⟩ := hrel
    have hcb : (c : Int) ≤ 140737488351232 := by
      have a1 := HC.out
      have a2 : (bl s1).count 46 ≤ (bl s1).length := List.count_le_length
      have a3 := HSZ.out
      rw [bl_len] at a2
      omega
    by_cases hp : k < s1.size
    · have hstep := pt_step s1 k hp
      have HST : Hid (1 ≤ (Utf8.decode s1 k).2 ∧ ((bl s1).drop k).count 46 = (if (Utf8.decode s1 k).1 = 46 then 1 else 0) + ((bl s1).drop (k + (Utf8.decode s1 k).2)).count 46) := Lib.hid hstep
      have HP := Lib.hid hp
      clear hstep
      have hnx : ∀ ty, (Instr.next (.pointer (some ⟨w1.heap.size, 0, none⟩)) true ty).run Try.prog (w1.iter s1 k) = _ := fun ty => run_next_any w1 s1 k ty hp
      by_cases hr : (Utf8.decode s1 k).1 = 46
      · have hri : (((Utf8.decode s1 k).1 : Int) == 46) = true := by rw [hr]; rfl
        have HX : Hid (c + 1 + ((bl s1).drop (k + (Utf8.decode s1 k).2)).count 46 = (bl s1).count 46) := Lib.hid (by
          have a := HST.out.2
          rw [if_pos hr] at a
          have b := HC.out
          omega)
        clear hr
        generalize (Utf8.decode s1 k).1 = r at *
        repeat (first | go_values | go_skip | go_guarded | go_step | go_upon)
        go_roundw
        case rel => exact ⟨k + (Utf8.decode s1 k).2, c + 1, by go_num, rfl, HX⟩
        case measure => have := HST.out.1; have := HP.out; simp; omega
      · have hri : (((Utf8.decode s1 k).1 : Int) == 46) = false := by rw [beq_eq_false_iff_ne]; omega
        have HX : Hid (c + ((bl s1).drop (k + (Utf8.decode s1 k).2)).count 46 = (bl s1).count 46) := Lib.hid (by
          have a := HST.out.2
          rw [if_neg hr] at a
          have b := HC.out
          omega)
        clear hr
        generalize (Utf8.decode s1 k).1 = r at *
        repeat (first | go_values | go_skip | go_guarded | go_step | go_upon)
        go_roundw
        case rel => exact ⟨k + (Utf8.decode s1 k).2, c, by go_num, rfl, HX⟩
        case measure => have := HST.out.1; have := HP.out; simp; omega
    · have hnx : ∀ ty, (Instr.next (.pointer (some ⟨w1.heap.size, 0, none⟩)) true ty).run Try.prog (w1.iter s1 k) = _ := fun ty => run_next_end w1 s1 k ty hp
      have HCC : Hid (c = (bl s1).count 46) := Lib.hid (by
        rw [← HC.out, List.drop_of_length_le (by rw [bl_len]; omega)]
        simp)
      have HN2 : Hid (NumS base gS w0 (w1.iter s1 k) s1) := Lib.hid (HN1.out.below ((Below.refl _ _).alloc (Nat.le_refl _) _))
      have hc2 : (w1.iter s1 k).cell? ⟨gS, 0, none⟩ = some (.string s1) := (blk_cell HN2.out.c 0).trans rfl
      by_cases h1 : c = 1
      · have hci : ((c : Int) != 1) = false := by rw [h1]; rfl
        have HR2 : Hid (R2 s1 s1) := Lib.hid ⟨HR1.out.1, HR1.out.2.1, by rw [← HCC.out, h1], rfl⟩
        have HC2 := Lib.hid (fun w2 (h2 : NumS base gS w0 w2 s1) => cut_any base gS w0 37 36 (R2 s1) test2 (fun s => s.extract 0 (s.size - 1)) (fun w s' h r => t5_any base gS w0 w s' r.2.1 r.1 h) (fun w s' h r _ => t4_any base gS w0 w s' r.2.1 r.1 h) (R2_step s1) (fun _ => rfl) (fun _ => rfl) w2 s1 h2 HR2.out)
        have HNL : Hid (numL (bl s) = unpt (trail (bl s1))) := Lib.hid (by
          unfold numL
          rw [← HLE.out, if_pos (by rw [← HCC.out, h1])])
        clear h1
        repeat (first | go_values | go_skip | go_guarded | go_step | go_upon)
        (go_at_call 33; refine (HC2.out _ HN2.out).mono ?_; rintro e w3 ⟨rfl, s2, h2, r2, e2⟩; have HN3 := Lib.hid h2; have HR3 := Lib.hid r2; have HE3 := Lib.hid e2; clear h2 r2 e2; dsimp only)
        have hc3 : w3.cell? ⟨gS, 0, none⟩ = some (.string s2) := (blk_cell HN3.out.c 0).trans rfl
        have HTR : Hid (trail (bl s1) = bl s2) := Lib.hid (by
          rw [← HR3.out.2.2.2]
          refine trail_id _ (fun e => ?_)
          have := HE3.out
          unfold test2 at this
          rw [e] at this
          cases this)
        have hz : 0 < s2.size := HR3.out.1
        have hz1 : (1 : Int) ≤ (s2.size : Int) := by omega
        have hz2 : (s2.size : Int) ≤ 140737488351232 := by have := HR3.out.2.1; omega
        have p0 : (0 : Int) ≤ (s2.size : Int) - 1 := by omega
        have p1 : (s2.size : Int) - 1 < (s2.size : Int) := by omega
        have hlt : s2.size - 1 < s2.size := by omega
        have hx : ∀ h : ((s2.size : Int) - 1).toNat < s2.size, (((s2[((s2.size : Int) - 1).toNat]'h).toNat : Nat) : Int) = ((s2[s2.size - 1]'hlt).toNat : Int) := by
          intro h
          congr 3
          omega
        have hb := (s2[s2.size - 1]'hlt).toNat_lt
        have HLAST : Hid ((bl s2).getLast? = some (s2[s2.size - 1]'hlt)) := Lib.hid (by rw [List.getLast?_eq_getElem?, bl_len, bl_at s2 (s2.size - 1) hlt])
        by_cases hd : s2[s2.size - 1]'hlt = 46
        · have hdi : (((s2[s2.size - 1]'hlt).toNat : Int) == 46) = true := by rw [hd]; rfl
          have HFIN : Hid (res = s2.extract 0 (s2.size - 1)) := Lib.hid (bl_inj (by
            rw [HRES.out, HNL.out, HTR.out, bl_init]
            exact if_pos (by rw [HLAST.out, hd])))
          have HC4 := Lib.hid (t4_any base gS w0 w3 s2 HR3.out.2.1 HR3.out.1 HN3.out)
          clear hd
          repeat (first | go_values | go_skip | go_guarded | go_step | go_upon)
          (go_at_call 36; refine HC4.out.mono ?_; rintro e w4 ⟨rfl, h4⟩; have HN4 := Lib.hid h4; clear h4; dsimp only)
          have hc4 : w4.cell? ⟨gS, 0, none⟩ = some (.string (s2.extract 0 (s2.size - 1))) := (blk_cell HN4.out.c 0).trans rfl
          repeat (first | go_values | go_skip | go_guarded | go_step | go_upon)
          go_ret
          exact ⟨by rw [HFIN.out]; rfl, by have hbl := HN4.out.bel; rw [HB.out, HW.out] at hbl; exact hbl⟩
        · have hdi : (((s2[s2.size - 1]'hlt).toNat : Int) == 46) = false := by rw [u8q _ 46 46 rfl, beq_eq_false_iff_ne]; exact hd
          have HFIN : Hid (res = s2) := Lib.hid (bl_inj (by
            rw [HRES.out, HNL.out, HTR.out]
            exact if_neg (fun e => hd (Option.some.inj (HLAST.out.symm.trans e)))))
          clear hd
          repeat (first | go_values | go_skip | go_guarded | go_step | go_upon)
          go_ret
          exact ⟨by rw [HFIN.out]; rfl, by have hbl := HN3.out.bel; rw [HB.out, HW.out] at hbl; exact hbl⟩
      · have hci : ((c : Int) != 1) = true := by rw [bne_iff_ne]; omega
        have HFIN : Hid (res = s1) := Lib.hid (bl_inj (by
          rw [HRES.out]
          unfold numL
          rw [← HLE.out, if_neg (by rw [← HCC.out]; exact h1)]))
        clear h1
        repeat (first | go_values | go_skip | go_guarded | go_step | go_upon)
        go_ret
        exact ⟨by rw [HFIN.out]; rfl, by have hbl := HN2.out.bel; rw [HB.out, HW.out] at hbl; exact hbl⟩
end Go.Proofs.Ytgfppniifjabdaa
