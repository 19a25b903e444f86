-- Written by a program of this session's (wip/ext/run.py) over the kit's print, with contracts of its own.
import Derived.Test.YtmgcmheiabmajabPrx0
import Derived.Test.YtmgcmheiabmajabPrx2
namespace Go.Proofs.Ytmgcmheiabmajab.Pr
open Go Go.Proofs.Ytmgcmheiabmajab Go.RowKit Go.Proofs.YtmgcmheiabmajabW.PrintWords Go.Proofs.YtmgcmheiabmajabW.PrintLast Go.Proofs.YtmgcmheiabmajabW.PrintMore
attribute [local go_sem] max2_int min2_int max_two min_two max_three min_three max_four min_four   -- for this text's walks alone
set_option linter.unusedVariables false
set_option linter.unusedSimpArgs false


theorem wrap_in {i : Int} (h : -9223372036854775808 ≤ i) (h2 : i ≤ 9223372036854775807) : wrap64 i = i := by unfold wrap64; omega
theorem bt_nat (s : ByteArray) (i : Nat) (h : i < s.size) : bt s (i : Int) = ((s.data.toList[i]'(by simpa using h)).toNat : Int) := by
  have h' := bt_at s (i : Int) (by simpa using h)
  rw [← h']
  simp [ByteArray.getElem_eq_getElem_data]
def Plain (s : ByteArray) : Prop := s.size ≤ 100 ∧ ∀ b ∈ s.data.toList, b ≠ 10
/-- What can happen, as far as Make tells it. -/
def GoodOp (o : OpL) : Prop := 0 ≤ o.n ∧ o.n ≤ 1000 ∧
  ((o.kind = 1 ∧ o.s = ⟨#[100]⟩ ∧ o.r = ⟨#[114]⟩) ∨ (o.kind = 2 ∧ Plain o.s ∧ o.r = noS) ∨ (3 ≤ o.kind ∧ o.kind ≤ 7 ∧ o.s = noS ∧ o.r = noS) ∨ (o.kind = 8 ∧ o.n = 0 ∧ o.s = noS ∧ o.r = noS))
theorem cut_l (s : ByteArray) (hs : Plain s) : ∀ (d k i : Nat), i + d = s.size → d < k → script_cut.l0 k s 10 s.size i = some (s, ⟨#[]⟩, false) := by
  intro d
  induction d with
  | zero =>
    intro k i hi hk
    obtain ⟨k, rfl⟩ : ∃ m, k = m + 1 := ⟨k - 1, by omega⟩
    simp only [script_cut.l0]
    rw [if_neg (by omega)]
  | succ d ih =>
    intro k i hi hk
    obtain ⟨k, rfl⟩ : ∃ m, k = m + 1 := ⟨k - 1, by omega⟩
    have hlt : i < s.size := by omega
    have hb : ¬ bt s (i : Int) = 10 := by
      rw [bt_nat s i hlt]
      intro e
      refine hs.2 _ (List.getElem_mem (by simpa using hlt)) (UInt8.toNat_inj.1 ?_)
      exact Int.ofNat.inj e
    have hz := hs.1
    simp only [script_cut.l0]
    rw [if_pos (by omega), if_pos (by omega), if_pos (by omega), if_neg hb, wrap_in (by omega) (by omega)]
    exact ih k (i + 1) (by omega) (by omega)
theorem cut_no (s : ByteArray) (hs : Plain s) (k : Nat) (hk : 101 ≤ k) : script_cut.f k s 10 = some (s, ⟨#[]⟩, false) := by
  unfold script_cut.f
  exact cut_l s hs s.size k 0 (by omega) (by have := hs.1; omega)
theorem noS_list : noS.toList = [] := by rw [ByteArray.toList_eq]; rfl
theorem noS_beq : (noS.toList == ([] : List UInt8)) = true := by rw [noS_list]; rfl
theorem let_d : lettersF ⟨#[100]⟩ = true := by decide
theorem let_r : lettersF ⟨#[114]⟩ = true := by decide
theorem right_f (o : OpL) (h : GoodOp o) (k : Nat) (hk : 103 ≤ k) : script_Right.f k o.kind o.n o.s o.r = some true := by
  obtain ⟨k, rfl⟩ : ∃ m, k = m + 1 := ⟨k - 1, by omega⟩
  obtain ⟨h0, h1, hc⟩ := h
  have hkd : 1 ≤ o.kind ∧ o.kind ≤ 8 := by omega
  unfold script_Right.f
  rw [if_neg (by omega), if_neg (by omega), if_neg (by omega), decide_eq_false (by omega)]
  simp only [script_Right.j0]
  rw [if_neg (by simp)]
  rcases hc with ⟨e, e2, e3⟩ | ⟨e, e2, e3⟩ | ⟨e, e', e2, e3⟩ | ⟨e, e1, e2, e3⟩
  · rw [if_pos e, e2, e3]
    unfold script_letters.f
    rw [if_pos (by decide), if_pos (by decide), let_d, let_r]
    rfl
  · rw [if_neg (by omega), if_pos e, cut_no _ e2 k (by omega), Option.bind_some, if_neg (by simp), e3, noS_beq]
  · rw [if_neg (by omega), if_neg (by omega), if_neg (by omega), e2, e3, if_pos noS_list, noS_beq]
  · rw [if_neg (by omega), if_neg (by omega), if_pos e, if_pos e1, e2, e3, if_pos noS_list, noS_beq]
instance : DecidablePred GoodOp := fun o => by unfold GoodOp Plain; infer_instance
/-! ### what is made is good -/
theorem one_good (x c d : Int) (hc : 1 ≤ c ∧ c ≤ 20) (hd : 0 ≤ d ∧ d ≤ 1000) : GoodOp (oneM x c d).1 := by
  have hb := dr_bound x (n := 16) (by decide)
  have b1 := dr_bound (nx x) (n := c) hc.1
  have b3 := dr_bound (nx x) (n := 3) (by decide)
  have dgp : ∀ k, 0 ≤ k → k < 10 → ∀ b ∈ (dg k).data.toList, b ≠ 10 := fun k h0 h1 b hb => by
    simp [dg] at hb
    subst hb
    intro e
    have := congrArg UInt8.toNat e
    simp at this
    omega
  unfold oneM
  split
  · refine ⟨b1.1, by dsimp only; omega, .inr (.inl ⟨rfl, ⟨?_, ?_⟩, rfl⟩)⟩
    · dsimp only; unfold tabS; split <;> decide
    · dsimp only; unfold tabS; split <;> decide
  split
  · have c4 := dr_bound (nx (nx x)) (n := 4) (by decide)
    have c5 := dr_bound (nx (nx (nx x))) (n := 10) (by decide)
    refine ⟨b1.1, by dsimp only; omega, .inr (.inl ⟨rfl, ⟨?_, ?_⟩, rfl⟩)⟩
    · dsimp only
      simp only [ByteArray.size_append, dg_size]
      decide
    · intro b hb
      simp only [ByteArray.data_append, Array.toList_append, List.mem_append] at hb
      rcases hb with (((h | h) | h) | h) | h
      · revert b; decide
      · exact dgp _ c4.1 (by omega) b h
      · revert b; decide
      · exact dgp _ c5.1 (by omega) b h
      · revert b; decide
  split
  · have c4 := dr_bound (nx (nx x)) (n := 4) (by decide)
    refine ⟨b1.1, by dsimp only; omega, .inr (.inl ⟨rfl, ⟨?_, ?_⟩, rfl⟩)⟩
    · dsimp only
      simp only [ByteArray.size_append, dg_size]
      decide
    · intro b hb
      simp only [ByteArray.data_append, Array.toList_append, List.mem_append] at hb
      rcases hb with h | h
      · revert b; decide
      · exact dgp _ c4.1 (by omega) b h
  split
  · refine ⟨b1.1, by dsimp only; omega, .inr (.inl ⟨rfl, ⟨?_, ?_⟩, rfl⟩)⟩
    · dsimp only; unfold bndS; split <;> (try split) <;> decide
    · dsimp only; unfold bndS; split <;> (try split) <;> decide
  split
  · exact ⟨by dsimp only; omega, by dsimp only; omega, .inr (.inr (.inl ⟨by dsimp only; omega, by dsimp only; omega, rfl, rfl⟩))⟩
  split
  · exact ⟨by dsimp only; omega, by dsimp only; omega, .inr (.inr (.inl ⟨by dsimp only; omega, by dsimp only; omega, rfl, rfl⟩))⟩
  · have b8 := dr_bound (nx (nx x)) (n := c) hc.1
    unfold rareM
    split
    · exact ⟨by dsimp only; omega, by dsimp only; omega, .inr (.inr (.inl ⟨by dsimp only; omega, by dsimp only; omega, rfl, rfl⟩))⟩
    split
    · exact ⟨by dsimp only; omega, by dsimp only; omega, .inr (.inr (.inr ⟨rfl, rfl, rfl, rfl⟩))⟩
    split
    · exact ⟨b8.1, by dsimp only; omega, .inr (.inr (.inl ⟨by dsimp only; omega, by dsimp only; omega, rfl, rfl⟩))⟩
    · exact ⟨hd.1, hd.2, .inr (.inr (.inl ⟨by dsimp only; omega, by dsimp only; omega, rfl, rfl⟩))⟩
theorem steps_good (c x : Int) (hc : 1 ≤ c ∧ c ≤ 20) : ∀ n : Nat, n ≤ 1001 → ∀ o ∈ (stepsM c x n).1, GoodOp o
  | 0, _, o, h => by simp [stepsM] at h
  | n + 1, hn, o, h => by
    simp only [stepsM, List.mem_append, List.mem_singleton] at h
    rcases h with h | h
    · exact steps_good c x hc n (by omega) o h
    · rw [h]; exact one_good _ c n hc ⟨by omega, by omega⟩
theorem make_good (x c n : Int) : ∀ o ∈ makeM x c n, GoodOp o := by
  intro o h
  unfold makeM at h
  split at h
  · rename_i hc
    rcases List.mem_append.1 h with h | h
    · unfold connM at h
      obtain ⟨i, hi, rfl⟩ := List.mem_map.1 h
      have := List.mem_range.1 hi
      exact ⟨by dsimp only; omega, by dsimp only; omega, .inl ⟨rfl, rfl, rfl⟩⟩
    · exact steps_good c x ⟨hc.1, hc.2.1⟩ n.toNat (by omega) o h
  · simp at h
theorem make_len (x c n : Int) : (makeM x c n).length ≤ 1020 := by
  unfold makeM
  split
  · rename_i hc
    rw [List.length_append, connM_len, stepsM_len]
    omega
  · simp

theorem wordK_size (k : Nat) : (wordK k).size ≤ 7 := by
  unfold wordK wordsL
  match k with
  | 0 => decide
  | 1 => decide
  | 2 => decide
  | 3 => decide
  | 4 => decide
  | 5 => decide
  | 6 => decide
  | 7 => decide
  | 8 => decide
  | k + 9 => exact Nat.zero_le _
theorem good_nat {o : OpL} (h : GoodOp o) : ∃ kd n : Nat, o.kind = kd ∧ o.n = n ∧ 1 ≤ kd ∧ kd ≤ 8 ∧ n ≤ 1000 ∧ o.s.size ≤ 100 ∧ o.r.size ≤ 1 := by
  obtain ⟨h0, h1, hc⟩ := h
  refine ⟨o.kind.toNat, o.n.toNat, ?_⟩
  rcases hc with ⟨e, e2, e3⟩ | ⟨e, e2, e3⟩ | ⟨e, e', e2, e3⟩ | ⟨e, e1, e2, e3⟩
  · rw [e2, e3]; exact ⟨by omega, by omega, by omega, by omega, by omega, by decide, by decide⟩
  · rw [e3]; exact ⟨by omega, by omega, by omega, by omega, by omega, e2.1, by decide⟩
  · rw [e2, e3]; exact ⟨by omega, by omega, by omega, by omega, by omega, by decide, by decide⟩
  · rw [e2, e3]; exact ⟨by omega, by omega, by omega, by omega, by omega, by decide, by decide⟩
theorem line_size {o : OpL} (h : GoodOp o) : (lineM o).size ≤ 200 := by
  obtain ⟨kd, n, hk, hn, _, _, hn2, hs, hr⟩ := good_nat h
  have hw := wordK_size kd
  have hd := digB_few n hn2
  have e1 : (ByteArray.mk #[(32 : UInt8)]).size = 1 := rfl
  have e2 : (ByteArray.mk #[(10 : UInt8)]).size = 1 := rfl
  have e3 : (ByteArray.mk #[] : ByteArray).size = 0 := rfl
  unfold lineM
  rw [hk, hn, Int.toNat_natCast, Int.toNat_natCast]
  split
  · simp only [ByteArray.size_append]; omega
  split
  · simp only [ByteArray.size_append]; omega
  split
  · simp only [ByteArray.size_append]; omega
  · simp only [ByteArray.size_append]; omega
theorem showM_size : ∀ (l : List OpL), (∀ o ∈ l, GoodOp o) → ∀ k, k ≤ l.length → (showM (l.take k)).size ≤ 200 * k := by
  intro l hl k
  induction k with
  | zero => intro _; exact Nat.zero_le _
  | succ k ih =>
    intro hk
    have hlt : k < l.length := by omega
    rw [List.take_succ_eq_append_getElem hlt, showM_snoc, ByteArray.size_append]
    have := ih (by omega)
    have := line_size (hl _ (List.getElem_mem hlt))
    omega
/-- The row that Show reads. -/
def RdO (w : World) (A : Option Addr) (l : List OpL) : Prop := ∀ (k : Nat) (o : OpL), l[k]? = some o → ∃ ad, A = some ad ∧ w.cell? (ad.add (k * 4)) = some (.int .i64 o.kind) ∧ w.cell? ⟨(ad.add (k * 4)).block, (ad.add (k * 4)).off + 1, none⟩ = some (.int .i64 o.n) ∧ w.cell? ⟨(ad.add (k * 4)).block, (ad.add (k * 4)).off + 2, none⟩ = some (.string o.s) ∧ w.cell? ⟨(ad.add (k * 4)).block, (ad.add (k * 4)).off + 3, none⟩ = some (.string o.r)
theorem Right_good (o : OpL) (h : GoodOp o) (w : World) : Calls Try.prog 31 #[.agg #[.int .i64 o.kind, .int .i64 o.n, .string o.s, .string o.r]] w fun e w' => e = .returned (.bool true) ∧ Touch [] w w' :=
  (Pr.script_Right.calls 103 o.kind o.n o.s o.r true w (right_f o h 103 (Nat.le_refl _))).mono fun _ _ ⟨he, hb⟩ => ⟨he, Touch.of_below hb⟩
set_option maxRecDepth 100000 in
set_option maxHeartbeats 4000000 in
theorem Show_good {A : Option Addr} {cp : Nat} {l : List OpL} (w : World) (hr : RdO w A l) (hl : ∀ o ∈ l, GoodOp o) (hn : l.length ≤ 1020) (hcp : l.length ≤ cp) :
    Calls Try.prog 19 #[.slice A l.length cp] w fun e w' => e = .returned (.string (showM l)) ∧ Below w.heap.size w w' := by
  obtain ⟨n, hn'⟩ : ∃ n, n = l.length := ⟨_, rfl⟩
  rw [← hn'] at hn hcp ⊢
  have H := Lib.hid (And.intro hr (And.intro hl hn'))
  have hncp : (n : Int) ≤ cp := by omega
  clear hr hl hn'
  go_enter Try.func19, Try.ntmps19
  go_wp2_with fail
  go_loopw [3, 8] (fun s i wr => ∃ k : Nat, i = .int .i64 k ∧ k ≤ n ∧ s = .string (showM (l.take k)) ∧ Hid (Touch [] w wr)) (fun _ i _ => n - (intOf i).toNat)
  case atStart => exact ⟨0, rfl, Nat.zero_le _, by rfl, Lib.hid (Touch.refl _ _)⟩
  case round =>
    obtain ⟨k, rfl, hk, rfl, T⟩ := hrel
    by_cases hlt : k < n
    · have hlt' : (k : Int) < n := by omega
      have hk0 : (0 : Int) ≤ k := by omega
      have hll : k < l.length := by have := H.out.2.2; omega
      obtain ⟨o, ho⟩ : ∃ o, l[k]? = some o := ⟨l[k], List.getElem?_eq_getElem hll⟩
      have hg := H.out.2.1 o (List.mem_of_getElem? ho)
      obtain ⟨ad, rfl, a0, a1, a2, a3⟩ := H.out.1 k o ho
      have c0 := T.out.cell a0 (by simp)
      have c1 := T.out.cell a1 (by simp)
      have c2 := T.out.cell a2 (by simp)
      have c3 := T.out.cell a3 (by simp)
      have htk : Hid (showM (l.take (k + 1)) = showM (l.take k) ++ lineM o) := Lib.hid (by
        have e : l[k]'hll = o := by have h2 := List.getElem?_eq_getElem hll; rw [h2] at ho; simpa using ho
        rw [List.take_succ_eq_append_getElem hll, e, showM_snoc])
      have hsz : Hid ((showM (l.take k)).size ≤ 210000) := Lib.hid (by have := showM_size l H.out.2.1 k (by omega); omega)
      generalize showM (l.take k) = s at *
      have RI := Lib.hid (Right_good o hg)
      obtain ⟨kd, m, hkd, hm, hkd1, hkd8, hm1, hos, hor⟩ := good_nat hg
      have hwz := wordK_size kd
      have hdz := digB_few m hm1
      obtain ⟨okd, om, os, or'⟩ := o
      dsimp only at hkd hm hos hor RI c0 c1 c2 c3
      subst hkd hm
      have HG := Lib.hid hg
      have HB := Lib.hid (And.intro hkd1 (And.intro hkd8 (And.intro hm1 (And.intro hos (And.intro hor (And.intro hwz (And.intro hdz hlt)))))))
      have DEC := Lib.hid (decimal_any m hm1)
      clear a0 a1 a2 a3 ho hg hll hlt hkd1 hm1 hos hor hwz hdz
      go_upto_region 5 with fail
      have hb5 := heap_alloc_new wr (.cells #[.int .i64 (kd : Int), .int .i64 (m : Int), .string os, .string or'] 35)
      have T5 := Lib.hid (T.out.alloc (.cells #[.int .i64 (kd : Int), .int .i64 (m : Int), .string os, .string or'] 35))
      generalize (wr.alloc (.cells #[.int .i64 (kd : Int), .int .i64 (m : Int), .string os, .string or'] 35)) = W5 at *
      generalize wr.heap.size = g5 at *
      have x0 : W5.cell? ⟨g5, 0, none⟩ = some (.int .i64 kd) := by rw [cell_of hb5]; rfl
      have x1 : W5.cell? ⟨g5, 1, none⟩ = some (.int .i64 m) := by rw [cell_of hb5]; rfl
      have x2 : W5.cell? ⟨g5, 2, none⟩ = some (.string os) := by rw [cell_of hb5]; rfl
      have x3 : W5.cell? ⟨g5, 3, none⟩ = some (.string or') := by rw [cell_of hb5]; rfl
      clear hb5 c0 c1 c2 c3
      go_upto_region 7 with (go_at_call 31; refine (RI.out _).mono ?_; rintro e w6 ⟨rfl, t6⟩; have y0 := t6.cell x0 (by simp); have y1 := t6.cell x1 (by simp); have y2 := t6.cell x2 (by simp); have y3 := t6.cell x3 (by simp); have T6 := Lib.hid (T5.out.trans t6 (by simp)); clear t6 x0 x1 x2 x3)
      have d0 : w6.drew.cell? ⟨g5, 0, none⟩ = some (.int .i64 kd) := y0
      have d1 : w6.drew.cell? ⟨g5, 1, none⟩ = some (.int .i64 m) := y1
      have d2 : w6.drew.cell? ⟨g5, 2, none⟩ = some (.string os) := y2
      have d3 : w6.drew.cell? ⟨g5, 3, none⟩ = some (.string or') := y3
      have q0 : (0 : Int) ≤ kd := by omega
      have q1 : (kd : Int) < 9 := by omega
      have q2 : s.size + (wordK kd).size ≤ 9223372036854775807 := by have := hsz.out; have := HB.out; omega
      have hkd8' := hkd8
      clear hkd8
      go_region_with
        (first | (go_at_call 32; refine (words_any _).mono ?_; rintro e w7 ⟨rfl, t7, hw7⟩; have z0 := t7.cell d0 (by simp); have z1 := t7.cell d1 (by simp); have z2 := t7.cell d2 (by simp); have z3 := t7.cell d3 (by simp); have T7 := Lib.hid ((T6.out.drew).trans t7 (by simp)); have u0 : w7.cell? ⟨w6.heap.size, kd, none⟩ = some (.string (wordK kd)) := hw7 kd (by omega); clear t7 hw7))
      all_goals
        clear d0 d1 d2 d3 y0 y1 y2 y3 q2
        have hs1 : (s ++ wordK kd).size ≤ 210010 := by rw [ByteArray.size_append]; have := hsz.out; have := HB.out; omega
        have hline : ∀ t : ByteArray, lineM ⟨kd, m, os, or'⟩ = wordK kd ++ t ++ ⟨#[10]⟩ → showM (l.take (k + 1)) = (s ++ wordK kd) ++ t ++ ⟨#[10]⟩ := fun t ht => by rw [htk.out, ht, ByteArray.append_assoc, ByteArray.append_assoc, ByteArray.append_assoc]
        have HL := Lib.hid hline
        clear hline
        generalize s ++ wordK kd = s1 at *
        have hms := HB.out
        have LM : Hid (lineM ⟨kd, m, os, or'⟩ = wordK kd ++ (if (kd : Int) = 1 then ⟨#[32]⟩ ++ digB m ++ ⟨#[32]⟩ ++ os ++ ⟨#[32]⟩ ++ or' else if (kd : Int) = 2 then ⟨#[32]⟩ ++ digB m ++ ⟨#[32]⟩ ++ os else if (kd : Int) = 8 then ⟨#[]⟩ else ⟨#[32]⟩ ++ digB m) ++ ⟨#[10]⟩) := Lib.hid rfl
        generalize digB m = dm at *
        have b1 : 1 + dm.size ≤ 9223372036854775807 := by omega
        have b2 : 1 + dm.size + 1 ≤ 9223372036854775807 := by omega
        have b3 : 1 + dm.size + 1 + os.size ≤ 9223372036854775807 := by omega
        have b4 : 1 + dm.size + 1 + os.size + 1 ≤ 9223372036854775807 := by omega
        have b5 : 1 + dm.size + 1 + os.size + 1 + or'.size ≤ 9223372036854775807 := by omega
        have b6 : s1.size + (1 + dm.size + 1 + os.size + 1 + or'.size) ≤ 9223372036854775807 := by omega
        have b7 : s1.size + (1 + dm.size + 1 + os.size + 1 + or'.size) + 1 ≤ 9223372036854775807 := by omega
        have b8 : s1.size + (1 + dm.size + 1 + os.size) ≤ 9223372036854775807 := by omega
        have b9 : s1.size + (1 + dm.size + 1 + os.size) + 1 ≤ 9223372036854775807 := by omega
        have b10 : s1.size + (1 + dm.size) ≤ 9223372036854775807 := by omega
        have b11 : s1.size + (1 + dm.size) + 1 ≤ 9223372036854775807 := by omega
        have b12 : s1.size + 1 ≤ 9223372036854775807 := by omega
        clear hms hs1
        have hkk : kd = 1 ∨ kd = 2 ∨ kd = 8 ∨ (3 ≤ kd ∧ kd ≤ 7) := by have := HB.out; omega
        rcases hkk with hkk | hkk | hkk | ⟨hk3, hk7⟩
        · have HX := Lib.hid (HL.out _ (by rw [LM.out, if_pos (by omega)]))
          have e1 : ((kd : Int) == 1) = true := by rw [beq_iff_eq]; omega
          clear hkk LM HL
          go_upto_region 11 with fail
          have w1 := TW.cell z1
          have w2' := TW.cell z2
          have w3' := TW.cell z3
          refine wp_region_tw (by kernel_rfl) (by kernel_rfl) ?_
          repeat (go_big_quiet_step ((go_at_call 33; exact TW.call (DEC.out _))))
          refine wpQuiet_nil ?_
          rintro _ ⟨x, rfl⟩
          have TF := Lib.hid (T7.out.trans x.t (by simp))
          clear w1 w2' w3' z0 z1 z2 z3
          go_wp2_with fail
          go_roundw
          case rel => exact ⟨k + 1, by go_num, by have := HB.out; omega, by rw [HX.out], TF⟩
          case measure => have := HB.out; simp [intOf]; omega
        · have HX := Lib.hid (HL.out _ (by rw [LM.out, if_neg (by omega), if_pos (by omega)]))
          have e1 : ((kd : Int) == 1) = false := by rw [beq_eq_false_iff_ne]; omega
          have e2 : ((kd : Int) == 2) = true := by rw [beq_iff_eq]; omega
          clear hkk LM HL
          go_upto_region 13 with fail
          have w1 := TW.cell z1
          have w2' := TW.cell z2
          refine wp_region_tw (by kernel_rfl) (by kernel_rfl) ?_
          repeat (go_big_quiet_step ((go_at_call 33; exact TW.call (DEC.out _))))
          refine wpQuiet_nil ?_
          rintro _ ⟨x, rfl⟩
          have TF := Lib.hid (T7.out.trans x.t (by simp))
          clear w1 w2' z0 z1 z2 z3
          go_wp2_with fail
          go_roundw
          case rel => exact ⟨k + 1, by go_num, by have := HB.out; omega, by rw [HX.out], TF⟩
          case measure => have := HB.out; simp [intOf]; omega
        · have HX := Lib.hid (HL.out _ (by rw [LM.out, if_neg (by omega), if_neg (by omega), if_pos (by omega)]))
          have e1 : ((kd : Int) == 1) = false := by rw [beq_eq_false_iff_ne]; omega
          have e2 : ((kd : Int) == 2) = false := by rw [beq_eq_false_iff_ne]; omega
          have e8 : ((kd : Int) == 8) = true := by rw [beq_iff_eq]; omega
          clear hkk LM HL
          go_wp2_with fail
          go_roundw
          case rel => exact ⟨k + 1, by go_num, by have := HB.out; omega, by rw [HX.out, show (⟨#[]⟩ : ByteArray) = ByteArray.empty from rfl, ByteArray.append_empty], T7⟩
          case measure => have := HB.out; simp [intOf]; omega
        · have HX := Lib.hid (HL.out _ (by rw [LM.out, if_neg (by omega), if_neg (by omega), if_neg (by omega)]))
          have e1 : ((kd : Int) == 1) = false := by rw [beq_eq_false_iff_ne]; omega
          have e2 : ((kd : Int) == 2) = false := by rw [beq_eq_false_iff_ne]; omega
          have e8 : ((kd : Int) == 8) = false := by rw [beq_eq_false_iff_ne]; omega
          clear hk3 hk7 LM HL
          go_wp2_with (go_at_call 33; refine (DEC.out _).mono ?_; rintro e w8 ⟨rfl, t8⟩; have TF := Lib.hid (T7.out.trans t8 (by simp)); clear t8)
          go_roundw
          case rel => exact ⟨k + 1, by go_num, by have := HB.out; omega, by rw [HX.out], TF⟩
          case measure => have := HB.out; simp [intOf]; omega
    · have hkn : k = n := by omega
      have HF : Hid (showM (l.take k) = showM l) := Lib.hid (by rw [List.take_of_length_le (by have := H.out.2.2; omega)])
      clear hkn
      go_wp2_with fail
      go_ret
      exact ⟨by rw [← HF.out]; rfl, T.out.below (Nat.le_refl _) (by simp)⟩
/-! ### script_Show: function 19, by hand -/
def opOf (x : S35) : OpL := ⟨x.f0, x.f1, x.f2, x.f3⟩
def script_Show.f (l0 : List (S35)) : Option (ByteArray) := if (∀ o ∈ l0.map opOf, GoodOp o) ∧ l0.length ≤ 1020 then some (showM (l0.map opOf)) else none
theorem script_Show.calls (A0 : Option Addr) (c0 : Nat) (l0 : List (S35)) (r : ByteArray) (w : World) (hr0 : Kd.C k35 w A0 l0.length l0) (hc0 : l0.length ≤ c0) (h : script_Show.f l0 = some r) :
    Calls Try.prog 19 #[.slice A0 l0.length c0] w fun e w' => e = .returned (.string r) ∧ Below w.heap.size w w' := by
  unfold script_Show.f at h
  split at h
  · rename_i hc
    simp only [Option.some.injEq] at h
    subst h
    have hl : (l0.map opOf).length = l0.length := List.length_map ..
    have hs := Show_good (A := A0) (cp := c0) (l := l0.map opOf) w (fun k o ho => by
      rw [List.getElem?_map] at ho
      obtain ⟨x, hx, rfl⟩ := Option.map_eq_some_iff.1 ho
      have hk : k < l0.length := (List.getElem?_eq_some_iff.1 hx).1
      obtain ⟨ad, e, h0, h1, h2, h3⟩ := at_T35 hr0 (k : Int) (by omega) (by omega)
      have e2 : rd_T35 l0 (k : Int) = x := by
        unfold rd_T35
        rw [Int.toNat_natCast, List.getD_eq_getElem?_getD, hx]
        rfl
      rw [e2, Int.toNat_natCast] at h0 h1 h2 h3
      exact ⟨ad, e, h0, h1, h2, h3⟩) hc.1 (by rw [hl]; exact hc.2) (by rw [hl]; exact hc0)
    rw [hl] at hs
    exact hs
  · cases h

/-! ### load_Text: function 14 -/
def load_Text.f (a0 : Int) (a1 : Int) (a2 : Int) : Option (ByteArray) := (load_Make.f a0 a1 a2).bind fun t110 => ((script_Show.f t110).bind fun t113 => (some t113))
set_option maxHeartbeats 8000000 in
set_option maxRecDepth 100000 in
theorem load_Text.calls (a0 : Int) (a1 : Int) (a2 : Int) (r : ByteArray) (w : World) (h : load_Text.f a0 a1 a2 = some r) :
    Calls Try.prog 14 #[.int .u64 a0, .int .i64 a1, .int .i64 a2] w fun e w' => e = .returned (.string r) ∧ Below w.heap.size w w' := by
  have HB := Aside0.mk (Below.refl w.heap.size w)
  have H : ((load_Make.f a0 a1 a2).bind fun t110 => ((script_Show.f t110).bind fun t113 => (some t113))) = some r := h
  clear h
  replace H := Option.bind_eq_some_iff.mp H
  obtain ⟨t110, A40, H⟩ := H
  replace H : ((script_Show.f t110).bind fun t113 => (some t113)) = some r := H
  have A4 := Aside0.mk A40
  clear A40
  replace H := Option.bind_eq_some_iff.mp H
  obtain ⟨t113, A50, H⟩ := H
  replace H : (some t113) = some r := H
  have A5 := Aside0.mk A50
  clear A50
  obtain rfl := Option.some.inj H
  go_enter Try.func14, Try.ntmps14
  go_wp2_with (first | ((with_reducible refine gate_callee (f := 12) rfl ?_); refine goesL_ (some 10) rfl rfl Try.func12 (by kernel_rfl) rfl #[.int .u64 a0, .int .i64 a1, .int .i64 a2] rfl (by (try simp only [List.map_toArray, List.map_cons, List.map_nil]); first | done | rfl | (simp only [List.length_drop, List.length_take]; rfl)) ?_; (with_reducible refine (load_Make.calls a0 a1 a2 t110 _ A4.out).mono ?_); rintro e w6 ⟨v111, rfl, ho0, hb⟩; refine ⟨_, rfl, ?_⟩; have n0_ := Aside0.mk (Kd.R_lower ho0 (below_size (by repeat (first | (with_reducible first | exact HB.out | apply below_alloc | apply pw_below_drewN | apply below_drew1) | exact HB.out)))); have n1_ := Aside0.mk (below_step (by repeat (first | (with_reducible first | exact HB.out | apply below_alloc | apply pw_below_drewN | apply below_drew1) | exact HB.out)) hb); clear HB; have HO112 := n0_; have HB := n1_; clear n0_ n1_; (try clear hb); (try clear hb2); (try clear hk); (try clear hi); (try clear ho0); obtain ⟨Ao7, co7, eo7⟩ := Kd.R_slice HO112.out; subst eo7) | ((with_reducible refine gate_callee (f := 19) rfl ?_); refine goesL_ (some 11) rfl rfl Try.func19 (by kernel_rfl) rfl #[.slice Ao7 t110.length co7] rfl (by (try simp only [List.map_toArray, List.map_cons, List.map_nil]); first | done | rfl | (simp only [List.length_drop, List.length_take]; rfl)) ?_; (with_reducible refine (script_Show.calls _ _ t110 t113 _ ?side1 ?side2 A5.out).mono ?_); (case side1 => repeat (first | exact (Kd.R_reads' HO112.out).2.2 | (with_reducible refine Kd.C_alloc ?_ _) | (with_reducible refine Kd.C_drewN ?_ _) | (with_reducible refine Kd.C_drew ?_))); (case side2 => exact (Kd.R_reads' HO112.out).2.1); rintro e w8 ⟨rfl, hb⟩; refine ⟨_, rfl, ?_⟩; have n0_ := Aside0.mk (Kd.R_below (by (with_reducible repeat (first | apply Kd.R_alloc | apply Kd.R_drewN | apply Kd.R_drew)); exact HO112.out) hb); have n1_ := Aside0.mk (below_step (by repeat (first | (with_reducible first | exact HB.out | apply below_alloc | apply pw_below_drewN | apply below_drew1) | exact HB.out)) hb); clear HO112; clear HB; have HO112 := n0_; have HB := n1_; clear n0_ n1_; (try clear hb); (try clear hb2); (try clear hk); (try clear hi)))
  go_ret
  exact ⟨by first | rfl | (simp [errW_none, errW_some] <;> rfl) | (simp [*, errW_none, errW_some] <;> rfl), by repeat (first | (with_reducible first | exact HB.out | apply below_alloc | apply pw_below_drewN | apply below_drew1) | exact HB.out)⟩

/-! ### pontoonlaw30_known: function 6 -/
def pontoonlaw30_known.f (k : Nat)  : Option (Bool) := (load_Draw.f 0 10).bind fun bt114 => ((load_Draw.f 7 0).bind fun bt116 => ((load_Make.f 0 2 0).bind fun t118 => ((load_Next.f 0).bind fun t121 => (if t121 = 1442695040888963407 then (if bt114.1 = 5 then ((load_Next.f 0).bind fun t122 => (if bt114.2 = t122 then (if bt116.1 = 0 then (if bt116.2 = 7 then ((pontoonref27_Same.f k t118 (([(⟨1, 0, (⟨#[100]⟩ : ByteArray), (⟨#[114]⟩ : ByteArray)⟩ : S35), (⟨1, 1, (⟨#[100]⟩ : ByteArray), (⟨#[114]⟩ : ByteArray)⟩ : S35)] : List (S35)))).bind fun t126 => (if t126 = true then ((load_Make.f 0 0 5).bind fun t127 => (if (t127.length : Int) = 0 then ((load_Make.f 3 4 9).bind fun t130 => (if (t130.length : Int) = 13 then ((load_Text.f 0 1 0).bind fun t133 => (some (t133.toList == ([99, 111, 110, 110, 101, 99, 116, 32, 48, 32, 100, 32, 114, 10] : List UInt8)))) else (some false))) else (some false))) else (some false))) else (some false)) else (some false)) else (some false))) else (some false)) else (some false)))))
theorem pontoonlaw30_known.mono : ∀ k, LeO (pontoonlaw30_known.f k ) (pontoonlaw30_known.f (k + 1) ) := by
  intro  k
  unfold pontoonlaw30_known.f
  repeat' first
      | (with_reducible exact pontoonref27_Same.mono _ _ _)
      | (with_reducible exact LeO.refl _)
      | (with_reducible exact LeO.none _)
      | (with_reducible refine LeO.ite ?_ ?_)
      | (with_reducible refine LeO.bind ?_ (fun _ => ?_))
      | exact pontoonref27_Same.mono _ _ _
      | exact LeO.none _
      | refine LeO.ite ?_ ?_
      | refine LeO.bind ?_ (fun _ => ?_)
set_option maxHeartbeats 8000000 in
set_option maxRecDepth 100000 in
theorem pontoonlaw30_known.calls (k : Nat)  (r : Bool) (w : World) (h : pontoonlaw30_known.f k  = some r) :
    Calls Try.prog 6 #[] w fun e w' => e = .returned (.bool r) ∧ Below w.heap.size w w' := by
  have hu35 := Try.underlying35
  have HB := Aside0.mk (Below.refl w.heap.size w)
  have H : ((load_Draw.f 0 10).bind fun bt114 => ((load_Draw.f 7 0).bind fun bt116 => ((load_Make.f 0 2 0).bind fun t118 => ((load_Next.f 0).bind fun t121 => (if t121 = 1442695040888963407 then (if bt114.1 = 5 then ((load_Next.f 0).bind fun t122 => (if bt114.2 = t122 then (if bt116.1 = 0 then (if bt116.2 = 7 then ((pontoonref27_Same.f k t118 (([(⟨1, 0, (⟨#[100]⟩ : ByteArray), (⟨#[114]⟩ : ByteArray)⟩ : S35), (⟨1, 1, (⟨#[100]⟩ : ByteArray), (⟨#[114]⟩ : ByteArray)⟩ : S35)] : List (S35)))).bind fun t126 => (if t126 = true then ((load_Make.f 0 0 5).bind fun t127 => (if (t127.length : Int) = 0 then ((load_Make.f 3 4 9).bind fun t130 => (if (t130.length : Int) = 13 then ((load_Text.f 0 1 0).bind fun t133 => (some (t133.toList == ([99, 111, 110, 110, 101, 99, 116, 32, 48, 32, 100, 32, 114, 10] : List UInt8)))) else (some false))) else (some false))) else (some false))) else (some false)) else (some false)) else (some false))) else (some false)) else (some false)))))) = some r := h
  clear h
  replace H := Option.bind_eq_some_iff.mp H
  obtain ⟨⟨t114, t115⟩, A10, H⟩ := H
  replace H : ((load_Draw.f 7 0).bind fun bt116 => ((load_Make.f 0 2 0).bind fun t118 => ((load_Next.f 0).bind fun t121 => (if t121 = 1442695040888963407 then (if t114 = 5 then ((load_Next.f 0).bind fun t122 => (if t115 = t122 then (if bt116.1 = 0 then (if bt116.2 = 7 then ((pontoonref27_Same.f k t118 (([(⟨1, 0, (⟨#[100]⟩ : ByteArray), (⟨#[114]⟩ : ByteArray)⟩ : S35), (⟨1, 1, (⟨#[100]⟩ : ByteArray), (⟨#[114]⟩ : ByteArray)⟩ : S35)] : List (S35)))).bind fun t126 => (if t126 = true then ((load_Make.f 0 0 5).bind fun t127 => (if (t127.length : Int) = 0 then ((load_Make.f 3 4 9).bind fun t130 => (if (t130.length : Int) = 13 then ((load_Text.f 0 1 0).bind fun t133 => (some (t133.toList == ([99, 111, 110, 110, 101, 99, 116, 32, 48, 32, 100, 32, 114, 10] : List UInt8)))) else (some false))) else (some false))) else (some false))) else (some false)) else (some false)) else (some false))) else (some false)) else (some false))))) = some r := H
  have A1 := Aside0.mk A10
  clear A10
  replace H := Option.bind_eq_some_iff.mp H
  obtain ⟨⟨t116, t117⟩, A20, H⟩ := H
  replace H : ((load_Make.f 0 2 0).bind fun t118 => ((load_Next.f 0).bind fun t121 => (if t121 = 1442695040888963407 then (if t114 = 5 then ((load_Next.f 0).bind fun t122 => (if t115 = t122 then (if t116 = 0 then (if t117 = 7 then ((pontoonref27_Same.f k t118 (([(⟨1, 0, (⟨#[100]⟩ : ByteArray), (⟨#[114]⟩ : ByteArray)⟩ : S35), (⟨1, 1, (⟨#[100]⟩ : ByteArray), (⟨#[114]⟩ : ByteArray)⟩ : S35)] : List (S35)))).bind fun t126 => (if t126 = true then ((load_Make.f 0 0 5).bind fun t127 => (if (t127.length : Int) = 0 then ((load_Make.f 3 4 9).bind fun t130 => (if (t130.length : Int) = 13 then ((load_Text.f 0 1 0).bind fun t133 => (some (t133.toList == ([99, 111, 110, 110, 101, 99, 116, 32, 48, 32, 100, 32, 114, 10] : List UInt8)))) else (some false))) else (some false))) else (some false))) else (some false)) else (some false)) else (some false))) else (some false)) else (some false)))) = some r := H
  have A2 := Aside0.mk A20
  clear A20
  replace H := Option.bind_eq_some_iff.mp H
  obtain ⟨t118, A30, H⟩ := H
  replace H : ((load_Next.f 0).bind fun t121 => (if t121 = 1442695040888963407 then (if t114 = 5 then ((load_Next.f 0).bind fun t122 => (if t115 = t122 then (if t116 = 0 then (if t117 = 7 then ((pontoonref27_Same.f k t118 (([(⟨1, 0, (⟨#[100]⟩ : ByteArray), (⟨#[114]⟩ : ByteArray)⟩ : S35), (⟨1, 1, (⟨#[100]⟩ : ByteArray), (⟨#[114]⟩ : ByteArray)⟩ : S35)] : List (S35)))).bind fun t126 => (if t126 = true then ((load_Make.f 0 0 5).bind fun t127 => (if (t127.length : Int) = 0 then ((load_Make.f 3 4 9).bind fun t130 => (if (t130.length : Int) = 13 then ((load_Text.f 0 1 0).bind fun t133 => (some (t133.toList == ([99, 111, 110, 110, 101, 99, 116, 32, 48, 32, 100, 32, 114, 10] : List UInt8)))) else (some false))) else (some false))) else (some false))) else (some false)) else (some false)) else (some false))) else (some false)) else (some false))) = some r := H
  have A3 := Aside0.mk A30
  clear A30
  replace H := Option.bind_eq_some_iff.mp H
  obtain ⟨t121, A40, H⟩ := H
  replace H : (if t121 = 1442695040888963407 then (if t114 = 5 then ((load_Next.f 0).bind fun t122 => (if t115 = t122 then (if t116 = 0 then (if t117 = 7 then ((pontoonref27_Same.f k t118 (([(⟨1, 0, (⟨#[100]⟩ : ByteArray), (⟨#[114]⟩ : ByteArray)⟩ : S35), (⟨1, 1, (⟨#[100]⟩ : ByteArray), (⟨#[114]⟩ : ByteArray)⟩ : S35)] : List (S35)))).bind fun t126 => (if t126 = true then ((load_Make.f 0 0 5).bind fun t127 => (if (t127.length : Int) = 0 then ((load_Make.f 3 4 9).bind fun t130 => (if (t130.length : Int) = 13 then ((load_Text.f 0 1 0).bind fun t133 => (some (t133.toList == ([99, 111, 110, 110, 101, 99, 116, 32, 48, 32, 100, 32, 114, 10] : List UInt8)))) else (some false))) else (some false))) else (some false))) else (some false)) else (some false)) else (some false))) else (some false)) else (some false)) = some r := H
  have A4 := Aside0.mk A40
  clear A40
  by_cases c5 : t121 = 1442695040888963407
  · rw [if_pos c5] at H
    have c5b0 : (t121 == 1442695040888963407) = true := beq_iff_eq.mpr c5
    have c5b1 : (t121 != 1442695040888963407) = false := bne_eq_false_iff_eq.mpr c5
    clear c5
    by_cases c6 : t114 = 5
    · rw [if_pos c6] at H
      have c6b0 : (t114 == 5) = true := beq_iff_eq.mpr c6
      have c6b1 : (t114 != 5) = false := bne_eq_false_iff_eq.mpr c6
      clear c6
      replace H := Option.bind_eq_some_iff.mp H
      obtain ⟨t122, A70, H⟩ := H
      replace H : (if t115 = t122 then (if t116 = 0 then (if t117 = 7 then ((pontoonref27_Same.f k t118 (([(⟨1, 0, (⟨#[100]⟩ : ByteArray), (⟨#[114]⟩ : ByteArray)⟩ : S35), (⟨1, 1, (⟨#[100]⟩ : ByteArray), (⟨#[114]⟩ : ByteArray)⟩ : S35)] : List (S35)))).bind fun t126 => (if t126 = true then ((load_Make.f 0 0 5).bind fun t127 => (if (t127.length : Int) = 0 then ((load_Make.f 3 4 9).bind fun t130 => (if (t130.length : Int) = 13 then ((load_Text.f 0 1 0).bind fun t133 => (some (t133.toList == ([99, 111, 110, 110, 101, 99, 116, 32, 48, 32, 100, 32, 114, 10] : List UInt8)))) else (some false))) else (some false))) else (some false))) else (some false)) else (some false)) else (some false)) = some r := H
      have A7 := Aside0.mk A70
      clear A70
      by_cases c8 : t115 = t122
      · rw [if_pos c8] at H
        have c8b0 : (t115 == t122) = true := beq_iff_eq.mpr c8
        have c8b1 : (t115 != t122) = false := bne_eq_false_iff_eq.mpr c8
        clear c8
        by_cases c9 : t116 = 0
        · rw [if_pos c9] at H
          have c9b0 : (t116 == 0) = true := beq_iff_eq.mpr c9
          have c9b1 : (t116 != 0) = false := bne_eq_false_iff_eq.mpr c9
          clear c9
          by_cases c10 : t117 = 7
          · rw [if_pos c10] at H
            have c10b0 : (t117 == 7) = true := beq_iff_eq.mpr c10
            have c10b1 : (t117 != 7) = false := bne_eq_false_iff_eq.mpr c10
            clear c10
            obtain ⟨y123, hy123⟩ : ∃ y_ : List (S35), y_ = (([(⟨1, 0, (⟨#[100]⟩ : ByteArray), (⟨#[114]⟩ : ByteArray)⟩ : S35), (⟨1, 1, (⟨#[100]⟩ : ByteArray), (⟨#[114]⟩ : ByteArray)⟩ : S35)] : List (S35))) := ⟨_, rfl⟩
            replace H : ((pontoonref27_Same.f k t118 y123).bind fun t126 => (if t126 = true then ((load_Make.f 0 0 5).bind fun t127 => (if (t127.length : Int) = 0 then ((load_Make.f 3 4 9).bind fun t130 => (if (t130.length : Int) = 13 then ((load_Text.f 0 1 0).bind fun t133 => (some (t133.toList == ([99, 111, 110, 110, 101, 99, 116, 32, 48, 32, 100, 32, 114, 10] : List UInt8)))) else (some false))) else (some false))) else (some false))) = some r := by first | (rw [hy123]; with_reducible exact H) | (have H2_ := (Option.bind_some _ _).symm.trans H; rw [hy123]; with_reducible exact H2_) | (have H2_ := (Option.bind_some _ _).symm.trans H; with_reducible exact H2_) | with_reducible exact H | (rw [hy123]; exact H) | exact H
            have Ny123 := Aside0.mk hy123
            clear hy123
            replace H := Option.bind_eq_some_iff.mp H
            obtain ⟨t126, A110, H⟩ := H
            replace H : (if t126 = true then ((load_Make.f 0 0 5).bind fun t127 => (if (t127.length : Int) = 0 then ((load_Make.f 3 4 9).bind fun t130 => (if (t130.length : Int) = 13 then ((load_Text.f 0 1 0).bind fun t133 => (some (t133.toList == ([99, 111, 110, 110, 101, 99, 116, 32, 48, 32, 100, 32, 114, 10] : List UInt8)))) else (some false))) else (some false))) else (some false)) = some r := H
            have A11 := Aside0.mk A110
            clear A110
            by_cases c12 : t126 = true
            · subst c12
              have H1 : ((load_Make.f 0 0 5).bind fun t127 => (if (t127.length : Int) = 0 then ((load_Make.f 3 4 9).bind fun t130 => (if (t130.length : Int) = 13 then ((load_Text.f 0 1 0).bind fun t133 => (some (t133.toList == ([99, 111, 110, 110, 101, 99, 116, 32, 48, 32, 100, 32, 114, 10] : List UInt8)))) else (some false))) else (some false))) = some r := by rw [if_pos rfl] at H; exact H
              clear H
              have H := H1
              clear H1
              replace H := Option.bind_eq_some_iff.mp H
              obtain ⟨t127, A130, H⟩ := H
              replace H : (if (t127.length : Int) = 0 then ((load_Make.f 3 4 9).bind fun t130 => (if (t130.length : Int) = 13 then ((load_Text.f 0 1 0).bind fun t133 => (some (t133.toList == ([99, 111, 110, 110, 101, 99, 116, 32, 48, 32, 100, 32, 114, 10] : List UInt8)))) else (some false))) else (some false)) = some r := H
              have A13 := Aside0.mk A130
              clear A130
              by_cases c14 : (t127.length : Int) = 0
              · rw [if_pos c14] at H
                have c14b0 : ((t127.length : Int) == 0) = true := beq_iff_eq.mpr c14
                have c14b1 : ((t127.length : Int) != 0) = false := bne_eq_false_iff_eq.mpr c14
                clear c14
                replace H := Option.bind_eq_some_iff.mp H
                obtain ⟨t130, A150, H⟩ := H
                replace H : (if (t130.length : Int) = 13 then ((load_Text.f 0 1 0).bind fun t133 => (some (t133.toList == ([99, 111, 110, 110, 101, 99, 116, 32, 48, 32, 100, 32, 114, 10] : List UInt8)))) else (some false)) = some r := H
                have A15 := Aside0.mk A150
                clear A150
                by_cases c16 : (t130.length : Int) = 13
                · rw [if_pos c16] at H
                  have c16b0 : ((t130.length : Int) == 13) = true := beq_iff_eq.mpr c16
                  have c16b1 : ((t130.length : Int) != 13) = false := bne_eq_false_iff_eq.mpr c16
                  clear c16
                  replace H := Option.bind_eq_some_iff.mp H
                  obtain ⟨t133, A170, H⟩ := H
                  replace H : (some (t133.toList == ([99, 111, 110, 110, 101, 99, 116, 32, 48, 32, 100, 32, 114, 10] : List UInt8))) = some r := H
                  have A17 := Aside0.mk A170
                  clear A170
                  obtain rfl := Option.some.inj H
                  go_enter Try.func6, Try.ntmps6
                  go_wp2_with (first | ((with_reducible refine gate_callee (f := 7) rfl ?_); refine goesL_ (some 7) rfl rfl Try.func7 (by kernel_rfl) rfl #[.int .u64 0, .int .i64 10] rfl (by (try simp only [List.map_toArray, List.map_cons, List.map_nil]); first | done | rfl | (simp only [List.length_drop, List.length_take]; rfl)) ?_; (with_reducible refine (load_Draw.calls 0 10 t114 t115 _ A1.out).mono ?_); rintro e w' ⟨rfl, ⟨nd, rfl⟩⟩; refine ⟨_, rfl, ?_⟩) | ((with_reducible refine gate_callee (f := 7) rfl ?_); refine goesL_ (some 11) rfl rfl Try.func7 (by kernel_rfl) rfl #[.int .u64 7, .int .i64 0] rfl (by (try simp only [List.map_toArray, List.map_cons, List.map_nil]); first | done | rfl | (simp only [List.length_drop, List.length_take]; rfl)) ?_; (with_reducible refine (load_Draw.calls 7 0 t116 t117 _ A2.out).mono ?_); rintro e w' ⟨rfl, ⟨nd, rfl⟩⟩; refine ⟨_, rfl, ?_⟩) | ((with_reducible refine gate_callee (f := 12) rfl ?_); refine goesL_ (some 14) rfl rfl Try.func12 (by kernel_rfl) rfl #[.int .u64 0, .int .i64 2, .int .i64 0] rfl (by (try simp only [List.map_toArray, List.map_cons, List.map_nil]); first | done | rfl | (simp only [List.length_drop, List.length_take]; rfl)) ?_; (with_reducible refine (load_Make.calls 0 2 0 t118 _ A3.out).mono ?_); rintro e w18 ⟨v119, rfl, ho0, hb⟩; refine ⟨_, rfl, ?_⟩; have n0_ := Aside0.mk (Kd.R_lower ho0 (below_size (by repeat (first | (with_reducible first | exact HB.out | apply below_alloc | apply pw_below_drewN | apply below_drew1) | exact HB.out)))); have n1_ := Aside0.mk (below_step (by repeat (first | (with_reducible first | exact HB.out | apply below_alloc | apply pw_below_drewN | apply below_drew1) | exact HB.out)) hb); clear HB; have HO120 := n0_; have HB := n1_; clear n0_ n1_; (try clear hb); (try clear hb2); (try clear hk); (try clear hi); (try clear ho0)) | ((with_reducible refine gate_callee (f := 9) rfl ?_); refine goesL_ (some 15) rfl rfl Try.func9 (by kernel_rfl) rfl #[.int .u64 0] rfl (by (try simp only [List.map_toArray, List.map_cons, List.map_nil]); first | done | rfl | (simp only [List.length_drop, List.length_take]; rfl)) ?_; (with_reducible refine (load_Next.calls 0 t121 _ A4.out).mono ?_); rintro e w' ⟨rfl, ⟨nd, rfl⟩⟩; refine ⟨_, rfl, ?_⟩) | (go_at_call 9; (with_reducible refine (load_Next.calls 0 t122 _ A7.out).mono ?_); rintro e w' ⟨rfl, ⟨nd, rfl⟩⟩) | ((with_reducible refine gate_dst (N := 38) rfl ?_); (try (refine gate_guard (by rfl) ?_; dsimp only)); refine Kd.R_lit k35 _ 35 ?hg (N := 38) ?hd (xs := ([(⟨1, 0, (⟨#[100]⟩ : ByteArray), (⟨#[114]⟩ : ByteArray)⟩ : S35), (⟨1, 1, (⟨#[100]⟩ : ByteArray), (⟨#[114]⟩ : ByteArray)⟩ : S35)] : List (S35))) (inner := [.int .i64 1, .int .i64 0, .string (⟨#[100]⟩ : ByteArray), .string (⟨#[114]⟩ : ByteArray), .int .i64 1, .int .i64 1, .string (⟨#[100]⟩ : ByteArray), .string (⟨#[114]⟩ : ByteArray)]) (ok := fun _ => True) (okp := fun _ => True) ?hr ?hp (fun _ hk => hk) trivial (Below.refl _ _) (Nat.le_refl _) (by simp) ?_; (case hd => rfl); (case hg => rfl); (case hr => first | (go_simp; done) | (go_simp; rfl)); (case hp => exact (Reps.c4 (show Kd.M k35 _ _ _ (⟨1, 0, (⟨#[100]⟩ : ByteArray), (⟨#[114]⟩ : ByteArray)⟩ : S35) [.int .i64 1, .int .i64 0, .string (⟨#[100]⟩ : ByteArray), .string (⟨#[114]⟩ : ByteArray)] from (k35_mkM _ _ _ (⟨1, 0, (⟨#[100]⟩ : ByteArray), (⟨#[114]⟩ : ByteArray)⟩ : S35) )) (Reps.c4 (show Kd.M k35 _ _ _ (⟨1, 1, (⟨#[100]⟩ : ByteArray), (⟨#[114]⟩ : ByteArray)⟩ : S35) [.int .i64 1, .int .i64 1, .string (⟨#[100]⟩ : ByteArray), .string (⟨#[114]⟩ : ByteArray)] from (k35_mkM _ _ _ (⟨1, 1, (⟨#[100]⟩ : ByteArray), (⟨#[114]⟩ : ByteArray)⟩ : S35) )) (Reps.none _ _)))); intro v124 w19 ho20 hb hg_ hnew_; clear hg_ hnew_; (first | rw [← Ny123.out] at ho20 | (simp only [Int.reduceToNat] at ho20; rw [← Ny123.out] at ho20)); have n0_ := Aside0.mk (Kd.R_elder' (by (with_reducible repeat (first | apply Kd.R_alloc | apply Kd.R_drewN | apply Kd.R_drew)); exact HO120.out) (Kd.R_base ho20) hb); have n1_ := Aside0.mk (Kd.R_lower (Kd.R_new' ho20 (Kd.R_lt (by (with_reducible repeat (first | apply Kd.R_alloc | apply Kd.R_drewN | apply Kd.R_drew)); exact HO120.out))) (below_size (by repeat (first | (with_reducible first | exact HB.out | apply below_alloc | apply pw_below_drewN | apply below_drew1) | exact HB.out)))); have n2_ := Aside0.mk (below_step (by repeat (first | (with_reducible first | exact HB.out | apply below_alloc | apply pw_below_drewN | apply below_drew1) | exact HB.out)) hb); clear HO120; clear HB; have HO120 := n0_; have HO125 := n1_; have HB := n2_; clear n0_ n1_ n2_; clear hb ho20; obtain ⟨Ao21, co21, eo21⟩ := Kd.R_slice HO120.out; subst eo21; obtain ⟨Ao22, co22, eo22⟩ := Kd.R_slice HO125.out; subst eo22) | (go_at_call 11; (with_reducible refine (pontoonref27_Same.calls k _ _ t118 _ _ y123 true _ ?side1 ?side2 ?side3 ?side4 A11.out).mono ?_); (case side1 => repeat (first | exact (Kd.R_reads' HO120.out).2.2 | (with_reducible refine Kd.C_alloc ?_ _) | (with_reducible refine Kd.C_drewN ?_ _) | (with_reducible refine Kd.C_drew ?_))); (case side2 => exact (Kd.R_reads' HO120.out).2.1); (case side3 => repeat (first | exact (Kd.R_reads' HO125.out).2.2 | (with_reducible refine Kd.C_alloc ?_ _) | (with_reducible refine Kd.C_drewN ?_ _) | (with_reducible refine Kd.C_drew ?_))); (case side4 => exact (Kd.R_reads' HO125.out).2.1); rintro e w' ⟨rfl, ⟨nd, rfl⟩⟩) | (go_at_call 12; (with_reducible refine (load_Make.calls 0 0 5 t127 _ A13.out).mono ?_); rintro e w23 ⟨v128, rfl, ho0, hb⟩; have n0_ := Aside0.mk (Kd.R_elder' (by (with_reducible repeat (first | apply Kd.R_alloc | apply Kd.R_drewN | apply Kd.R_drew)); exact HO120.out) (Kd.R_base ho0) hb); have n1_ := Aside0.mk (Kd.R_elder' (by (with_reducible repeat (first | apply Kd.R_alloc | apply Kd.R_drewN | apply Kd.R_drew)); exact HO125.out) (Kd.R_base ho0) hb); have n2_ := Aside0.mk (Kd.R_lower (Kd.R_new' (Kd.R_new' ho0 (Kd.R_lt (by (with_reducible repeat (first | apply Kd.R_alloc | apply Kd.R_drewN | apply Kd.R_drew)); exact HO120.out))) (Kd.R_lt (by (with_reducible repeat (first | apply Kd.R_alloc | apply Kd.R_drewN | apply Kd.R_drew)); exact HO125.out))) (below_size (by repeat (first | (with_reducible first | exact HB.out | apply below_alloc | apply pw_below_drewN | apply below_drew1) | exact HB.out)))); have n3_ := Aside0.mk (below_step (by repeat (first | (with_reducible first | exact HB.out | apply below_alloc | apply pw_below_drewN | apply below_drew1) | exact HB.out)) hb); clear HO120; clear HO125; clear HB; have HO120 := n0_; have HO125 := n1_; have HO129 := n2_; have HB := n3_; clear n0_ n1_ n2_ n3_; (try clear hb); (try clear hb2); (try clear hk); (try clear hi); (try clear ho0); obtain ⟨Ao24, co24, eo24⟩ := Kd.R_slice HO129.out; subst eo24) | (go_at_call 12; (with_reducible refine (load_Make.calls 3 4 9 t130 _ A15.out).mono ?_); rintro e w25 ⟨v131, rfl, ho0, hb⟩; have n0_ := Aside0.mk (Kd.R_elder' (by (with_reducible repeat (first | apply Kd.R_alloc | apply Kd.R_drewN | apply Kd.R_drew)); exact HO120.out) (Kd.R_base ho0) hb); have n1_ := Aside0.mk (Kd.R_elder' (by (with_reducible repeat (first | apply Kd.R_alloc | apply Kd.R_drewN | apply Kd.R_drew)); exact HO125.out) (Kd.R_base ho0) hb); have n2_ := Aside0.mk (Kd.R_elder' (by (with_reducible repeat (first | apply Kd.R_alloc | apply Kd.R_drewN | apply Kd.R_drew)); exact HO129.out) (Kd.R_base ho0) hb); have n3_ := Aside0.mk (Kd.R_lower (Kd.R_new' (Kd.R_new' (Kd.R_new' ho0 (Kd.R_lt (by (with_reducible repeat (first | apply Kd.R_alloc | apply Kd.R_drewN | apply Kd.R_drew)); exact HO120.out))) (Kd.R_lt (by (with_reducible repeat (first | apply Kd.R_alloc | apply Kd.R_drewN | apply Kd.R_drew)); exact HO125.out))) (Kd.R_lt (by (with_reducible repeat (first | apply Kd.R_alloc | apply Kd.R_drewN | apply Kd.R_drew)); exact HO129.out))) (below_size (by repeat (first | (with_reducible first | exact HB.out | apply below_alloc | apply pw_below_drewN | apply below_drew1) | exact HB.out)))); have n4_ := Aside0.mk (below_step (by repeat (first | (with_reducible first | exact HB.out | apply below_alloc | apply pw_below_drewN | apply below_drew1) | exact HB.out)) hb); clear HO120; clear HO125; clear HO129; clear HB; have HO120 := n0_; have HO125 := n1_; have HO129 := n2_; have HO132 := n3_; have HB := n4_; clear n0_ n1_ n2_ n3_ n4_; (try clear hb); (try clear hb2); (try clear hk); (try clear hi); (try clear ho0); obtain ⟨Ao26, co26, eo26⟩ := Kd.R_slice HO132.out; subst eo26) | (go_at_call 14; (with_reducible refine (load_Text.calls 0 1 0 t133 _ A17.out).mono ?_); rintro e w27 ⟨rfl, hb⟩; have n0_ := Aside0.mk (Kd.R_below (by (with_reducible repeat (first | apply Kd.R_alloc | apply Kd.R_drewN | apply Kd.R_drew)); exact HO120.out) hb); have n1_ := Aside0.mk (Kd.R_below (by (with_reducible repeat (first | apply Kd.R_alloc | apply Kd.R_drewN | apply Kd.R_drew)); exact HO125.out) hb); have n2_ := Aside0.mk (Kd.R_below (by (with_reducible repeat (first | apply Kd.R_alloc | apply Kd.R_drewN | apply Kd.R_drew)); exact HO129.out) hb); have n3_ := Aside0.mk (Kd.R_below (by (with_reducible repeat (first | apply Kd.R_alloc | apply Kd.R_drewN | apply Kd.R_drew)); exact HO132.out) hb); have n4_ := Aside0.mk (below_step (by repeat (first | (with_reducible first | exact HB.out | apply below_alloc | apply pw_below_drewN | apply below_drew1) | exact HB.out)) hb); clear HO120; clear HO125; clear HO129; clear HO132; clear HB; have HO120 := n0_; have HO125 := n1_; have HO129 := n2_; have HO132 := n3_; have HB := n4_; clear n0_ n1_ n2_ n3_ n4_; (try clear hb); (try clear hb2); (try clear hk); (try clear hi)))
                  go_ret
                  exact ⟨by first | rfl | (simp [errW_none, errW_some] <;> rfl) | (simp [*, errW_none, errW_some] <;> rfl), by repeat (first | (with_reducible first | exact HB.out | apply below_alloc | apply pw_below_drewN | apply below_drew1) | exact HB.out)⟩
                · rw [if_neg c16] at H
                  have c16b0 : ((t130.length : Int) == 13) = false := beq_eq_false_iff_ne.mpr c16
                  have c16b1 : ((t130.length : Int) != 13) = true := bne_iff_ne.mpr c16
                  obtain rfl := Option.some.inj H
                  go_enter Try.func6, Try.ntmps6
                  go_wp2_with (first | ((with_reducible refine gate_callee (f := 7) rfl ?_); refine goesL_ (some 7) rfl rfl Try.func7 (by kernel_rfl) rfl #[.int .u64 0, .int .i64 10] rfl (by (try simp only [List.map_toArray, List.map_cons, List.map_nil]); first | done | rfl | (simp only [List.length_drop, List.length_take]; rfl)) ?_; (with_reducible refine (load_Draw.calls 0 10 t114 t115 _ A1.out).mono ?_); rintro e w' ⟨rfl, ⟨nd, rfl⟩⟩; refine ⟨_, rfl, ?_⟩) | ((with_reducible refine gate_callee (f := 7) rfl ?_); refine goesL_ (some 11) rfl rfl Try.func7 (by kernel_rfl) rfl #[.int .u64 7, .int .i64 0] rfl (by (try simp only [List.map_toArray, List.map_cons, List.map_nil]); first | done | rfl | (simp only [List.length_drop, List.length_take]; rfl)) ?_; (with_reducible refine (load_Draw.calls 7 0 t116 t117 _ A2.out).mono ?_); rintro e w' ⟨rfl, ⟨nd, rfl⟩⟩; refine ⟨_, rfl, ?_⟩) | ((with_reducible refine gate_callee (f := 12) rfl ?_); refine goesL_ (some 14) rfl rfl Try.func12 (by kernel_rfl) rfl #[.int .u64 0, .int .i64 2, .int .i64 0] rfl (by (try simp only [List.map_toArray, List.map_cons, List.map_nil]); first | done | rfl | (simp only [List.length_drop, List.length_take]; rfl)) ?_; (with_reducible refine (load_Make.calls 0 2 0 t118 _ A3.out).mono ?_); rintro e w28 ⟨v119, rfl, ho0, hb⟩; refine ⟨_, rfl, ?_⟩; have n0_ := Aside0.mk (Kd.R_lower ho0 (below_size (by repeat (first | (with_reducible first | exact HB.out | apply below_alloc | apply pw_below_drewN | apply below_drew1) | exact HB.out)))); have n1_ := Aside0.mk (below_step (by repeat (first | (with_reducible first | exact HB.out | apply below_alloc | apply pw_below_drewN | apply below_drew1) | exact HB.out)) hb); clear HB; have HO120 := n0_; have HB := n1_; clear n0_ n1_; (try clear hb); (try clear hb2); (try clear hk); (try clear hi); (try clear ho0)) | ((with_reducible refine gate_callee (f := 9) rfl ?_); refine goesL_ (some 15) rfl rfl Try.func9 (by kernel_rfl) rfl #[.int .u64 0] rfl (by (try simp only [List.map_toArray, List.map_cons, List.map_nil]); first | done | rfl | (simp only [List.length_drop, List.length_take]; rfl)) ?_; (with_reducible refine (load_Next.calls 0 t121 _ A4.out).mono ?_); rintro e w' ⟨rfl, ⟨nd, rfl⟩⟩; refine ⟨_, rfl, ?_⟩) | (go_at_call 9; (with_reducible refine (load_Next.calls 0 t122 _ A7.out).mono ?_); rintro e w' ⟨rfl, ⟨nd, rfl⟩⟩) | ((with_reducible refine gate_dst (N := 38) rfl ?_); (try (refine gate_guard (by rfl) ?_; dsimp only)); refine Kd.R_lit k35 _ 35 ?hg (N := 38) ?hd (xs := ([(⟨1, 0, (⟨#[100]⟩ : ByteArray), (⟨#[114]⟩ : ByteArray)⟩ : S35), (⟨1, 1, (⟨#[100]⟩ : ByteArray), (⟨#[114]⟩ : ByteArray)⟩ : S35)] : List (S35))) (inner := [.int .i64 1, .int .i64 0, .string (⟨#[100]⟩ : ByteArray), .string (⟨#[114]⟩ : ByteArray), .int .i64 1, .int .i64 1, .string (⟨#[100]⟩ : ByteArray), .string (⟨#[114]⟩ : ByteArray)]) (ok := fun _ => True) (okp := fun _ => True) ?hr ?hp (fun _ hk => hk) trivial (Below.refl _ _) (Nat.le_refl _) (by simp) ?_; (case hd => rfl); (case hg => rfl); (case hr => first | (go_simp; done) | (go_simp; rfl)); (case hp => exact (Reps.c4 (show Kd.M k35 _ _ _ (⟨1, 0, (⟨#[100]⟩ : ByteArray), (⟨#[114]⟩ : ByteArray)⟩ : S35) [.int .i64 1, .int .i64 0, .string (⟨#[100]⟩ : ByteArray), .string (⟨#[114]⟩ : ByteArray)] from (k35_mkM _ _ _ (⟨1, 0, (⟨#[100]⟩ : ByteArray), (⟨#[114]⟩ : ByteArray)⟩ : S35) )) (Reps.c4 (show Kd.M k35 _ _ _ (⟨1, 1, (⟨#[100]⟩ : ByteArray), (⟨#[114]⟩ : ByteArray)⟩ : S35) [.int .i64 1, .int .i64 1, .string (⟨#[100]⟩ : ByteArray), .string (⟨#[114]⟩ : ByteArray)] from (k35_mkM _ _ _ (⟨1, 1, (⟨#[100]⟩ : ByteArray), (⟨#[114]⟩ : ByteArray)⟩ : S35) )) (Reps.none _ _)))); intro v124 w29 ho30 hb hg_ hnew_; clear hg_ hnew_; (first | rw [← Ny123.out] at ho30 | (simp only [Int.reduceToNat] at ho30; rw [← Ny123.out] at ho30)); have n0_ := Aside0.mk (Kd.R_elder' (by (with_reducible repeat (first | apply Kd.R_alloc | apply Kd.R_drewN | apply Kd.R_drew)); exact HO120.out) (Kd.R_base ho30) hb); have n1_ := Aside0.mk (Kd.R_lower (Kd.R_new' ho30 (Kd.R_lt (by (with_reducible repeat (first | apply Kd.R_alloc | apply Kd.R_drewN | apply Kd.R_drew)); exact HO120.out))) (below_size (by repeat (first | (with_reducible first | exact HB.out | apply below_alloc | apply pw_below_drewN | apply below_drew1) | exact HB.out)))); have n2_ := Aside0.mk (below_step (by repeat (first | (with_reducible first | exact HB.out | apply below_alloc | apply pw_below_drewN | apply below_drew1) | exact HB.out)) hb); clear HO120; clear HB; have HO120 := n0_; have HO125 := n1_; have HB := n2_; clear n0_ n1_ n2_; clear hb ho30; obtain ⟨Ao31, co31, eo31⟩ := Kd.R_slice HO120.out; subst eo31; obtain ⟨Ao32, co32, eo32⟩ := Kd.R_slice HO125.out; subst eo32) | (go_at_call 11; (with_reducible refine (pontoonref27_Same.calls k _ _ t118 _ _ y123 true _ ?side1 ?side2 ?side3 ?side4 A11.out).mono ?_); (case side1 => repeat (first | exact (Kd.R_reads' HO120.out).2.2 | (with_reducible refine Kd.C_alloc ?_ _) | (with_reducible refine Kd.C_drewN ?_ _) | (with_reducible refine Kd.C_drew ?_))); (case side2 => exact (Kd.R_reads' HO120.out).2.1); (case side3 => repeat (first | exact (Kd.R_reads' HO125.out).2.2 | (with_reducible refine Kd.C_alloc ?_ _) | (with_reducible refine Kd.C_drewN ?_ _) | (with_reducible refine Kd.C_drew ?_))); (case side4 => exact (Kd.R_reads' HO125.out).2.1); rintro e w' ⟨rfl, ⟨nd, rfl⟩⟩) | (go_at_call 12; (with_reducible refine (load_Make.calls 0 0 5 t127 _ A13.out).mono ?_); rintro e w33 ⟨v128, rfl, ho0, hb⟩; have n0_ := Aside0.mk (Kd.R_elder' (by (with_reducible repeat (first | apply Kd.R_alloc | apply Kd.R_drewN | apply Kd.R_drew)); exact HO120.out) (Kd.R_base ho0) hb); have n1_ := Aside0.mk (Kd.R_elder' (by (with_reducible repeat (first | apply Kd.R_alloc | apply Kd.R_drewN | apply Kd.R_drew)); exact HO125.out) (Kd.R_base ho0) hb); have n2_ := Aside0.mk (Kd.R_lower (Kd.R_new' (Kd.R_new' ho0 (Kd.R_lt (by (with_reducible repeat (first | apply Kd.R_alloc | apply Kd.R_drewN | apply Kd.R_drew)); exact HO120.out))) (Kd.R_lt (by (with_reducible repeat (first | apply Kd.R_alloc | apply Kd.R_drewN | apply Kd.R_drew)); exact HO125.out))) (below_size (by repeat (first | (with_reducible first | exact HB.out | apply below_alloc | apply pw_below_drewN | apply below_drew1) | exact HB.out)))); have n3_ := Aside0.mk (below_step (by repeat (first | (with_reducible first | exact HB.out | apply below_alloc | apply pw_below_drewN | apply below_drew1) | exact HB.out)) hb); clear HO120; clear HO125; clear HB; have HO120 := n0_; have HO125 := n1_; have HO129 := n2_; have HB := n3_; clear n0_ n1_ n2_ n3_; (try clear hb); (try clear hb2); (try clear hk); (try clear hi); (try clear ho0); obtain ⟨Ao34, co34, eo34⟩ := Kd.R_slice HO129.out; subst eo34) | (go_at_call 12; (with_reducible refine (load_Make.calls 3 4 9 t130 _ A15.out).mono ?_); rintro e w35 ⟨v131, rfl, ho0, hb⟩; have n0_ := Aside0.mk (Kd.R_elder' (by (with_reducible repeat (first | apply Kd.R_alloc | apply Kd.R_drewN | apply Kd.R_drew)); exact HO120.out) (Kd.R_base ho0) hb); have n1_ := Aside0.mk (Kd.R_elder' (by (with_reducible repeat (first | apply Kd.R_alloc | apply Kd.R_drewN | apply Kd.R_drew)); exact HO125.out) (Kd.R_base ho0) hb); have n2_ := Aside0.mk (Kd.R_elder' (by (with_reducible repeat (first | apply Kd.R_alloc | apply Kd.R_drewN | apply Kd.R_drew)); exact HO129.out) (Kd.R_base ho0) hb); have n3_ := Aside0.mk (Kd.R_lower (Kd.R_new' (Kd.R_new' (Kd.R_new' ho0 (Kd.R_lt (by (with_reducible repeat (first | apply Kd.R_alloc | apply Kd.R_drewN | apply Kd.R_drew)); exact HO120.out))) (Kd.R_lt (by (with_reducible repeat (first | apply Kd.R_alloc | apply Kd.R_drewN | apply Kd.R_drew)); exact HO125.out))) (Kd.R_lt (by (with_reducible repeat (first | apply Kd.R_alloc | apply Kd.R_drewN | apply Kd.R_drew)); exact HO129.out))) (below_size (by repeat (first | (with_reducible first | exact HB.out | apply below_alloc | apply pw_below_drewN | apply below_drew1) | exact HB.out)))); have n4_ := Aside0.mk (below_step (by repeat (first | (with_reducible first | exact HB.out | apply below_alloc | apply pw_below_drewN | apply below_drew1) | exact HB.out)) hb); clear HO120; clear HO125; clear HO129; clear HB; have HO120 := n0_; have HO125 := n1_; have HO129 := n2_; have HO132 := n3_; have HB := n4_; clear n0_ n1_ n2_ n3_ n4_; (try clear hb); (try clear hb2); (try clear hk); (try clear hi); (try clear ho0); obtain ⟨Ao36, co36, eo36⟩ := Kd.R_slice HO132.out; subst eo36))
                  go_ret
                  exact ⟨by first | rfl | (simp [errW_none, errW_some] <;> rfl) | (simp [*, errW_none, errW_some] <;> rfl), by repeat (first | (with_reducible first | exact HB.out | apply below_alloc | apply pw_below_drewN | apply below_drew1) | exact HB.out)⟩
              · rw [if_neg c14] at H
                have c14b0 : ((t127.length : Int) == 0) = false := beq_eq_false_iff_ne.mpr c14
                have c14b1 : ((t127.length : Int) != 0) = true := bne_iff_ne.mpr c14
                have c14b2 : ¬ (t127 = []) := fun h_ => c14 (by rw [h_]; rfl)
                obtain rfl := Option.some.inj H
                go_enter Try.func6, Try.ntmps6
                go_wp2_with (first | ((with_reducible refine gate_callee (f := 7) rfl ?_); refine goesL_ (some 7) rfl rfl Try.func7 (by kernel_rfl) rfl #[.int .u64 0, .int .i64 10] rfl (by (try simp only [List.map_toArray, List.map_cons, List.map_nil]); first | done | rfl | (simp only [List.length_drop, List.length_take]; rfl)) ?_; (with_reducible refine (load_Draw.calls 0 10 t114 t115 _ A1.out).mono ?_); rintro e w' ⟨rfl, ⟨nd, rfl⟩⟩; refine ⟨_, rfl, ?_⟩) | ((with_reducible refine gate_callee (f := 7) rfl ?_); refine goesL_ (some 11) rfl rfl Try.func7 (by kernel_rfl) rfl #[.int .u64 7, .int .i64 0] rfl (by (try simp only [List.map_toArray, List.map_cons, List.map_nil]); first | done | rfl | (simp only [List.length_drop, List.length_take]; rfl)) ?_; (with_reducible refine (load_Draw.calls 7 0 t116 t117 _ A2.out).mono ?_); rintro e w' ⟨rfl, ⟨nd, rfl⟩⟩; refine ⟨_, rfl, ?_⟩) | ((with_reducible refine gate_callee (f := 12) rfl ?_); refine goesL_ (some 14) rfl rfl Try.func12 (by kernel_rfl) rfl #[.int .u64 0, .int .i64 2, .int .i64 0] rfl (by (try simp only [List.map_toArray, List.map_cons, List.map_nil]); first | done | rfl | (simp only [List.length_drop, List.length_take]; rfl)) ?_; (with_reducible refine (load_Make.calls 0 2 0 t118 _ A3.out).mono ?_); rintro e w37 ⟨v119, rfl, ho0, hb⟩; refine ⟨_, rfl, ?_⟩; have n0_ := Aside0.mk (Kd.R_lower ho0 (below_size (by repeat (first | (with_reducible first | exact HB.out | apply below_alloc | apply pw_below_drewN | apply below_drew1) | exact HB.out)))); have n1_ := Aside0.mk (below_step (by repeat (first | (with_reducible first | exact HB.out | apply below_alloc | apply pw_below_drewN | apply below_drew1) | exact HB.out)) hb); clear HB; have HO120 := n0_; have HB := n1_; clear n0_ n1_; (try clear hb); (try clear hb2); (try clear hk); (try clear hi); (try clear ho0)) | ((with_reducible refine gate_callee (f := 9) rfl ?_); refine goesL_ (some 15) rfl rfl Try.func9 (by kernel_rfl) rfl #[.int .u64 0] rfl (by (try simp only [List.map_toArray, List.map_cons, List.map_nil]); first | done | rfl | (simp only [List.length_drop, List.length_take]; rfl)) ?_; (with_reducible refine (load_Next.calls 0 t121 _ A4.out).mono ?_); rintro e w' ⟨rfl, ⟨nd, rfl⟩⟩; refine ⟨_, rfl, ?_⟩) | (go_at_call 9; (with_reducible refine (load_Next.calls 0 t122 _ A7.out).mono ?_); rintro e w' ⟨rfl, ⟨nd, rfl⟩⟩) | ((with_reducible refine gate_dst (N := 38) rfl ?_); (try (refine gate_guard (by rfl) ?_; dsimp only)); refine Kd.R_lit k35 _ 35 ?hg (N := 38) ?hd (xs := ([(⟨1, 0, (⟨#[100]⟩ : ByteArray), (⟨#[114]⟩ : ByteArray)⟩ : S35), (⟨1, 1, (⟨#[100]⟩ : ByteArray), (⟨#[114]⟩ : ByteArray)⟩ : S35)] : List (S35))) (inner := [.int .i64 1, .int .i64 0, .string (⟨#[100]⟩ : ByteArray), .string (⟨#[114]⟩ : ByteArray), .int .i64 1, .int .i64 1, .string (⟨#[100]⟩ : ByteArray), .string (⟨#[114]⟩ : ByteArray)]) (ok := fun _ => True) (okp := fun _ => True) ?hr ?hp (fun _ hk => hk) trivial (Below.refl _ _) (Nat.le_refl _) (by simp) ?_; (case hd => rfl); (case hg => rfl); (case hr => first | (go_simp; done) | (go_simp; rfl)); (case hp => exact (Reps.c4 (show Kd.M k35 _ _ _ (⟨1, 0, (⟨#[100]⟩ : ByteArray), (⟨#[114]⟩ : ByteArray)⟩ : S35) [.int .i64 1, .int .i64 0, .string (⟨#[100]⟩ : ByteArray), .string (⟨#[114]⟩ : ByteArray)] from (k35_mkM _ _ _ (⟨1, 0, (⟨#[100]⟩ : ByteArray), (⟨#[114]⟩ : ByteArray)⟩ : S35) )) (Reps.c4 (show Kd.M k35 _ _ _ (⟨1, 1, (⟨#[100]⟩ : ByteArray), (⟨#[114]⟩ : ByteArray)⟩ : S35) [.int .i64 1, .int .i64 1, .string (⟨#[100]⟩ : ByteArray), .string (⟨#[114]⟩ : ByteArray)] from (k35_mkM _ _ _ (⟨1, 1, (⟨#[100]⟩ : ByteArray), (⟨#[114]⟩ : ByteArray)⟩ : S35) )) (Reps.none _ _)))); intro v124 w38 ho39 hb hg_ hnew_; clear hg_ hnew_; (first | rw [← Ny123.out] at ho39 | (simp only [Int.reduceToNat] at ho39; rw [← Ny123.out] at ho39)); have n0_ := Aside0.mk (Kd.R_elder' (by (with_reducible repeat (first | apply Kd.R_alloc | apply Kd.R_drewN | apply Kd.R_drew)); exact HO120.out) (Kd.R_base ho39) hb); have n1_ := Aside0.mk (Kd.R_lower (Kd.R_new' ho39 (Kd.R_lt (by (with_reducible repeat (first | apply Kd.R_alloc | apply Kd.R_drewN | apply Kd.R_drew)); exact HO120.out))) (below_size (by repeat (first | (with_reducible first | exact HB.out | apply below_alloc | apply pw_below_drewN | apply below_drew1) | exact HB.out)))); have n2_ := Aside0.mk (below_step (by repeat (first | (with_reducible first | exact HB.out | apply below_alloc | apply pw_below_drewN | apply below_drew1) | exact HB.out)) hb); clear HO120; clear HB; have HO120 := n0_; have HO125 := n1_; have HB := n2_; clear n0_ n1_ n2_; clear hb ho39; obtain ⟨Ao40, co40, eo40⟩ := Kd.R_slice HO120.out; subst eo40; obtain ⟨Ao41, co41, eo41⟩ := Kd.R_slice HO125.out; subst eo41) | (go_at_call 11; (with_reducible refine (pontoonref27_Same.calls k _ _ t118 _ _ y123 true _ ?side1 ?side2 ?side3 ?side4 A11.out).mono ?_); (case side1 => repeat (first | exact (Kd.R_reads' HO120.out).2.2 | (with_reducible refine Kd.C_alloc ?_ _) | (with_reducible refine Kd.C_drewN ?_ _) | (with_reducible refine Kd.C_drew ?_))); (case side2 => exact (Kd.R_reads' HO120.out).2.1); (case side3 => repeat (first | exact (Kd.R_reads' HO125.out).2.2 | (with_reducible refine Kd.C_alloc ?_ _) | (with_reducible refine Kd.C_drewN ?_ _) | (with_reducible refine Kd.C_drew ?_))); (case side4 => exact (Kd.R_reads' HO125.out).2.1); rintro e w' ⟨rfl, ⟨nd, rfl⟩⟩) | (go_at_call 12; (with_reducible refine (load_Make.calls 0 0 5 t127 _ A13.out).mono ?_); rintro e w42 ⟨v128, rfl, ho0, hb⟩; have n0_ := Aside0.mk (Kd.R_elder' (by (with_reducible repeat (first | apply Kd.R_alloc | apply Kd.R_drewN | apply Kd.R_drew)); exact HO120.out) (Kd.R_base ho0) hb); have n1_ := Aside0.mk (Kd.R_elder' (by (with_reducible repeat (first | apply Kd.R_alloc | apply Kd.R_drewN | apply Kd.R_drew)); exact HO125.out) (Kd.R_base ho0) hb); have n2_ := Aside0.mk (Kd.R_lower (Kd.R_new' (Kd.R_new' ho0 (Kd.R_lt (by (with_reducible repeat (first | apply Kd.R_alloc | apply Kd.R_drewN | apply Kd.R_drew)); exact HO120.out))) (Kd.R_lt (by (with_reducible repeat (first | apply Kd.R_alloc | apply Kd.R_drewN | apply Kd.R_drew)); exact HO125.out))) (below_size (by repeat (first | (with_reducible first | exact HB.out | apply below_alloc | apply pw_below_drewN | apply below_drew1) | exact HB.out)))); have n3_ := Aside0.mk (below_step (by repeat (first | (with_reducible first | exact HB.out | apply below_alloc | apply pw_below_drewN | apply below_drew1) | exact HB.out)) hb); clear HO120; clear HO125; clear HB; have HO120 := n0_; have HO125 := n1_; have HO129 := n2_; have HB := n3_; clear n0_ n1_ n2_ n3_; (try clear hb); (try clear hb2); (try clear hk); (try clear hi); (try clear ho0); obtain ⟨Ao43, co43, eo43⟩ := Kd.R_slice HO129.out; subst eo43))
                go_ret
                exact ⟨by first | rfl | (simp [errW_none, errW_some] <;> rfl) | (simp [*, errW_none, errW_some] <;> rfl), by repeat (first | (with_reducible first | exact HB.out | apply below_alloc | apply pw_below_drewN | apply below_drew1) | exact HB.out)⟩
            · replace c12 := Bool.eq_false_iff.mpr c12
              subst c12
              have H1 : (some false) = some r := by rw [if_neg (show ¬ (false = true) by decide)] at H; exact H
              clear H
              have H := H1
              clear H1
              obtain rfl := Option.some.inj H
              go_enter Try.func6, Try.ntmps6
              go_wp2_with (first | ((with_reducible refine gate_callee (f := 7) rfl ?_); refine goesL_ (some 7) rfl rfl Try.func7 (by kernel_rfl) rfl #[.int .u64 0, .int .i64 10] rfl (by (try simp only [List.map_toArray, List.map_cons, List.map_nil]); first | done | rfl | (simp only [List.length_drop, List.length_take]; rfl)) ?_; (with_reducible refine (load_Draw.calls 0 10 t114 t115 _ A1.out).mono ?_); rintro e w' ⟨rfl, ⟨nd, rfl⟩⟩; refine ⟨_, rfl, ?_⟩) | ((with_reducible refine gate_callee (f := 7) rfl ?_); refine goesL_ (some 11) rfl rfl Try.func7 (by kernel_rfl) rfl #[.int .u64 7, .int .i64 0] rfl (by (try simp only [List.map_toArray, List.map_cons, List.map_nil]); first | done | rfl | (simp only [List.length_drop, List.length_take]; rfl)) ?_; (with_reducible refine (load_Draw.calls 7 0 t116 t117 _ A2.out).mono ?_); rintro e w' ⟨rfl, ⟨nd, rfl⟩⟩; refine ⟨_, rfl, ?_⟩) | ((with_reducible refine gate_callee (f := 12) rfl ?_); refine goesL_ (some 14) rfl rfl Try.func12 (by kernel_rfl) rfl #[.int .u64 0, .int .i64 2, .int .i64 0] rfl (by (try simp only [List.map_toArray, List.map_cons, List.map_nil]); first | done | rfl | (simp only [List.length_drop, List.length_take]; rfl)) ?_; (with_reducible refine (load_Make.calls 0 2 0 t118 _ A3.out).mono ?_); rintro e w44 ⟨v119, rfl, ho0, hb⟩; refine ⟨_, rfl, ?_⟩; have n0_ := Aside0.mk (Kd.R_lower ho0 (below_size (by repeat (first | (with_reducible first | exact HB.out | apply below_alloc | apply pw_below_drewN | apply below_drew1) | exact HB.out)))); have n1_ := Aside0.mk (below_step (by repeat (first | (with_reducible first | exact HB.out | apply below_alloc | apply pw_below_drewN | apply below_drew1) | exact HB.out)) hb); clear HB; have HO120 := n0_; have HB := n1_; clear n0_ n1_; (try clear hb); (try clear hb2); (try clear hk); (try clear hi); (try clear ho0)) | ((with_reducible refine gate_callee (f := 9) rfl ?_); refine goesL_ (some 15) rfl rfl Try.func9 (by kernel_rfl) rfl #[.int .u64 0] rfl (by (try simp only [List.map_toArray, List.map_cons, List.map_nil]); first | done | rfl | (simp only [List.length_drop, List.length_take]; rfl)) ?_; (with_reducible refine (load_Next.calls 0 t121 _ A4.out).mono ?_); rintro e w' ⟨rfl, ⟨nd, rfl⟩⟩; refine ⟨_, rfl, ?_⟩) | (go_at_call 9; (with_reducible refine (load_Next.calls 0 t122 _ A7.out).mono ?_); rintro e w' ⟨rfl, ⟨nd, rfl⟩⟩) | ((with_reducible refine gate_dst (N := 38) rfl ?_); (try (refine gate_guard (by rfl) ?_; dsimp only)); refine Kd.R_lit k35 _ 35 ?hg (N := 38) ?hd (xs := ([(⟨1, 0, (⟨#[100]⟩ : ByteArray), (⟨#[114]⟩ : ByteArray)⟩ : S35), (⟨1, 1, (⟨#[100]⟩ : ByteArray), (⟨#[114]⟩ : ByteArray)⟩ : S35)] : List (S35))) (inner := [.int .i64 1, .int .i64 0, .string (⟨#[100]⟩ : ByteArray), .string (⟨#[114]⟩ : ByteArray), .int .i64 1, .int .i64 1, .string (⟨#[100]⟩ : ByteArray), .string (⟨#[114]⟩ : ByteArray)]) (ok := fun _ => True) (okp := fun _ => True) ?hr ?hp (fun _ hk => hk) trivial (Below.refl _ _) (Nat.le_refl _) (by simp) ?_; (case hd => rfl); (case hg => rfl); (case hr => first | (go_simp; done) | (go_simp; rfl)); (case hp => exact (Reps.c4 (show Kd.M k35 _ _ _ (⟨1, 0, (⟨#[100]⟩ : ByteArray), (⟨#[114]⟩ : ByteArray)⟩ : S35) [.int .i64 1, .int .i64 0, .string (⟨#[100]⟩ : ByteArray), .string (⟨#[114]⟩ : ByteArray)] from (k35_mkM _ _ _ (⟨1, 0, (⟨#[100]⟩ : ByteArray), (⟨#[114]⟩ : ByteArray)⟩ : S35) )) (Reps.c4 (show Kd.M k35 _ _ _ (⟨1, 1, (⟨#[100]⟩ : ByteArray), (⟨#[114]⟩ : ByteArray)⟩ : S35) [.int .i64 1, .int .i64 1, .string (⟨#[100]⟩ : ByteArray), .string (⟨#[114]⟩ : ByteArray)] from (k35_mkM _ _ _ (⟨1, 1, (⟨#[100]⟩ : ByteArray), (⟨#[114]⟩ : ByteArray)⟩ : S35) )) (Reps.none _ _)))); intro v124 w45 ho46 hb hg_ hnew_; clear hg_ hnew_; (first | rw [← Ny123.out] at ho46 | (simp only [Int.reduceToNat] at ho46; rw [← Ny123.out] at ho46)); have n0_ := Aside0.mk (Kd.R_elder' (by (with_reducible repeat (first | apply Kd.R_alloc | apply Kd.R_drewN | apply Kd.R_drew)); exact HO120.out) (Kd.R_base ho46) hb); have n1_ := Aside0.mk (Kd.R_lower (Kd.R_new' ho46 (Kd.R_lt (by (with_reducible repeat (first | apply Kd.R_alloc | apply Kd.R_drewN | apply Kd.R_drew)); exact HO120.out))) (below_size (by repeat (first | (with_reducible first | exact HB.out | apply below_alloc | apply pw_below_drewN | apply below_drew1) | exact HB.out)))); have n2_ := Aside0.mk (below_step (by repeat (first | (with_reducible first | exact HB.out | apply below_alloc | apply pw_below_drewN | apply below_drew1) | exact HB.out)) hb); clear HO120; clear HB; have HO120 := n0_; have HO125 := n1_; have HB := n2_; clear n0_ n1_ n2_; clear hb ho46; obtain ⟨Ao47, co47, eo47⟩ := Kd.R_slice HO120.out; subst eo47; obtain ⟨Ao48, co48, eo48⟩ := Kd.R_slice HO125.out; subst eo48) | (go_at_call 11; (with_reducible refine (pontoonref27_Same.calls k _ _ t118 _ _ y123 false _ ?side1 ?side2 ?side3 ?side4 A11.out).mono ?_); (case side1 => repeat (first | exact (Kd.R_reads' HO120.out).2.2 | (with_reducible refine Kd.C_alloc ?_ _) | (with_reducible refine Kd.C_drewN ?_ _) | (with_reducible refine Kd.C_drew ?_))); (case side2 => exact (Kd.R_reads' HO120.out).2.1); (case side3 => repeat (first | exact (Kd.R_reads' HO125.out).2.2 | (with_reducible refine Kd.C_alloc ?_ _) | (with_reducible refine Kd.C_drewN ?_ _) | (with_reducible refine Kd.C_drew ?_))); (case side4 => exact (Kd.R_reads' HO125.out).2.1); rintro e w' ⟨rfl, ⟨nd, rfl⟩⟩))
              go_ret
              exact ⟨by first | rfl | (simp [errW_none, errW_some] <;> rfl) | (simp [*, errW_none, errW_some] <;> rfl), by repeat (first | (with_reducible first | exact HB.out | apply below_alloc | apply pw_below_drewN | apply below_drew1) | exact HB.out)⟩
          · rw [if_neg c10] at H
            have c10b0 : (t117 == 7) = false := beq_eq_false_iff_ne.mpr c10
            have c10b1 : (t117 != 7) = true := bne_iff_ne.mpr c10
            obtain rfl := Option.some.inj H
            go_enter Try.func6, Try.ntmps6
            go_wp2_with (first | ((with_reducible refine gate_callee (f := 7) rfl ?_); refine goesL_ (some 7) rfl rfl Try.func7 (by kernel_rfl) rfl #[.int .u64 0, .int .i64 10] rfl (by (try simp only [List.map_toArray, List.map_cons, List.map_nil]); first | done | rfl | (simp only [List.length_drop, List.length_take]; rfl)) ?_; (with_reducible refine (load_Draw.calls 0 10 t114 t115 _ A1.out).mono ?_); rintro e w' ⟨rfl, ⟨nd, rfl⟩⟩; refine ⟨_, rfl, ?_⟩) | ((with_reducible refine gate_callee (f := 7) rfl ?_); refine goesL_ (some 11) rfl rfl Try.func7 (by kernel_rfl) rfl #[.int .u64 7, .int .i64 0] rfl (by (try simp only [List.map_toArray, List.map_cons, List.map_nil]); first | done | rfl | (simp only [List.length_drop, List.length_take]; rfl)) ?_; (with_reducible refine (load_Draw.calls 7 0 t116 t117 _ A2.out).mono ?_); rintro e w' ⟨rfl, ⟨nd, rfl⟩⟩; refine ⟨_, rfl, ?_⟩) | ((with_reducible refine gate_callee (f := 12) rfl ?_); refine goesL_ (some 14) rfl rfl Try.func12 (by kernel_rfl) rfl #[.int .u64 0, .int .i64 2, .int .i64 0] rfl (by (try simp only [List.map_toArray, List.map_cons, List.map_nil]); first | done | rfl | (simp only [List.length_drop, List.length_take]; rfl)) ?_; (with_reducible refine (load_Make.calls 0 2 0 t118 _ A3.out).mono ?_); rintro e w49 ⟨v119, rfl, ho0, hb⟩; refine ⟨_, rfl, ?_⟩; have n0_ := Aside0.mk (Kd.R_lower ho0 (below_size (by repeat (first | (with_reducible first | exact HB.out | apply below_alloc | apply pw_below_drewN | apply below_drew1) | exact HB.out)))); have n1_ := Aside0.mk (below_step (by repeat (first | (with_reducible first | exact HB.out | apply below_alloc | apply pw_below_drewN | apply below_drew1) | exact HB.out)) hb); clear HB; have HO120 := n0_; have HB := n1_; clear n0_ n1_; (try clear hb); (try clear hb2); (try clear hk); (try clear hi); (try clear ho0)) | ((with_reducible refine gate_callee (f := 9) rfl ?_); refine goesL_ (some 15) rfl rfl Try.func9 (by kernel_rfl) rfl #[.int .u64 0] rfl (by (try simp only [List.map_toArray, List.map_cons, List.map_nil]); first | done | rfl | (simp only [List.length_drop, List.length_take]; rfl)) ?_; (with_reducible refine (load_Next.calls 0 t121 _ A4.out).mono ?_); rintro e w' ⟨rfl, ⟨nd, rfl⟩⟩; refine ⟨_, rfl, ?_⟩) | (go_at_call 9; (with_reducible refine (load_Next.calls 0 t122 _ A7.out).mono ?_); rintro e w' ⟨rfl, ⟨nd, rfl⟩⟩))
            go_ret
            exact ⟨by first | rfl | (simp [errW_none, errW_some] <;> rfl) | (simp [*, errW_none, errW_some] <;> rfl), by repeat (first | (with_reducible first | exact HB.out | apply below_alloc | apply pw_below_drewN | apply below_drew1) | exact HB.out)⟩
        · rw [if_neg c9] at H
          have c9b0 : (t116 == 0) = false := beq_eq_false_iff_ne.mpr c9
          have c9b1 : (t116 != 0) = true := bne_iff_ne.mpr c9
          obtain rfl := Option.some.inj H
          go_enter Try.func6, Try.ntmps6
          go_wp2_with (first | ((with_reducible refine gate_callee (f := 7) rfl ?_); refine goesL_ (some 7) rfl rfl Try.func7 (by kernel_rfl) rfl #[.int .u64 0, .int .i64 10] rfl (by (try simp only [List.map_toArray, List.map_cons, List.map_nil]); first | done | rfl | (simp only [List.length_drop, List.length_take]; rfl)) ?_; (with_reducible refine (load_Draw.calls 0 10 t114 t115 _ A1.out).mono ?_); rintro e w' ⟨rfl, ⟨nd, rfl⟩⟩; refine ⟨_, rfl, ?_⟩) | ((with_reducible refine gate_callee (f := 7) rfl ?_); refine goesL_ (some 11) rfl rfl Try.func7 (by kernel_rfl) rfl #[.int .u64 7, .int .i64 0] rfl (by (try simp only [List.map_toArray, List.map_cons, List.map_nil]); first | done | rfl | (simp only [List.length_drop, List.length_take]; rfl)) ?_; (with_reducible refine (load_Draw.calls 7 0 t116 t117 _ A2.out).mono ?_); rintro e w' ⟨rfl, ⟨nd, rfl⟩⟩; refine ⟨_, rfl, ?_⟩) | ((with_reducible refine gate_callee (f := 12) rfl ?_); refine goesL_ (some 14) rfl rfl Try.func12 (by kernel_rfl) rfl #[.int .u64 0, .int .i64 2, .int .i64 0] rfl (by (try simp only [List.map_toArray, List.map_cons, List.map_nil]); first | done | rfl | (simp only [List.length_drop, List.length_take]; rfl)) ?_; (with_reducible refine (load_Make.calls 0 2 0 t118 _ A3.out).mono ?_); rintro e w50 ⟨v119, rfl, ho0, hb⟩; refine ⟨_, rfl, ?_⟩; have n0_ := Aside0.mk (Kd.R_lower ho0 (below_size (by repeat (first | (with_reducible first | exact HB.out | apply below_alloc | apply pw_below_drewN | apply below_drew1) | exact HB.out)))); have n1_ := Aside0.mk (below_step (by repeat (first | (with_reducible first | exact HB.out | apply below_alloc | apply pw_below_drewN | apply below_drew1) | exact HB.out)) hb); clear HB; have HO120 := n0_; have HB := n1_; clear n0_ n1_; (try clear hb); (try clear hb2); (try clear hk); (try clear hi); (try clear ho0)) | ((with_reducible refine gate_callee (f := 9) rfl ?_); refine goesL_ (some 15) rfl rfl Try.func9 (by kernel_rfl) rfl #[.int .u64 0] rfl (by (try simp only [List.map_toArray, List.map_cons, List.map_nil]); first | done | rfl | (simp only [List.length_drop, List.length_take]; rfl)) ?_; (with_reducible refine (load_Next.calls 0 t121 _ A4.out).mono ?_); rintro e w' ⟨rfl, ⟨nd, rfl⟩⟩; refine ⟨_, rfl, ?_⟩) | (go_at_call 9; (with_reducible refine (load_Next.calls 0 t122 _ A7.out).mono ?_); rintro e w' ⟨rfl, ⟨nd, rfl⟩⟩))
          go_ret
          exact ⟨by first | rfl | (simp [errW_none, errW_some] <;> rfl) | (simp [*, errW_none, errW_some] <;> rfl), by repeat (first | (with_reducible first | exact HB.out | apply below_alloc | apply pw_below_drewN | apply below_drew1) | exact HB.out)⟩
      · rw [if_neg c8] at H
        have c8b0 : (t115 == t122) = false := beq_eq_false_iff_ne.mpr c8
        have c8b1 : (t115 != t122) = true := bne_iff_ne.mpr c8
        obtain rfl := Option.some.inj H
        go_enter Try.func6, Try.ntmps6
        go_wp2_with (first | ((with_reducible refine gate_callee (f := 7) rfl ?_); refine goesL_ (some 7) rfl rfl Try.func7 (by kernel_rfl) rfl #[.int .u64 0, .int .i64 10] rfl (by (try simp only [List.map_toArray, List.map_cons, List.map_nil]); first | done | rfl | (simp only [List.length_drop, List.length_take]; rfl)) ?_; (with_reducible refine (load_Draw.calls 0 10 t114 t115 _ A1.out).mono ?_); rintro e w' ⟨rfl, ⟨nd, rfl⟩⟩; refine ⟨_, rfl, ?_⟩) | ((with_reducible refine gate_callee (f := 7) rfl ?_); refine goesL_ (some 11) rfl rfl Try.func7 (by kernel_rfl) rfl #[.int .u64 7, .int .i64 0] rfl (by (try simp only [List.map_toArray, List.map_cons, List.map_nil]); first | done | rfl | (simp only [List.length_drop, List.length_take]; rfl)) ?_; (with_reducible refine (load_Draw.calls 7 0 t116 t117 _ A2.out).mono ?_); rintro e w' ⟨rfl, ⟨nd, rfl⟩⟩; refine ⟨_, rfl, ?_⟩) | ((with_reducible refine gate_callee (f := 12) rfl ?_); refine goesL_ (some 14) rfl rfl Try.func12 (by kernel_rfl) rfl #[.int .u64 0, .int .i64 2, .int .i64 0] rfl (by (try simp only [List.map_toArray, List.map_cons, List.map_nil]); first | done | rfl | (simp only [List.length_drop, List.length_take]; rfl)) ?_; (with_reducible refine (load_Make.calls 0 2 0 t118 _ A3.out).mono ?_); rintro e w51 ⟨v119, rfl, ho0, hb⟩; refine ⟨_, rfl, ?_⟩; have n0_ := Aside0.mk (Kd.R_lower ho0 (below_size (by repeat (first | (with_reducible first | exact HB.out | apply below_alloc | apply pw_below_drewN | apply below_drew1) | exact HB.out)))); have n1_ := Aside0.mk (below_step (by repeat (first | (with_reducible first | exact HB.out | apply below_alloc | apply pw_below_drewN | apply below_drew1) | exact HB.out)) hb); clear HB; have HO120 := n0_; have HB := n1_; clear n0_ n1_; (try clear hb); (try clear hb2); (try clear hk); (try clear hi); (try clear ho0)) | ((with_reducible refine gate_callee (f := 9) rfl ?_); refine goesL_ (some 15) rfl rfl Try.func9 (by kernel_rfl) rfl #[.int .u64 0] rfl (by (try simp only [List.map_toArray, List.map_cons, List.map_nil]); first | done | rfl | (simp only [List.length_drop, List.length_take]; rfl)) ?_; (with_reducible refine (load_Next.calls 0 t121 _ A4.out).mono ?_); rintro e w' ⟨rfl, ⟨nd, rfl⟩⟩; refine ⟨_, rfl, ?_⟩) | (go_at_call 9; (with_reducible refine (load_Next.calls 0 t122 _ A7.out).mono ?_); rintro e w' ⟨rfl, ⟨nd, rfl⟩⟩))
        go_ret
        exact ⟨by first | rfl | (simp [errW_none, errW_some] <;> rfl) | (simp [*, errW_none, errW_some] <;> rfl), by repeat (first | (with_reducible first | exact HB.out | apply below_alloc | apply pw_below_drewN | apply below_drew1) | exact HB.out)⟩
    · rw [if_neg c6] at H
      have c6b0 : (t114 == 5) = false := beq_eq_false_iff_ne.mpr c6
      have c6b1 : (t114 != 5) = true := bne_iff_ne.mpr c6
      obtain rfl := Option.some.inj H
      go_enter Try.func6, Try.ntmps6
      go_wp2_with (first | ((with_reducible refine gate_callee (f := 7) rfl ?_); refine goesL_ (some 7) rfl rfl Try.func7 (by kernel_rfl) rfl #[.int .u64 0, .int .i64 10] rfl (by (try simp only [List.map_toArray, List.map_cons, List.map_nil]); first | done | rfl | (simp only [List.length_drop, List.length_take]; rfl)) ?_; (with_reducible refine (load_Draw.calls 0 10 t114 t115 _ A1.out).mono ?_); rintro e w' ⟨rfl, ⟨nd, rfl⟩⟩; refine ⟨_, rfl, ?_⟩) | ((with_reducible refine gate_callee (f := 7) rfl ?_); refine goesL_ (some 11) rfl rfl Try.func7 (by kernel_rfl) rfl #[.int .u64 7, .int .i64 0] rfl (by (try simp only [List.map_toArray, List.map_cons, List.map_nil]); first | done | rfl | (simp only [List.length_drop, List.length_take]; rfl)) ?_; (with_reducible refine (load_Draw.calls 7 0 t116 t117 _ A2.out).mono ?_); rintro e w' ⟨rfl, ⟨nd, rfl⟩⟩; refine ⟨_, rfl, ?_⟩) | ((with_reducible refine gate_callee (f := 12) rfl ?_); refine goesL_ (some 14) rfl rfl Try.func12 (by kernel_rfl) rfl #[.int .u64 0, .int .i64 2, .int .i64 0] rfl (by (try simp only [List.map_toArray, List.map_cons, List.map_nil]); first | done | rfl | (simp only [List.length_drop, List.length_take]; rfl)) ?_; (with_reducible refine (load_Make.calls 0 2 0 t118 _ A3.out).mono ?_); rintro e w52 ⟨v119, rfl, ho0, hb⟩; refine ⟨_, rfl, ?_⟩; have n0_ := Aside0.mk (Kd.R_lower ho0 (below_size (by repeat (first | (with_reducible first | exact HB.out | apply below_alloc | apply pw_below_drewN | apply below_drew1) | exact HB.out)))); have n1_ := Aside0.mk (below_step (by repeat (first | (with_reducible first | exact HB.out | apply below_alloc | apply pw_below_drewN | apply below_drew1) | exact HB.out)) hb); clear HB; have HO120 := n0_; have HB := n1_; clear n0_ n1_; (try clear hb); (try clear hb2); (try clear hk); (try clear hi); (try clear ho0)) | ((with_reducible refine gate_callee (f := 9) rfl ?_); refine goesL_ (some 15) rfl rfl Try.func9 (by kernel_rfl) rfl #[.int .u64 0] rfl (by (try simp only [List.map_toArray, List.map_cons, List.map_nil]); first | done | rfl | (simp only [List.length_drop, List.length_take]; rfl)) ?_; (with_reducible refine (load_Next.calls 0 t121 _ A4.out).mono ?_); rintro e w' ⟨rfl, ⟨nd, rfl⟩⟩; refine ⟨_, rfl, ?_⟩))
      go_ret
      exact ⟨by first | rfl | (simp [errW_none, errW_some] <;> rfl) | (simp [*, errW_none, errW_some] <;> rfl), by repeat (first | (with_reducible first | exact HB.out | apply below_alloc | apply pw_below_drewN | apply below_drew1) | exact HB.out)⟩
  · rw [if_neg c5] at H
    have c5b0 : (t121 == 1442695040888963407) = false := beq_eq_false_iff_ne.mpr c5
    have c5b1 : (t121 != 1442695040888963407) = true := bne_iff_ne.mpr c5
    obtain rfl := Option.some.inj H
    go_enter Try.func6, Try.ntmps6
    go_wp2_with (first | ((with_reducible refine gate_callee (f := 7) rfl ?_); refine goesL_ (some 7) rfl rfl Try.func7 (by kernel_rfl) rfl #[.int .u64 0, .int .i64 10] rfl (by (try simp only [List.map_toArray, List.map_cons, List.map_nil]); first | done | rfl | (simp only [List.length_drop, List.length_take]; rfl)) ?_; (with_reducible refine (load_Draw.calls 0 10 t114 t115 _ A1.out).mono ?_); rintro e w' ⟨rfl, ⟨nd, rfl⟩⟩; refine ⟨_, rfl, ?_⟩) | ((with_reducible refine gate_callee (f := 7) rfl ?_); refine goesL_ (some 11) rfl rfl Try.func7 (by kernel_rfl) rfl #[.int .u64 7, .int .i64 0] rfl (by (try simp only [List.map_toArray, List.map_cons, List.map_nil]); first | done | rfl | (simp only [List.length_drop, List.length_take]; rfl)) ?_; (with_reducible refine (load_Draw.calls 7 0 t116 t117 _ A2.out).mono ?_); rintro e w' ⟨rfl, ⟨nd, rfl⟩⟩; refine ⟨_, rfl, ?_⟩) | ((with_reducible refine gate_callee (f := 12) rfl ?_); refine goesL_ (some 14) rfl rfl Try.func12 (by kernel_rfl) rfl #[.int .u64 0, .int .i64 2, .int .i64 0] rfl (by (try simp only [List.map_toArray, List.map_cons, List.map_nil]); first | done | rfl | (simp only [List.length_drop, List.length_take]; rfl)) ?_; (with_reducible refine (load_Make.calls 0 2 0 t118 _ A3.out).mono ?_); rintro e w53 ⟨v119, rfl, ho0, hb⟩; refine ⟨_, rfl, ?_⟩; have n0_ := Aside0.mk (Kd.R_lower ho0 (below_size (by repeat (first | (with_reducible first | exact HB.out | apply below_alloc | apply pw_below_drewN | apply below_drew1) | exact HB.out)))); have n1_ := Aside0.mk (below_step (by repeat (first | (with_reducible first | exact HB.out | apply below_alloc | apply pw_below_drewN | apply below_drew1) | exact HB.out)) hb); clear HB; have HO120 := n0_; have HB := n1_; clear n0_ n1_; (try clear hb); (try clear hb2); (try clear hk); (try clear hi); (try clear ho0)) | ((with_reducible refine gate_callee (f := 9) rfl ?_); refine goesL_ (some 15) rfl rfl Try.func9 (by kernel_rfl) rfl #[.int .u64 0] rfl (by (try simp only [List.map_toArray, List.map_cons, List.map_nil]); first | done | rfl | (simp only [List.length_drop, List.length_take]; rfl)) ?_; (with_reducible refine (load_Next.calls 0 t121 _ A4.out).mono ?_); rintro e w' ⟨rfl, ⟨nd, rfl⟩⟩; refine ⟨_, rfl, ?_⟩))
    go_ret
    exact ⟨by first | rfl | (simp [errW_none, errW_some] <;> rfl) | (simp [*, errW_none, errW_some] <;> rfl), by repeat (first | (with_reducible first | exact HB.out | apply below_alloc | apply pw_below_drewN | apply below_drew1) | exact HB.out)⟩

/-! ### pontoonlaw30_LoadDraws: function 5 -/
def pontoonlaw30_LoadDraws.f (k : Nat) (a0 : Int) (a1 : Int) : Option (Bool) := (load_Draw.f a0 (wrap64 (1 + (wrap64 (a1))))).bind fun bt134 => ((load_Draw.f a0 (wrap64 (1 + (wrap64 (a1))))).bind fun bt136 => (if bt134.1 ≥ 0 then (if bt134.1 < (wrap64 (1 + (wrap64 (a1)))) then (if bt134.1 = bt136.1 then (if bt134.2 = bt136.2 then ((load_Next.f a0).bind fun t138 => (if bt134.2 = t138 then ((pontoonlaw30_known.f k).bind fun t139 => (some t139)) else (some false))) else (some false)) else (some false)) else (some false)) else (some false)))
theorem pontoonlaw30_LoadDraws.mono : ∀ a0 a1 k, LeO (pontoonlaw30_LoadDraws.f k a0 a1) (pontoonlaw30_LoadDraws.f (k + 1) a0 a1) := by
  intro a0 a1 k
  unfold pontoonlaw30_LoadDraws.f
  repeat' first
      | (with_reducible exact pontoonlaw30_known.mono _)
      | (with_reducible exact LeO.refl _)
      | (with_reducible exact LeO.none _)
      | (with_reducible refine LeO.ite ?_ ?_)
      | (with_reducible refine LeO.bind ?_ (fun _ => ?_))
      | exact pontoonlaw30_known.mono _
      | exact LeO.none _
      | refine LeO.ite ?_ ?_
      | refine LeO.bind ?_ (fun _ => ?_)
set_option maxHeartbeats 8000000 in
set_option maxRecDepth 100000 in
theorem pontoonlaw30_LoadDraws.calls (k : Nat) (a0 : Int) (a1 : Int) (r : Bool) (w : World) (h : pontoonlaw30_LoadDraws.f k a0 a1 = some r) :
    Calls Try.prog 5 #[.int .u64 a0, .int .u16 a1] w fun e w' => e = .returned (.bool r) ∧ Below w.heap.size w w' := by
  have HB := Aside0.mk (Below.refl w.heap.size w)
  have H : ((load_Draw.f a0 (wrap64 (1 + (wrap64 (a1))))).bind fun bt134 => ((load_Draw.f a0 (wrap64 (1 + (wrap64 (a1))))).bind fun bt136 => (if bt134.1 ≥ 0 then (if bt134.1 < (wrap64 (1 + (wrap64 (a1)))) then (if bt134.1 = bt136.1 then (if bt134.2 = bt136.2 then ((load_Next.f a0).bind fun t138 => (if bt134.2 = t138 then ((pontoonlaw30_known.f k).bind fun t139 => (some t139)) else (some false))) else (some false)) else (some false)) else (some false)) else (some false)))) = some r := h
  clear h
  replace H := Option.bind_eq_some_iff.mp H
  obtain ⟨⟨t134, t135⟩, A30, H⟩ := H
  replace H : ((load_Draw.f a0 (wrap64 (1 + (wrap64 (a1))))).bind fun bt136 => (if t134 ≥ 0 then (if t134 < (wrap64 (1 + (wrap64 (a1)))) then (if t134 = bt136.1 then (if t135 = bt136.2 then ((load_Next.f a0).bind fun t138 => (if t135 = t138 then ((pontoonlaw30_known.f k).bind fun t139 => (some t139)) else (some false))) else (some false)) else (some false)) else (some false)) else (some false))) = some r := H
  have A3 := Aside0.mk A30
  clear A30
  replace H := Option.bind_eq_some_iff.mp H
  obtain ⟨⟨t136, t137⟩, A40, H⟩ := H
  replace H : (if t134 ≥ 0 then (if t134 < (wrap64 (1 + (wrap64 (a1)))) then (if t134 = t136 then (if t135 = t137 then ((load_Next.f a0).bind fun t138 => (if t135 = t138 then ((pontoonlaw30_known.f k).bind fun t139 => (some t139)) else (some false))) else (some false)) else (some false)) else (some false)) else (some false)) = some r := H
  have A4 := Aside0.mk A40
  clear A40
  by_cases c5 : t134 ≥ 0
  · rw [if_pos c5] at H
    have c5b0 : decide (0 ≤ t134) = true := decide_eq_true c5
    clear c5
    by_cases c6 : t134 < (wrap64 (1 + (wrap64 (a1))))
    · rw [if_pos c6] at H
      have c6b0 : decide (t134 < (wrap64 (1 + (wrap64 (a1))))) = true := decide_eq_true c6
      clear c6
      by_cases c7 : t134 = t136
      · rw [if_pos c7] at H
        have c7b0 : (t134 == t136) = true := beq_iff_eq.mpr c7
        have c7b1 : (t134 != t136) = false := bne_eq_false_iff_eq.mpr c7
        clear c7
        by_cases c8 : t135 = t137
        · rw [if_pos c8] at H
          have c8b0 : (t135 == t137) = true := beq_iff_eq.mpr c8
          have c8b1 : (t135 != t137) = false := bne_eq_false_iff_eq.mpr c8
          clear c8
          replace H := Option.bind_eq_some_iff.mp H
          obtain ⟨t138, A90, H⟩ := H
          replace H : (if t135 = t138 then ((pontoonlaw30_known.f k).bind fun t139 => (some t139)) else (some false)) = some r := H
          have A9 := Aside0.mk A90
          clear A90
          by_cases c10 : t135 = t138
          · rw [if_pos c10] at H
            have c10b0 : (t135 == t138) = true := beq_iff_eq.mpr c10
            have c10b1 : (t135 != t138) = false := bne_eq_false_iff_eq.mpr c10
            clear c10
            replace H := Option.bind_eq_some_iff.mp H
            obtain ⟨t139, A110, H⟩ := H
            replace H : (some t139) = some r := H
            have A11 := Aside0.mk A110
            clear A110
            obtain rfl := Option.some.inj H
            go_enter Try.func5, Try.ntmps5
            go_wp2_with (first | ((with_reducible refine gate_callee (f := 7) rfl ?_); refine goesL_ (some 16) rfl rfl Try.func7 (by kernel_rfl) rfl #[.int .u64 a0, .int .i64 (wrap64 (1 + (wrap64 (a1))))] rfl (by (try simp only [List.map_toArray, List.map_cons, List.map_nil]); first | done | rfl | (simp only [List.length_drop, List.length_take]; rfl)) ?_; (with_reducible refine (load_Draw.calls a0 (wrap64 (1 + (wrap64 (a1)))) t134 t135 _ A3.out).mono ?_); rintro e w' ⟨rfl, ⟨nd, rfl⟩⟩; refine ⟨_, rfl, ?_⟩) | ((with_reducible refine gate_callee (f := 7) rfl ?_); refine goesL_ (some 22) rfl rfl Try.func7 (by kernel_rfl) rfl #[.int .u64 a0, .int .i64 (wrap64 (1 + (wrap64 (a1))))] rfl (by (try simp only [List.map_toArray, List.map_cons, List.map_nil]); first | done | rfl | (simp only [List.length_drop, List.length_take]; rfl)) ?_; (with_reducible refine (load_Draw.calls a0 (wrap64 (1 + (wrap64 (a1)))) t136 t137 _ A4.out).mono ?_); rintro e w' ⟨rfl, ⟨nd, rfl⟩⟩; refine ⟨_, rfl, ?_⟩) | (go_at_call 9; (with_reducible refine (load_Next.calls a0 t138 _ A9.out).mono ?_); rintro e w' ⟨rfl, ⟨nd, rfl⟩⟩) | (go_at_call 6; (with_reducible refine (pontoonlaw30_known.calls k  t139 _ A11.out).mono ?_); rintro e w12 ⟨rfl, hb⟩; have n0_ := Aside0.mk (below_step (by repeat (first | (with_reducible first | exact HB.out | apply below_alloc | apply pw_below_drewN | apply below_drew1) | exact HB.out)) hb); clear HB; have HB := n0_; clear n0_; (try clear hb); (try clear hb2); (try clear hk); (try clear hi)))
            go_ret
            exact ⟨by first | rfl | (simp [errW_none, errW_some] <;> rfl) | (simp [*, errW_none, errW_some] <;> rfl), by repeat (first | (with_reducible first | exact HB.out | apply below_alloc | apply pw_below_drewN | apply below_drew1) | exact HB.out)⟩
          · rw [if_neg c10] at H
            have c10b0 : (t135 == t138) = false := beq_eq_false_iff_ne.mpr c10
            have c10b1 : (t135 != t138) = true := bne_iff_ne.mpr c10
            obtain rfl := Option.some.inj H
            go_enter Try.func5, Try.ntmps5
            go_wp2_with (first | ((with_reducible refine gate_callee (f := 7) rfl ?_); refine goesL_ (some 16) rfl rfl Try.func7 (by kernel_rfl) rfl #[.int .u64 a0, .int .i64 (wrap64 (1 + (wrap64 (a1))))] rfl (by (try simp only [List.map_toArray, List.map_cons, List.map_nil]); first | done | rfl | (simp only [List.length_drop, List.length_take]; rfl)) ?_; (with_reducible refine (load_Draw.calls a0 (wrap64 (1 + (wrap64 (a1)))) t134 t135 _ A3.out).mono ?_); rintro e w' ⟨rfl, ⟨nd, rfl⟩⟩; refine ⟨_, rfl, ?_⟩) | ((with_reducible refine gate_callee (f := 7) rfl ?_); refine goesL_ (some 22) rfl rfl Try.func7 (by kernel_rfl) rfl #[.int .u64 a0, .int .i64 (wrap64 (1 + (wrap64 (a1))))] rfl (by (try simp only [List.map_toArray, List.map_cons, List.map_nil]); first | done | rfl | (simp only [List.length_drop, List.length_take]; rfl)) ?_; (with_reducible refine (load_Draw.calls a0 (wrap64 (1 + (wrap64 (a1)))) t136 t137 _ A4.out).mono ?_); rintro e w' ⟨rfl, ⟨nd, rfl⟩⟩; refine ⟨_, rfl, ?_⟩) | (go_at_call 9; (with_reducible refine (load_Next.calls a0 t138 _ A9.out).mono ?_); rintro e w' ⟨rfl, ⟨nd, rfl⟩⟩))
            go_ret
            exact ⟨by first | rfl | (simp [errW_none, errW_some] <;> rfl) | (simp [*, errW_none, errW_some] <;> rfl), by repeat (first | (with_reducible first | exact HB.out | apply below_alloc | apply pw_below_drewN | apply below_drew1) | exact HB.out)⟩
        · rw [if_neg c8] at H
          have c8b0 : (t135 == t137) = false := beq_eq_false_iff_ne.mpr c8
          have c8b1 : (t135 != t137) = true := bne_iff_ne.mpr c8
          obtain rfl := Option.some.inj H
          go_enter Try.func5, Try.ntmps5
          go_wp2_with (first | ((with_reducible refine gate_callee (f := 7) rfl ?_); refine goesL_ (some 16) rfl rfl Try.func7 (by kernel_rfl) rfl #[.int .u64 a0, .int .i64 (wrap64 (1 + (wrap64 (a1))))] rfl (by (try simp only [List.map_toArray, List.map_cons, List.map_nil]); first | done | rfl | (simp only [List.length_drop, List.length_take]; rfl)) ?_; (with_reducible refine (load_Draw.calls a0 (wrap64 (1 + (wrap64 (a1)))) t134 t135 _ A3.out).mono ?_); rintro e w' ⟨rfl, ⟨nd, rfl⟩⟩; refine ⟨_, rfl, ?_⟩) | ((with_reducible refine gate_callee (f := 7) rfl ?_); refine goesL_ (some 22) rfl rfl Try.func7 (by kernel_rfl) rfl #[.int .u64 a0, .int .i64 (wrap64 (1 + (wrap64 (a1))))] rfl (by (try simp only [List.map_toArray, List.map_cons, List.map_nil]); first | done | rfl | (simp only [List.length_drop, List.length_take]; rfl)) ?_; (with_reducible refine (load_Draw.calls a0 (wrap64 (1 + (wrap64 (a1)))) t136 t137 _ A4.out).mono ?_); rintro e w' ⟨rfl, ⟨nd, rfl⟩⟩; refine ⟨_, rfl, ?_⟩))
          go_ret
          exact ⟨by first | rfl | (simp [errW_none, errW_some] <;> rfl) | (simp [*, errW_none, errW_some] <;> rfl), by repeat (first | (with_reducible first | exact HB.out | apply below_alloc | apply pw_below_drewN | apply below_drew1) | exact HB.out)⟩
      · rw [if_neg c7] at H
        have c7b0 : (t134 == t136) = false := beq_eq_false_iff_ne.mpr c7
        have c7b1 : (t134 != t136) = true := bne_iff_ne.mpr c7
        obtain rfl := Option.some.inj H
        go_enter Try.func5, Try.ntmps5
        go_wp2_with (first | ((with_reducible refine gate_callee (f := 7) rfl ?_); refine goesL_ (some 16) rfl rfl Try.func7 (by kernel_rfl) rfl #[.int .u64 a0, .int .i64 (wrap64 (1 + (wrap64 (a1))))] rfl (by (try simp only [List.map_toArray, List.map_cons, List.map_nil]); first | done | rfl | (simp only [List.length_drop, List.length_take]; rfl)) ?_; (with_reducible refine (load_Draw.calls a0 (wrap64 (1 + (wrap64 (a1)))) t134 t135 _ A3.out).mono ?_); rintro e w' ⟨rfl, ⟨nd, rfl⟩⟩; refine ⟨_, rfl, ?_⟩) | ((with_reducible refine gate_callee (f := 7) rfl ?_); refine goesL_ (some 22) rfl rfl Try.func7 (by kernel_rfl) rfl #[.int .u64 a0, .int .i64 (wrap64 (1 + (wrap64 (a1))))] rfl (by (try simp only [List.map_toArray, List.map_cons, List.map_nil]); first | done | rfl | (simp only [List.length_drop, List.length_take]; rfl)) ?_; (with_reducible refine (load_Draw.calls a0 (wrap64 (1 + (wrap64 (a1)))) t136 t137 _ A4.out).mono ?_); rintro e w' ⟨rfl, ⟨nd, rfl⟩⟩; refine ⟨_, rfl, ?_⟩))
        go_ret
        exact ⟨by first | rfl | (simp [errW_none, errW_some] <;> rfl) | (simp [*, errW_none, errW_some] <;> rfl), by repeat (first | (with_reducible first | exact HB.out | apply below_alloc | apply pw_below_drewN | apply below_drew1) | exact HB.out)⟩
    · rw [if_neg c6] at H
      have c6b0 : decide (t134 < (wrap64 (1 + (wrap64 (a1))))) = false := decide_eq_false c6
      clear c6
      obtain rfl := Option.some.inj H
      go_enter Try.func5, Try.ntmps5
      go_wp2_with (first | ((with_reducible refine gate_callee (f := 7) rfl ?_); refine goesL_ (some 16) rfl rfl Try.func7 (by kernel_rfl) rfl #[.int .u64 a0, .int .i64 (wrap64 (1 + (wrap64 (a1))))] rfl (by (try simp only [List.map_toArray, List.map_cons, List.map_nil]); first | done | rfl | (simp only [List.length_drop, List.length_take]; rfl)) ?_; (with_reducible refine (load_Draw.calls a0 (wrap64 (1 + (wrap64 (a1)))) t134 t135 _ A3.out).mono ?_); rintro e w' ⟨rfl, ⟨nd, rfl⟩⟩; refine ⟨_, rfl, ?_⟩) | ((with_reducible refine gate_callee (f := 7) rfl ?_); refine goesL_ (some 22) rfl rfl Try.func7 (by kernel_rfl) rfl #[.int .u64 a0, .int .i64 (wrap64 (1 + (wrap64 (a1))))] rfl (by (try simp only [List.map_toArray, List.map_cons, List.map_nil]); first | done | rfl | (simp only [List.length_drop, List.length_take]; rfl)) ?_; (with_reducible refine (load_Draw.calls a0 (wrap64 (1 + (wrap64 (a1)))) t136 t137 _ A4.out).mono ?_); rintro e w' ⟨rfl, ⟨nd, rfl⟩⟩; refine ⟨_, rfl, ?_⟩))
      go_ret
      exact ⟨by first | rfl | (simp [errW_none, errW_some] <;> rfl) | (simp [*, errW_none, errW_some] <;> rfl), by repeat (first | (with_reducible first | exact HB.out | apply below_alloc | apply pw_below_drewN | apply below_drew1) | exact HB.out)⟩
  · rw [if_neg c5] at H
    have c5b0 : decide (0 ≤ t134) = false := decide_eq_false c5
    clear c5
    obtain rfl := Option.some.inj H
    go_enter Try.func5, Try.ntmps5
    go_wp2_with (first | ((with_reducible refine gate_callee (f := 7) rfl ?_); refine goesL_ (some 16) rfl rfl Try.func7 (by kernel_rfl) rfl #[.int .u64 a0, .int .i64 (wrap64 (1 + (wrap64 (a1))))] rfl (by (try simp only [List.map_toArray, List.map_cons, List.map_nil]); first | done | rfl | (simp only [List.length_drop, List.length_take]; rfl)) ?_; (with_reducible refine (load_Draw.calls a0 (wrap64 (1 + (wrap64 (a1)))) t134 t135 _ A3.out).mono ?_); rintro e w' ⟨rfl, ⟨nd, rfl⟩⟩; refine ⟨_, rfl, ?_⟩) | ((with_reducible refine gate_callee (f := 7) rfl ?_); refine goesL_ (some 22) rfl rfl Try.func7 (by kernel_rfl) rfl #[.int .u64 a0, .int .i64 (wrap64 (1 + (wrap64 (a1))))] rfl (by (try simp only [List.map_toArray, List.map_cons, List.map_nil]); first | done | rfl | (simp only [List.length_drop, List.length_take]; rfl)) ?_; (with_reducible refine (load_Draw.calls a0 (wrap64 (1 + (wrap64 (a1)))) t136 t137 _ A4.out).mono ?_); rintro e w' ⟨rfl, ⟨nd, rfl⟩⟩; refine ⟨_, rfl, ?_⟩))
    go_ret
    exact ⟨by first | rfl | (simp [errW_none, errW_some] <;> rfl) | (simp [*, errW_none, errW_some] <;> rfl), by repeat (first | (with_reducible first | exact HB.out | apply below_alloc | apply pw_below_drewN | apply below_drew1) | exact HB.out)⟩

/-- THE ONE PURE STATEMENT of pontoonlaw30_LoadDraws: yours. -/
def pontoonlaw30_LoadDraws.Pure : Prop := ∀ (a0 : Int) (a1 : Int), (Lit.int .u64 a0).wf = true → (Lit.int .u16 a1).wf = true → ∃ k, pontoonlaw30_LoadDraws.f k a0 a1 = some true
theorem pontoonlaw30_LoadDraws.walk (P : pontoonlaw30_LoadDraws.Pure) (a0 : Int) (a1 : Int) (w : World) (w0 : (Lit.int .u64 a0).wf = true) (w1 : (Lit.int .u16 a1).wf = true) :
    Calls Try.prog 5 #[.int .u64 a0, .int .u16 a1] w fun e w' => e = .returned (.bool true) ∧ Below w.heap.size w w' := by
  obtain ⟨k, h⟩ := P a0 a1 w0 w1
  refine (pontoonlaw30_LoadDraws.calls k a0 a1 true w h).mono ?_
  rintro e w' ⟨rfl, hd⟩
  exact ⟨rfl, hd⟩

/-! ### pontoonref30_Next: function 10 -/
def pontoonref30_Next.f (a0 : Int) : Option (Int) := some (IntKind.u64.wrap ((IntKind.u64.wrap (a0 * 6364136223846793005)) + 1442695040888963407))
set_option maxHeartbeats 8000000 in
set_option maxRecDepth 100000 in
theorem pontoonref30_Next.calls (a0 : Int) (r : Int) (w : World) (h : pontoonref30_Next.f a0 = some r) :
    Calls Try.prog 10 #[.int .u64 a0] w fun e w' => e = .returned (.int .u64 r) ∧ Drawn0 w w' := by
  have H : (some (IntKind.u64.wrap ((IntKind.u64.wrap (a0 * 6364136223846793005)) + 1442695040888963407))) = some r := h
  clear h
  obtain rfl := Option.some.inj H
  go_enter Try.func10, Try.ntmps10
  go_wp2
  go_ret
  exact ⟨by first | rfl | (simp; done) | (simp [*]; done), by repeat (first | exact Drawn0.refl _ | apply Drawn0.step)⟩

/-! ### pontoonref30_Draw: function 8 -/
def pontoonref30_Draw.f (a0 : Int) (a1 : Int) : Option (Int × Int) := if a1 < 1 then (some (0, a0)) else (if a1 > 65536 then (some (0, a0)) else ((pontoonref30_Next.f a0).bind fun t140 => (if a1 = 0 then (none) else (some (Int.tmod (wrap64 (t140 / 281474976710656)) a1, t140)))))
set_option maxHeartbeats 8000000 in
set_option maxRecDepth 100000 in
theorem pontoonref30_Draw.calls (a0 : Int) (a1 : Int) (r1 : Int) (r2 : Int) (w : World) (h : pontoonref30_Draw.f a0 a1 = some (r1, r2)) :
    Calls Try.prog 8 #[.int .u64 a0, .int .i64 a1] w fun e w' => e = .returned (.tuple #[.int .i64 r1, .int .u64 r2]) ∧ Drawn0 w w' := by
  have H : (if a1 < 1 then (some (0, a0)) else (if a1 > 65536 then (some (0, a0)) else ((pontoonref30_Next.f a0).bind fun t140 => (if a1 = 0 then (none) else (some (Int.tmod (wrap64 (t140 / 281474976710656)) a1, t140)))))) = some (r1, r2) := h
  clear h
  by_cases c3 : a1 < 1
  · rw [if_pos c3] at H
    have c3b0 : decide (a1 < 1) = true := decide_eq_true c3
    clear c3
    simp only [Option.some.injEq, Prod.mk.injEq] at H
    obtain ⟨rfl, rfl⟩ := H
    go_enter Try.func8, Try.ntmps8
    go_wp2
    go_ret2
    exact ⟨by first | rfl | (simp; done) | (simp [*]; done), by repeat (first | exact Drawn0.refl _ | apply Drawn0.step)⟩
  · rw [if_neg c3] at H
    have c3b0 : decide (a1 < 1) = false := decide_eq_false c3
    clear c3
    by_cases c4 : a1 > 65536
    · rw [if_pos c4] at H
      have c4b0 : decide (65536 < a1) = true := decide_eq_true c4
      clear c4
      simp only [Option.some.injEq, Prod.mk.injEq] at H
      obtain ⟨rfl, rfl⟩ := H
      go_enter Try.func8, Try.ntmps8
      go_wp2
      go_ret2
      exact ⟨by first | rfl | (simp; done) | (simp [*]; done), by repeat (first | exact Drawn0.refl _ | apply Drawn0.step)⟩
    · rw [if_neg c4] at H
      have c4b0 : decide (65536 < a1) = false := decide_eq_false c4
      clear c4
      replace H := Option.bind_eq_some_iff.mp H
      obtain ⟨t140, A50, H⟩ := H
      replace H : (if a1 = 0 then (none) else (some (Int.tmod (wrap64 (t140 / 281474976710656)) a1, t140))) = some (r1, r2) := H
      have A5 := Aside0.mk A50
      clear A50
      by_cases c6 : a1 = 0
      · rw [if_pos c6] at H
        exact absurd H (by simp)
      · rw [if_neg c6] at H
        have c6b0 : (a1 == 0) = false := beq_eq_false_iff_ne.mpr c6
        have c6b1 : (a1 != 0) = true := bne_iff_ne.mpr c6
        simp only [Option.some.injEq, Prod.mk.injEq] at H
        obtain ⟨rfl, rfl⟩ := H
        go_enter Try.func8, Try.ntmps8
        go_wp2_with (first | ((with_reducible refine gate_callee (f := 10) rfl ?_); refine goesL_ (some 15) rfl rfl Try.func10 (by kernel_rfl) rfl #[.int .u64 a0] rfl (by (try simp only [List.map_toArray, List.map_cons, List.map_nil]); first | done | rfl | (simp only [List.length_drop, List.length_take]; rfl)) ?_; (with_reducible refine (pontoonref30_Next.calls a0 t140 _ A5.out).mono ?_); rintro e w' ⟨rfl, ⟨nd, rfl⟩⟩; refine ⟨_, rfl, ?_⟩))
        go_ret2
        exact ⟨by first | rfl | (simp; done) | (simp [*]; done), by repeat (first | exact Drawn0.refl _ | apply Drawn0.step)⟩

-- NOT PRINTED: function 27 (pontoonref30_State_draw)

-- NOT PRINTED: function 28 (pontoonref30_ask)

-- NOT PRINTED: function 29 (pontoonref01_Digits)

-- NOT PRINTED: function 30 (pontoonref30_State_rare)

-- NOT PRINTED: function 18 (pontoonref30_State_one)

/-! ### pontoonref30_Make: function 13, by hand -/
def pontoonref30_Make.f (a0 : Int) (a1 : Int) (a2 : Int) : Option (List (S35)) := some ((makeM a0 a1 a2).map s35of)
theorem pontoonref30_Make.calls (a0 : Int) (a1 : Int) (a2 : Int) (r : List (S35)) (w : World) (h : pontoonref30_Make.f a0 a1 a2 = some r) :
    Calls Try.prog 13 #[.int .u64 a0, .int .i64 a1, .int .i64 a2] w fun e w' => ∃ v0_ : Value, e = .returned (v0_) ∧ Kd.R k35 35 w' w.heap.size (fun _ => True) v0_ r ∧ Below w.heap.size w w' := by
  unfold pontoonref30_Make.f at h
  simp only [Option.some.injEq] at h
  subst h
  exact (rMake_any a0 a1 a2 w).mono fun e w' ⟨v, he, ho, hb⟩ => ⟨v, he, R35 ho, hb⟩

/-! ### pontoonref27_letters: function 21 -/
def pontoonref27_letters.l0 : Nat → ByteArray → Int → Option (Bool)
  | 0, _, _ => none
  | k + 1, x0, x3 => if x3 < (x0.size : Int) then (if 0 ≤ x3 then (if (bt x0 x3) < 97 then (some false) else (if (bt x0 x3) > 122 then (some false) else (pontoonref27_letters.l0 k x0 (wrap64 (x3 + 1))))) else (none)) else (some (decide ((x0.size : Int) > 0)))
def pontoonref27_letters.f (k : Nat) (a0 : ByteArray) : Option (Bool) := pontoonref27_letters.l0 k a0 0
theorem pontoonref27_letters.mono_l : ∀ k, (∀ y0 y1, LeO (pontoonref27_letters.l0 k y0 y1) (pontoonref27_letters.l0 (k + 1) y0 y1))
  | 0 => fun _ _ r h => by simp [pontoonref27_letters.l0] at h
  | k + 1 => by
    have ih0 := pontoonref27_letters.mono_l k
    · intro y0 y1
      unfold pontoonref27_letters.l0
      repeat' first
      | (with_reducible exact ih0 _ _)
      | (with_reducible exact LeO.refl _)
      | (with_reducible exact LeO.none _)
      | (with_reducible refine LeO.ite ?_ ?_)
      | (with_reducible refine LeO.bind ?_ (fun _ => ?_))
      | exact ih0 _ _
      | exact LeO.none _
      | refine LeO.ite ?_ ?_
      | refine LeO.bind ?_ (fun _ => ?_)
theorem pontoonref27_letters.mono : ∀ a0 k, LeO (pontoonref27_letters.f k a0) (pontoonref27_letters.f (k + 1) a0) := by
  intro a0 k
  have ih0 := pontoonref27_letters.mono_l k
  unfold pontoonref27_letters.f
  repeat' first
      | (with_reducible exact ih0 _ _)
      | (with_reducible exact LeO.refl _)
      | (with_reducible exact LeO.none _)
      | (with_reducible refine LeO.ite ?_ ?_)
      | (with_reducible refine LeO.bind ?_ (fun _ => ?_))
      | exact ih0 _ _
      | exact LeO.none _
      | refine LeO.ite ?_ ?_
      | refine LeO.bind ?_ (fun _ => ?_)
set_option maxHeartbeats 8000000 in
set_option maxRecDepth 100000 in
theorem pontoonref27_letters.calls (k : Nat) (a0 : ByteArray) (r : Bool) (w : World) (h : pontoonref27_letters.f k a0 = some r) :
    Calls Try.prog 21 #[.string a0] w fun e w' => e = .returned (.bool r) ∧ Drawn0 w w' := by
  have H : (pontoonref27_letters.l0 k a0 0) = some r := h
  clear h
  have H' := Aside0.mk H
  clear H
  go_enter Try.func21, Try.ntmps21
  go_wp2
  go_loopg [3] k (fun kq v3 w' => ∃ (x3_1 : Int), v3 = .int .i64 x3_1 ∧ Aside0 (pontoonref27_letters.l0 kq a0 x3_1 = some r) ∧ Aside0 (kq ≤ k) ∧ Drawn0 w w')
  case atStart => exact ⟨(0), (by first | rfl | (simp; done) | (simp [*]; done)), H', ⟨Nat.le_refl _⟩, by repeat (first | exact Drawn0.refl _ | apply Drawn0.step)⟩
  case round =>
    clear H'
    obtain ⟨x3_1, rfl, HA, HK1, ⟨m1, rfl⟩⟩ := hrel
    cases gk with
    | zero => exact absurd HA.out (by simp [pontoonref27_letters.l0])
    | succ k1 =>
      have H := HA.out
      clear HA
      simp only [pontoonref27_letters.l0] at H
      by_cases c2 : x3_1 < (a0.size : Int)
      · rw [if_pos c2] at H
        have c2b0 : decide (x3_1 < (a0.size : Int)) = true := decide_eq_true c2
        clear c2
        by_cases c3 : 0 ≤ x3_1
        · rw [if_pos c3] at H
          have c3b0 : decide (0 ≤ x3_1) = true := decide_eq_true c3
          clear c3
          by_cases c5 : (bt a0 x3_1) < 97
          · rw [if_pos c5] at H
            have c5b0 : decide ((bt a0 x3_1) < 97) = true := decide_eq_true c5
            clear c5
            obtain rfl := Option.some.inj H
            have p4 : 0 ≤ (x3_1 : Int) := of_decide_eq_true (by first | (with_reducible assumption) | assumption)
            have q4 : x3_1 < (a0.size : Int) := of_decide_eq_true (by first | (with_reducible assumption) | assumption)
            have hx4 := bt_at a0 x3_1
            replace p4 := eq_true p4
            replace q4 := eq_true q4
            go_wp2
            go_ret
            exact ⟨by first | rfl | (simp; done) | (simp [*]; done), by repeat (first | exact Drawn0.refl _ | apply Drawn0.step)⟩
          · rw [if_neg c5] at H
            have c5b0 : decide ((bt a0 x3_1) < 97) = false := decide_eq_false c5
            clear c5
            by_cases c7 : (bt a0 x3_1) > 122
            · rw [if_pos c7] at H
              have c7b0 : decide (122 < (bt a0 x3_1)) = true := decide_eq_true c7
              clear c7
              obtain rfl := Option.some.inj H
              have p4 : 0 ≤ (x3_1 : Int) := of_decide_eq_true (by first | (with_reducible assumption) | assumption)
              have q4 : x3_1 < (a0.size : Int) := of_decide_eq_true (by first | (with_reducible assumption) | assumption)
              have hx4 := bt_at a0 x3_1
              replace p4 := eq_true p4
              replace q4 := eq_true q4
              have p6 : 0 ≤ (x3_1 : Int) := of_decide_eq_true (by first | (with_reducible assumption) | assumption)
              have q6 : x3_1 < (a0.size : Int) := of_decide_eq_true (by first | (with_reducible assumption) | assumption)
              have hx6 := bt_at a0 x3_1
              replace p6 := eq_true p6
              replace q6 := eq_true q6
              go_wp2
              go_ret
              exact ⟨by first | rfl | (simp; done) | (simp [*]; done), by repeat (first | exact Drawn0.refl _ | apply Drawn0.step)⟩
            · rw [if_neg c7] at H
              have c7b0 : decide (122 < (bt a0 x3_1)) = false := decide_eq_false c7
              clear c7
              have H' := Aside0.mk H
              clear H
              have p4 : 0 ≤ (x3_1 : Int) := of_decide_eq_true (by first | (with_reducible assumption) | assumption)
              have q4 : x3_1 < (a0.size : Int) := of_decide_eq_true (by first | (with_reducible assumption) | assumption)
              have hx4 := bt_at a0 x3_1
              replace p4 := eq_true p4
              replace q4 := eq_true q4
              have p6 : 0 ≤ (x3_1 : Int) := of_decide_eq_true (by first | (with_reducible assumption) | assumption)
              have q6 : x3_1 < (a0.size : Int) := of_decide_eq_true (by first | (with_reducible assumption) | assumption)
              have hx6 := bt_at a0 x3_1
              replace p6 := eq_true p6
              replace q6 := eq_true q6
              go_wp2
              go_roundg k1
              case measure => have := HK1.out; omega
              case rel => exact ⟨(wrap64 (x3_1 + 1)), (by first | rfl | (simp; done) | (simp [*]; done)), H', ⟨by have := HK1.out; omega⟩, by repeat (first | exact Drawn0.refl _ | apply Drawn0.step)⟩
        · rw [if_neg c3] at H
          exact absurd H (by simp)
      · rw [if_neg c2] at H
        have c2b0 : decide (x3_1 < (a0.size : Int)) = false := decide_eq_false c2
        clear c2
        obtain rfl := Option.some.inj H
        go_wp2
        go_ret
        exact ⟨by first | rfl | (simp; done) | (simp [*]; done), by repeat (first | exact Drawn0.refl _ | apply Drawn0.step)⟩

end Go.Proofs.Ytmgcmheiabmajab.Pr
