/- ExpirySame: keys with one time are due in the order in which they were set. -/
import Derived.Test.YthafopnaecbjdaaExD
namespace Go.Proofs.Ythafopnaecbjdaa
open Go Go.RowKit Go.Maps Go.WideShapes Go.Proofs.Ythafopnaecbjdaa.Pa Go.Proofs.YthafopnaecbjdaaW.PrintWords Go.Proofs.YthafopnaecbjdaaW.PrintLast Go.Proofs.YthafopnaecbjdaaW.PrintMore

theorem eqNilQ (b : Nat) (W : World) : (binOp .eql 23 (.pointer (some ⟨b, 0, none⟩)) (.pointer none)).run Try.prog W = .ok (.bool false) W := by kernel_rfl
structure SameI (w wr : World) (p mb : Nat) (hv v : Value) (L : List It) (a : Int) (k : Nat) : Prop where
  q : QS w wr p mb hv L k
  row : RowB w wr p mb hv v (keysL L)
  ats : ∀ x ∈ L, x.at_ = a
  len : L.length ≤ k
set_option maxRecDepth 4000 in
set_option maxHeartbeats 8000000 in
theorem ExpirySame_walk (w : World) (A : Option Addr) (n cp : Nat) (l : List ByteArray) (hA : RowG txtC 1 w A n l) (hn : n ≤ maxLen) (a : Int) (ha : 0 ≤ a ∧ a ≤ 65535) : Calls Try.prog 5 #[.slice A n cp, .int .u16 a] w fun e w' => e = .returned (.bool true) ∧ Below w.heap.size w w' := by
  have HA := Lib.hid hA
  have HAA := Lib.hid ha
  have HNEW := Lib.hid (new_qs w)
  have hw1 : wrap64 a = a := by unfold wrap64; omega
  have ha0 := ha.1
  have ha1 := ha.2
  obtain ⟨i0, hi0, hz0, hz1, hz2⟩ := info_t infoT
  have HI0 := Lib.hid (And.intro hi0 (And.intro hz0 (And.intro hz1 hz2)))
  unfold maxLen at hn
  clear hi0 hz0 hz1 hz2 hA ha
  go_enter Try.func5, Try.ntmps5
  repeat (first | go_step3 | go_values | go_skip | go_guarded | go_step | go_upon)
  (go_at_call 8; refine HNEW.out.mono ?_; rintro e w1 ⟨p, rfl, mb, hv0, q0⟩; have Q0 := Lib.hid q0; clear q0; dsimp only)
  by_cases h60 : n ≤ 60
  case neg =>
    have hi : (60 : Int) < (n : Int) := by omega
    repeat (first | go_step3 | go_values | go_skip | go_guarded | go_step | go_upon)
    (go_at_call 23; refine (known_any _).mono ?_; rintro e w2 ⟨rfl, b2⟩; have HB2 := Lib.hid b2; clear b2; dsimp only)
    repeat (first | go_step3 | go_values | go_skip | go_guarded | go_step | go_upon)
    go_ret
    exact ⟨rfl, Q0.out.b.trans (HB2.out.mono Q0.out.b.size)⟩
  case pos =>
  have hi : ¬ (60 : Int) < (n : Int) := by omega
  clear hn
  repeat (first | go_step3 | go_values | go_skip | go_guarded | go_step | go_upon)
  go_loopw [6, 7] (fun v i wr => ∃ (k : Nat) (hv : Value) (L : List It), i = .int .i64 k ∧ k ≤ n ∧ Hid (SameI w wr p mb hv v L a k)) (fun _ i _ => n - (intOf i).toNat)
  case atStart => exact ⟨0, hv0, [], rfl, Nat.zero_le _, Lib.hid ⟨Q0.out, RowB.nil _ _ _ _ _, by simp, by simp⟩⟩
  case round =>
    obtain ⟨k, hv, L, rfl, hk, HS⟩ := hrel
    by_cases hlt : k < n
    case neg =>
      have hge : ¬ (k : Int) < n := by omega
      clear hlt
      have HK := Lib.hid (ekeys_any HS.out.q.q)
      repeat (first | go_step3 | go_values | go_skip | go_guarded | go_step | go_upon)
      (go_at_call 21; refine HK.out.mono ?_; rintro e w2 ⟨v2, rfl, r2, b2, n2⟩; have R2 := Lib.hid r2; have B2 := Lib.hid b2; clear r2 b2 n2; dsimp only)
      have Q2 := Lib.hid (HS.out.q.below B2.out)
      have W2 := Lib.hid (HS.out.row.below B2.out)
      have HT := Lib.hid (texts_any R2.out W2.out.r (by unfold keysL; rw [List.length_map]; have := HS.out.len; omega))
      rw [show (decide (keysL L = keysL L)) = true from by simp] at HT
      repeat (first | go_step3 | go_values | go_skip | go_guarded | go_step | go_upon)
      (go_at_call 13; refine HT.out.mono ?_; rintro e w3 ⟨rfl, b3⟩; have Q3 := Lib.hid (Q2.out.below b3); have W3 := Lib.hid (W2.out.below b3); clear b3; dsimp only)
      have hall : L.takeWhile (soon (a - 1)) = [] ∧ L.dropWhile (soon (a - 1)) = L := soon_split (L1 := []) rfl (by simp) (by
        cases L with
        | nil => exact .inl rfl
        | cons y r => exact .inr ⟨y, r, rfl, by rw [HS.out.ats y List.mem_cons_self]; omega⟩)
      have hall2 : L.takeWhile (soon a) = L ∧ L.dropWhile (soon a) = [] := soon_split (L2 := []) (by simp) (fun x hx => by rw [HS.out.ats x hx]; exact Int.le_refl _) (.inl rfl)
      have HD := Lib.hid (due_qs Q3.out (a - 1))
      unfold DueS at HD
      rw [hall.1, hall.2] at HD
      have HALL2 := Lib.hid hall2
      clear hall hall2
      repeat (first | go_step3 | go_values | go_skip | go_guarded | go_step | go_upon)
      (go_at_call 14; refine HD.out.mono ?_; rintro e w4 ⟨v4, rfl, hv4, q4, r4, n4, m4, f4, t4⟩; obtain ⟨A4, c4, e4⟩ := r4.slice; subst e4; have Q4 := Lib.hid q4; have W4 := Lib.hid (W3.out.keep (hv' := hv4) t4 (fun j hj => .inl (by rw [f4] at hj; exact hj))); clear q4 r4 n4 m4 f4 t4; dsimp only)
      have HD2 := Lib.hid (due_qs Q4.out a)
      unfold DueS at HD2
      rw [HALL2.out.1, HALL2.out.2] at HD2
      have hk0 : (keysL []).length = 0 := rfl
      repeat (first | go_step3 | go_values | go_skip | go_guarded | go_step | go_upon)
      (go_at_call 14; refine HD2.out.mono ?_; rintro e w5 ⟨v5, rfl, hv5, q5, r5, n5, m5, f5, t5⟩; have Q5 := Lib.hid q5; have R5 := Lib.hid r5; have W5 := Lib.hid (W4.out.keep (hv' := hv5) t5 (fun j hj => .inl (by rw [f5] at hj; exact hj))); clear q5 r5 n5 m5 f5 t5; dsimp only)
      have HT5 := Lib.hid (texts_any R5.out W5.out.r (by unfold keysL; rw [List.length_map]; have := HS.out.len; omega))
      rw [show (decide (keysL L = keysL L)) = true from by simp] at HT5
      repeat (first | go_step3 | go_values | go_skip | go_guarded | go_step | go_upon)
      (go_at_call 13; refine HT5.out.mono ?_; rintro e w6 ⟨rfl, b6⟩; have Q6 := Lib.hid (Q5.out.below b6); clear b6; dsimp only)
      repeat (first | go_step3 | go_values | go_skip | go_guarded | go_step | go_upon)
      (go_at_call 23; refine (known_any _).mono ?_; rintro e w7 ⟨rfl, b7⟩; have Q7 := Lib.hid (Q6.out.below b7); clear b7; dsimp only)
      repeat (first | go_step3 | go_values | go_skip | go_guarded | go_step | go_upon)
      go_ret
      exact ⟨rfl, Q7.out.b⟩
    case pos =>
      have hki : (k : Int) < n := by omega
      have hk0 : (0 : Int) ≤ k := by omega
      obtain ⟨g, o, x, hAe, hgl, hxj, hxm, htk, hcell⟩ := (HA.out.below HS.out.q.b).at hlt
      have cx : wr.cell? ⟨g, o + k, none⟩ = some (.string x) := by have := hcell 0 _ rfl; simpa using this
      have HGL : Hid (g < w.heap.size) := Lib.hid (by
        rcases HA.out.2 with h | ⟨g', o', e, h, _⟩
        · omega
        · rw [hAe] at e; cases e; exact h)
      have HAe := Lib.hid hAe
      subst hAe
      have HLT := Lib.hid hlt
      clear hgl hxj hxm htk hcell
      by_cases hbig : x.size ≤ 100
      case neg =>
        have hbi : (100 : Int) < (x.size : Int) := by omega
        clear hbig
        repeat (first | go_step3 | go_values | go_skip | go_guarded | go_step | go_upon)
        (go_at_call 23; refine (known_any _).mono ?_; rintro e w7 ⟨rfl, b7⟩; have Q7 := Lib.hid (HS.out.q.below b7); clear b7; dsimp only)
        repeat (first | go_step3 | go_values | go_skip | go_guarded | go_step | go_upon)
        go_ret
        exact ⟨rfl, Q7.out.b⟩
      case pos =>
      have hbi : ¬ (100 : Int) < (x.size : Int) := by omega
      have HSET := Lib.hid (set_gen HS.out.q x (good100 hbig) a (by omega) (by omega) (by have := HS.out.len; omega))
      unfold SetG errN S1 at HSET
      rw [if_pos (show okT a from ⟨by omega, by omega⟩), if_pos (show okT a from ⟨by omega, by omega⟩)] at HSET
      clear hbig
      repeat (first | go_step3 | go_values | go_skip | go_guarded | go_step | go_upon)
      (go_at_call 9; refine HSET.out.mono ?_; rintro e w3 ⟨rfl, hv3, q3, t3, f3⟩; have Q3 := Lib.hid q3; have W3 := Lib.hid (HS.out.row.keep t3 f3); clear q3 t3 f3; dsimp only)
      have c3 : w3.cell? ⟨g, o + k, none⟩ = some (.string x) := (Q3.out.b.cell (p := ⟨g, o + k, none⟩) HGL.out).trans ((HS.out.q.b.cell (p := ⟨g, o + k, none⟩) HGL.out).symm.trans cx)
      have C3 := Lib.hid c3
      obtain ⟨A6, c6, e6⟩ := W3.out.r.slice
      subst e6
      clear cx c3
      have HLL : Hid ((keysL L).length ≤ k) := Lib.hid (by unfold keysL; rw [List.length_map]; exact HS.out.len)
      obtain ⟨d, hd⟩ : ∃ d, d = (keysL L).length := ⟨_, rfl⟩
      have HD := Lib.hid hd
      rw [← hd]
      have hd60 : d ≤ 60 := by have := HLL.out; omega
      clear hd
      repeat (first | go_step3 | go_values | go_skip | go_guarded | go_step | go_upon)
      go_loopw [8, 9] (fun v j wx => ∃ (m : Nat) (vr : Value), vr = v ∧ j = .int .i64 m ∧ m ≤ d ∧ Hid (RowT wx v (((keysL L).take m).filter fun y => decide (y ≠ x)) ∧ Touch [] w3 wx ∧ ∀ i, v.ownBlock = some i → w3.heap.size ≤ i)) (fun _ j _ => d - (intOf j).toNat)
      case atStart => exact ⟨0, _, rfl, rfl, Nat.zero_le _, Lib.hid ⟨RowT.nil _, Touch.refl _ _, fun i h => (by cases h)⟩⟩
      case round =>
        obtain ⟨m, vr, rfl, rfl, hm, HR⟩ := hrel
        by_cases hmd : m < d
        case neg =>
          have hmi : ¬ (m : Int) < d := by omega
          clear hmd
          have HR' : Hid (RowT wr vr ((keysL L).filter fun y => decide (y ≠ x)) ∧ Touch [] w3 wr ∧ ∀ i, vr.ownBlock = some i → w3.heap.size ≤ i) := Lib.hid (by
            have h := HR.out
            rw [List.take_of_length_le (by rw [← HD.out]; omega)] at h
            exact h)
          have cr : wr.cell? ⟨g, o + k, none⟩ = some (.string x) := HR'.out.2.1.cell C3.out (by simp)
          obtain ⟨A8, c8, e8⟩ := HR'.out.1.slice
          subst e8
          repeat ((fail_if_success (with_reducible refine gate_builtin (b := .append) (xs := #[.tmp 66, .tmp 71]) rfl ?_)); first | go_step3 | go_values | go_skip | go_guarded | go_step | go_upon)
          have HROW : Hid (RowT (wr.alloc (Obj.cells #[.string x] 9)) (.slice A8 ((keysL L).filter fun y => decide (y ≠ x)).length c8) ((keysL L).filter fun y => decide (y ≠ x))) := Lib.hid (HR'.out.1.touch ((Touch.refl [] wr).alloc _) (by simp))
          have hfl : ((keysL L).filter fun y => decide (y ≠ x)).length ≤ 60 := Nat.le_trans (List.length_filter_le _ _) (by have := HLL.out; omega)
          ((with_reducible refine gate_builtin (b := .append) (xs := #[.tmp 66, .tmp 71]) rfl ?_); at_builtin; refine wpList_append_own_at _ rfl _ _ 35 rfl 0 9 i0 (.string (⟨#[]⟩ : ByteArray)) 1 16 Try.underlying35 HI0.out.1 HI0.out.2.1 HI0.out.2.2.1 HI0.out.2.2.2 rfl (by decide) (.slice A8 ((keysL L).filter fun y => decide (y ≠ x)).length c8) _ (strs ((keysL L).filter fun y => decide (y ≠ x))) rfl HROW.out ⟨wr.heap.size, 0, none⟩ 1 1 [.string x] rfl rfl (news_of (cs := #[.string x]) (t := 9) (fr := (0, 0)) (heap_alloc_new wr _)) (by simp [Value.oneCell']) (by simp only [maxLen]; omega) (by omega) (Nat.zero_le _) ?_)
          intro v6 w6 ho hg6 _ hat6
          have T6 : Hid (Touch [] w3 w6) := Lib.hid ((HR'.out.2.1.alloc _).grownBy hg6 (fun i hi => .inr (HR'.out.2.2 i hi)))
          have N6 : Hid (∀ i, v6.ownBlock = some i → w3.heap.size ≤ i) := Lib.hid (fun i hi => by
            rcases hat6 with e | e
            · exact HR'.out.2.2 i (e ▸ hi)
            · rw [e] at hi; cases hi; have := HR'.out.2.1.size; simp; omega)
          have hsp := same_put (k := x) (s := k) HS.out.ats
          have R6 : Hid (RowT w6 v6 (keysL (putL L x a k))) := Lib.hid (by
            rw [hsp.1]
            unfold RowT
            rw [List.length_append]
            have e2 : strs (((keysL L).filter fun y => decide (y ≠ x)) ++ [x]) = strs ((keysL L).filter fun y => decide (y ≠ x)) ++ [.string x] := by unfold strs; rw [List.map_append]; rfl
            rw [e2]
            exact ho)
          have HN : Hid (SameI w w6 p mb hv3 v6 (putL L x a k) a (k + 1)) := Lib.hid ⟨Q3.out.below T6.out.toBelow, ⟨R6.out, fun i hi hm => by have := Q3.out.q.foot_lt i hm; have := N6.out i hi; omega, fun i hi => Nat.le_trans Q3.out.b.size (N6.out i hi)⟩, hsp.2, by
            have h1 := (ins_perm (dropL L x) ⟨x, a, (k : Int) + 1⟩).length_eq
            have h2 : (dropL L x).length ≤ L.length := List.length_filter_le _ _
            have h3 := HS.out.len
            unfold putL
            rw [h1, List.length_cons]
            omega⟩
          obtain ⟨A9, c9, e9⟩ := R6.out.slice
          subst e9
          generalize (keysL (putL L x a k)).length = n9 at *
          clear ho hg6 hat6 hsp hfl cr
          dsimp only
          repeat (first | go_step3 | go_values | go_skip | go_guarded | go_step | go_upon)
          try go_roundw
          case rel => exact ⟨k + 1, hv3, putL L x a k, by go_num, HLT.out, HN⟩
          case measure => have := HLT.out; simp [intOf]; omega
        case pos =>
          have hmi : (m : Int) < d := by omega
          have hm0 : (0 : Int) ≤ m := by omega
          have hml : m < (keysL L).length := by have := HD.out; omega
          obtain ⟨y, hy⟩ : ∃ y, (keysL L)[m]? = some y := ⟨_, List.getElem?_eq_getElem hml⟩
          obtain ⟨g6, c6', e6, d6⟩ := (W3.out.touch HR.out.2.1).r.at m y hy
          have HG6 := Lib.hid e6
          obtain ⟨rfl, rfl⟩ : A6 = some ⟨g6, 0, none⟩ ∧ c6 = c6' := by
            injection e6 with q1 _ q3
            exact ⟨q1, q3⟩
          have d7 : wr.cell? ⟨g, o + k, none⟩ = some (.string x) := HR.out.2.1.cell C3.out (by simp)
          have HMD := Lib.hid hmd
          have hfl : (((keysL L).take m).filter fun y => decide (y ≠ x)).length ≤ 60 := Nat.le_trans (List.length_filter_le _ _) (Nat.le_trans (List.length_take_le _ _) (by have := HLL.out; omega))
          have htk : Hid (((keysL L).take (m + 1)).filter (fun y => decide (y ≠ x)) = ((keysL L).take m).filter (fun y => decide (y ≠ x)) ++ if y = x then [] else [y]) := Lib.hid (by
            have hy2 := (List.getElem?_eq_some_iff.1 hy).2
            rw [List.take_succ_eq_append_getElem hml, hy2, List.filter_append]
            congr 1
            by_cases h : y = x <;> simp [h])
          clear hy hml e6 hmd
          by_cases hyx : y = x
          · have q0 : (y.toList == x.toList) = true := by rw [hyx]; simp
            have q1 : (y.toList != x.toList) = false := by rw [hyx]; simp
            have HR2 : Hid (RowT wr vr (((keysL L).take (m + 1)).filter fun y => decide (y ≠ x)) ∧ Touch [] w3 wr ∧ ∀ i, vr.ownBlock = some i → w3.heap.size ≤ i) := Lib.hid (by
              rw [htk.out, if_pos hyx, List.append_nil]
              exact HR.out)
            clear hyx
            repeat (first | go_step3 | go_values | go_skip | go_guarded | go_step | go_upon)
            refine wp_region_tw (by kernel_rfl) (by kernel_rfl) ?_
            have r0 := TW.cell d6
            have r1 := TW.cell d7
            repeat (go_big_quiet_step (fail))
            refine wpQuiet_nil ?_
            rintro _ ⟨Y, rfl⟩
            have HR3 : Hid (RowT Y.w vr (((keysL L).take (m + 1)).filter fun y => decide (y ≠ x)) ∧ Touch [] w3 Y.w ∧ ∀ i, vr.ownBlock = some i → w3.heap.size ≤ i) := Lib.hid ⟨HR2.out.1.touch Y.t (by simp), HR2.out.2.1.trans Y.t (by simp), HR2.out.2.2⟩
            clear r0 r1 d6 d7
            generalize Y.w = w7 at *
            repeat (first | go_step3 | go_values | go_skip | go_guarded | go_step | go_upon)
            try go_roundw
            case rel => exact ⟨m + 1, vr, rfl, by go_num, HMD.out, HR3⟩
            case measure => have := HMD.out; simp [intOf]; omega
          · have q0 : (y.toList == x.toList) = false := by rw [beq_eq_false_iff_ne]; exact fun h => hyx (ba_list.1 h)
            have q1 : (y.toList != x.toList) = true := by rw [bne_iff_ne]; exact fun h => hyx (ba_list.1 h)
            have HTK : Hid (((keysL L).take (m + 1)).filter (fun y => decide (y ≠ x)) = ((keysL L).take m).filter (fun y => decide (y ≠ x)) ++ [y]) := Lib.hid (by rw [htk.out, if_neg hyx])
            clear hyx htk
            repeat (first | go_step3 | go_values | go_skip | go_guarded | go_step | go_upon)
            refine wp_region_tw (by kernel_rfl) (by kernel_rfl) ?_
            have r0 := TW.cell d6
            have r1 := TW.cell d7
            repeat (go_big_quiet_step (fail))
            refine wpQuiet_nil ?_
            rintro _ ⟨Y, rfl⟩
            have d8 := r0 Y
            have HR3 : Hid (RowT Y.w vr (((keysL L).take m).filter fun y => decide (y ≠ x)) ∧ Touch [] w3 Y.w ∧ ∀ i, vr.ownBlock = some i → w3.heap.size ≤ i) := Lib.hid ⟨HR.out.1.touch Y.t (by simp), HR.out.2.1.trans Y.t (by simp), HR.out.2.2⟩
            clear r0 r1 d6 d7
            generalize Y.w = w7 at *
            generalize hF : ((keysL L).take m).filter (fun y => decide (y ≠ x)) = F at *
            have HF := Lib.hid hF
            clear hF
            obtain ⟨A8, c8, e8⟩ := HR3.out.1.slice
            subst e8
            repeat ((fail_if_success (with_reducible refine gate_builtin (b := .append) (xs := #[.tmp 59, .tmp 64]) rfl ?_)); first | go_step3 | go_values | go_skip | go_guarded | go_step | go_upon)
            have HROW : Hid (RowT (w7.alloc (Obj.cells #[.string y] 9)) (.slice A8 F.length c8) F) := Lib.hid (HR3.out.1.touch ((Touch.refl [] w7).alloc _) (by simp))
            ((with_reducible refine gate_builtin (b := .append) (xs := #[.tmp 59, .tmp 64]) rfl ?_); at_builtin; refine wpList_append_own_at _ rfl _ _ 35 rfl 0 9 i0 (.string (⟨#[]⟩ : ByteArray)) 1 16 Try.underlying35 HI0.out.1 HI0.out.2.1 HI0.out.2.2.1 HI0.out.2.2.2 rfl (by decide) (.slice A8 F.length c8) _ (strs F) rfl HROW.out ⟨w7.heap.size, 0, none⟩ 1 1 [.string y] rfl rfl (news_of (cs := #[.string y]) (t := 9) (fr := (0, 0)) (heap_alloc_new w7 _)) (by simp [Value.oneCell']) (by simp only [maxLen]; omega) (by omega) (Nat.zero_le _) ?_)
            intro v6 w6 ho hg6 _ hat6
            have HR6 : Hid (RowT w6 v6 (F ++ [y]) ∧ Touch [] w3 w6 ∧ ∀ i, v6.ownBlock = some i → w3.heap.size ≤ i) := Lib.hid (by
              refine ⟨?_, (HR3.out.2.1.alloc _).grownBy hg6 (fun i hi => .inr (HR3.out.2.2 i hi)), fun i hi => ?_⟩
              · unfold RowT
                rw [List.length_append]
                have e2 : strs (F ++ [y]) = strs F ++ [.string y] := by unfold strs; rw [List.map_append]; rfl
                rw [e2]
                exact ho
              · rcases hat6 with e | e
                · exact HR3.out.2.2 i (e ▸ hi)
                · rw [e] at hi; cases hi; have := HR3.out.2.1.size; simp; omega)
            clear ho hg6 hat6 d8
            dsimp only
            repeat (first | go_step3 | go_values | go_skip | go_guarded | go_step | go_upon)
            try go_roundw
            case rel => exact ⟨m + 1, v6, rfl, by go_num, HMD.out, by rw [HTK.out]; exact HR6⟩
            case measure => have := HMD.out; simp [intOf]; omega
theorem same_row {w : World} {m base : Nat} {v : Value} (hv : Value.okWide Try.prog w .any base 35 v) (h : Rd Try.prog w m 35 v.cells.toList) {a : Int} (ha : (Lit.int .u16 a).wf = true) : Calls Try.prog 5 #[v, .int .u16 a] w fun e w' => e = .returned (.bool true) ∧ Below w.heap.size w w' := by
  obtain ⟨A, n, cp, l, rfl, h1, h2⟩ := texts_arg hv h
  exact ExpirySame_walk w A n cp l h1 h2 a (u16_of ha)
end Go.Proofs.Ythafopnaecbjdaa
