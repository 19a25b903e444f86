/- gauge: GaugeRanks answers true. -/
import Derived.Test.YtmgcmheiabmajaaGaA
import Derived.Test.YtmgcmheiabmajaaGaArg
namespace Go.Proofs.Ytmgcmheiabmajaa
open Go Go.RowKit Go.Proofs.Ytmgcmheiabmajaa.Pa Go.Proofs.YtmgcmheiabmajaaW.PrintWords Go.Proofs.YtmgcmheiabmajaaW.PrintLast

theorem below_take (l : List Int) (y : Int) (k : Nat) (h : k < l.length) : below (l.take (k + 1)) y = below (l.take k) y + (if 0 ≤ l[k] ∧ l[k] ≤ y then 1 else 0) := by
  unfold below
  rw [List.take_succ_eq_append_getElem h, List.filter_append, List.length_append]
  congr 1
  by_cases hc : 0 ≤ l[k] ∧ l[k] ≤ y
  · rw [List.filter_cons_of_pos (by simpa using hc), if_pos hc]
    rfl
  · rw [List.filter_cons_of_neg (by simpa using hc), if_neg hc]
    rfl
theorem rankF_some {tot q : Int} {L : List SB} {v : Int} (h : rankF tot q L = (v, true)) : rankG tot q L.dropLast 0 = (v, true) ∧ tot ≠ 0 := by
  unfold rankF at h
  split at h
  · cases h
  · rename_i hc
    exact ⟨h, fun e => hc (.inl e)⟩
theorem rankF_none {tot q : Int} {L : List SB} {v : Int} (h : rankF tot q L = (v, false)) : v = 0 := by
  have key : ∀ (L : List SB) (a : Int), rankG tot q L a = (v, false) → v = 0 := by
    intro L
    induction L with
    | nil => intro a h; cases h; rfl
    | cons y r ih =>
      intro a h
      unfold rankG at h
      split at h
      · cases h
      · exact ih _ h
  unfold rankF at h
  split at h
  · cases h; rfl
  · exact key _ _ h
theorem rankF_zero {tot q : Int} {L : List SB} (h : tot = 0) : rankF tot q L = (0, false) := if_pos (.inl h)
theorem cum_dropLast {L : List SB} (v : Int) (h : ∀ y ∈ L, 0 ≤ y.c) : cum L.dropLast v ≤ cum L v := by
  cases hL : L.getLast? with
  | none =>
    have := List.getLast?_eq_none_iff.1 hL
    subst this
    exact Int.le_refl _
  | some z =>
    obtain ⟨M, rfl⟩ : ∃ M, L = M ++ [z] := by
      have hne : L ≠ [] := by intro e; rw [e] at hL; cases hL
      refine ⟨L.dropLast, ?_⟩
      have := List.dropLast_concat_getLast hne
      rw [List.getLast?_eq_some_getLast hne] at hL
      rw [Option.some.inj hL] at this
      exact this.symm
    rw [List.dropLast_concat]
    have hz := h z (List.mem_append_right _ (List.mem_singleton.2 rfl))
    unfold cum
    rw [List.map_append, List.sum_append]
    show _ ≤ _ + ((if z.b ≤ v then z.c else 0) + 0)
    split <;> omega
section
variable {w : World} {A0 A1 : Option Addr} {c0 c1 : Nat} {l0 l1 : List Int}
set_option maxHeartbeats 8000000 in
theorem ranks_any (hr0 : Kd.C (Kd.int .i64) w A0 l0.length l0) (hc0 : l0.length ≤ c0) (hr1 : Kd.C (Kd.int .i64) w A1 l1.length l1) (pp : Int) (hp0 : 0 ≤ pp) (hp1 : pp ≤ 65535) : Calls Try.prog 5 #[.slice A0 l0.length c0, .slice A1 l1.length c1, .int .u16 pp] w fun e w' => e = .returned (.bool true) ∧ Below w.heap.size w w' := by
  have H0 := Lib.hid (And.intro hr0 hc0)
  have H1 := Lib.hid hr1
  clear hr0 hc0 hr1
  obtain ⟨m, hm⟩ : ∃ m, m = l0.length := ⟨_, rfl⟩
  have HM := Lib.hid hm
  obtain ⟨n, hn⟩ : ∃ n, n = l1.length := ⟨_, rfl⟩
  have HN := Lib.hid hn
  rw [← hm, ← hn]
  clear hm hn
  go_enter Try.func5, Try.ntmps5
  by_cases hbig : 100 < m
  · have hbi : (100 : Int) < m := by omega
    repeat (first | go_step3 | go_values | go_skip | go_guarded | go_step | go_upon)
    (go_at_call 6; refine (known_any _).mono ?_; rintro e wk ⟨rfl, hBk⟩; have HBK := Lib.hid hBk; clear hBk; dsimp only)
    repeat (first | go_step3 | go_values | go_skip | go_guarded | go_step | go_upon)
    go_ret
    exact ⟨rfl, HBK.out⟩
  have hbi : ¬ (100 : Int) < m := by omega
  by_cases hbig1 : 100 < n
  · have hbi1 : (100 : Int) < n := by omega
    repeat (first | go_step3 | go_values | go_skip | go_guarded | go_step | go_upon)
    (go_at_call 6; refine (known_any _).mono ?_; rintro e wk ⟨rfl, hBk⟩; have HBK := Lib.hid hBk; clear hBk; dsimp only)
    repeat (first | go_step3 | go_values | go_skip | go_guarded | go_step | go_upon)
    go_ret
    exact ⟨rfl, HBK.out⟩
  have hbi1 : ¬ (100 : Int) < n := by omega
  repeat (first | go_step3 | go_values | go_skip | go_guarded | go_step | go_upon)
  by_cases hg : Good l0
  case neg =>
    have HNEW := Lib.hid (new_bad H0.out.1 H0.out.2 hg)
    rw [← HM.out] at HNEW
    clear hg
    (go_at_call 7; refine HNEW.out.mono ?_; rintro e w1 ⟨rfl, hB⟩; have HB1 := Lib.hid hB; clear hB; dsimp only)
    repeat (first | go_step3 | go_values | go_skip | go_guarded | go_step | go_upon)
    (go_at_call 6; refine (known_any _).mono ?_; rintro e wk ⟨rfl, hBk⟩; have HBK := Lib.hid hBk; clear hBk; dsimp only)
    repeat (first | go_step3 | go_values | go_skip | go_guarded | go_step | go_upon)
    go_ret
    exact ⟨rfl, HB1.out.trans (HBK.out.mono HB1.out.size)⟩
  case pos =>
  have HNEW := Lib.hid (new_ok H0.out.1 H0.out.2 hg)
  rw [← HM.out] at HNEW
  have HG := Lib.hid hg
  clear hg
  (go_at_call 7; refine HNEW.out.mono ?_; rintro e w1 ⟨p, b, cp, rfl, hG, hp, hb, hB⟩; have S0 : Hid (St w w1 p b cp (startG l0).L (startG l0).t (startG l0).s) := Lib.hid ⟨hG, hB, hp, hb⟩; clear hG hp hb hB; dsimp only)
  repeat (first | go_step3 | go_values | go_skip | go_guarded | go_step | go_upon)
  go_loopw [9] (fun i wr => ∃ k : Nat, i = .int .i64 k ∧ k ≤ n ∧ Hid (St w wr p b cp (playG (startG l0) (l1.take k)).L (playG (startG l0) (l1.take k)).t (playG (startG l0) (l1.take k)).s)) (fun i _ => n - (intOf i).toNat)
  case atStart => exact ⟨0, rfl, Nat.zero_le _, S0⟩
  case round =>
    obtain ⟨k, rfl, hk, HS⟩ := hrel
    by_cases hlt : k < n
    · have hki : (k : Int) < n := by omega
      have hk0 : (0 : Int) ≤ k := by omega
      have hkn : k < l1.length := by have := HN.out; omega
      obtain ⟨ad2, hA2, cy⟩ := Kd.at_int (Kd.C_below H1.out HS.out.bel) (k : Int) hk0 (by omega)
      subst hA2
      rw [rd_at l1 k hkn, Int.toNat_natCast] at cy
      have hO := Okg.play (l1.take k) 0 (startG l0) (Okg.start HG.out)
      have HADD := Lib.hid (add_play HS.out hO (by rw [List.length_take]; omega) (l1[k]))
      have HTK := Lib.hid (play_take (startG l0) l1 k hkn)
      have HLT := Lib.hid hlt
      generalize l1[k] = y at *
      clear hkn hO hlt
      repeat (first | go_step3 | go_values | go_skip | go_guarded | go_step | go_upon)
      (go_at_call 9; refine HADD.out.mono ?_; rintro e w2 ⟨rfl, hS2, _⟩; rw [← HTK.out] at hS2; have HS2 := Lib.hid hS2; clear hS2; dsimp only)
      repeat (first | go_step3 | go_values | go_skip | go_guarded | go_step | go_upon)
      try go_roundw
      case rel => exact ⟨k + 1, by go_num, HLT.out, HS2⟩
      case measure => have := HLT.out; simp [intOf]; omega
    · have hge : ¬ (k : Int) < n := by omega
      have hO := Okg.play l1 0 (startG l0) (Okg.start HG.out)
      have hcum := cum_below l1 0 (startG l0) (fun _ => 0) (Okg.start HG.out) (fun y => by
        have : ∀ L : List SB, (∀ z ∈ L, z.c = 0) → cum L y = 0 := by
          intro L hL
          induction L with
          | nil => rfl
          | cons z M ih =>
            unfold cum at *
            rw [List.map_cons, List.sum_cons, ih (fun u hu => hL u (List.mem_cons_of_mem _ hu)), hL z List.mem_cons_self]
            split <;> rfl
        show cum (initL l0) y ≤ _
        rw [this _ (fun z hz => by
          unfold initL at hz
          rcases List.mem_append.1 hz with hz | hz
          · obtain ⟨u, _, rfl⟩ := List.mem_map.1 hz
            rfl
          · rw [List.mem_singleton] at hz
            subst hz
            rfl)]
        exact Int.le_refl _)
      rw [List.take_of_length_le (by have := HN.out; omega)] at HS
      obtain ⟨S, hS⟩ : ∃ S, S = playG (startG l0) l1 := ⟨_, rfl⟩
      rw [← hS] at HS hO hcum
      clear hS hlt
      have HO := Lib.hid hO
      have HCUM := Lib.hid hcum
      clear hO hcum
      repeat (first | go_step3 | go_values | go_skip | go_guarded | go_step | go_upon)
      (go_at_call 11; refine (total_any HS.out.ga).mono ?_; rintro e w3 ⟨rfl, hT⟩; have S3 := Lib.hid (HS.out.keep (hT.below (Nat.le_refl _) (by simp))); clear hT; dsimp only)
      repeat (first | go_step3 | go_values | go_skip | go_guarded | go_step | go_upon)
      have hq0 : 0 ≤ pp % 1001 := by omega
      have hq1 : pp % 1001 ≤ 1000 := by omega
      generalize pp % 1001 = q at *
      clear hp0 hp1
      have HQ := Lib.hid (And.intro hq0 hq1)
      have HSM := HO.out.sm (by have := HN.out; omega)
      have HR1 := rank_any S3.out.ga HSM q
      obtain ⟨⟨a, is⟩, hra⟩ : ∃ r, r = rankF S.t q S.L := ⟨_, rfl⟩
      rw [← hra] at HR1
      have HRA := Lib.hid hra
      have HR1h := Lib.hid HR1
      clear HR1 hra
      (go_at_call 13; refine HR1h.out.mono ?_; rintro e w4 ⟨rfl, hB⟩; have S4 := Lib.hid (S3.out.keep hB); clear hB HR1h S3; dsimp only)
      repeat (first | go_step3 | go_values | go_skip | go_guarded | go_step | go_upon)
      have HR2 := rank_any S4.out.ga HSM 1000
      obtain ⟨⟨a2, was⟩, hrb⟩ : ∃ r, r = rankF S.t 1000 S.L := ⟨_, rfl⟩
      rw [← hrb] at HR2
      have HRB := Lib.hid hrb
      have HR2h := Lib.hid HR2
      clear HR2 hrb
      (go_at_call 13; refine HR2h.out.mono ?_; rintro e w5 ⟨rfl, hB⟩; have S5 := Lib.hid (S4.out.keep hB); clear hB HR2h S4 HSM; dsimp only)
      by_cases ht : S.t = 0
      · have hti : (S.t == 0) = true := beq_iff_eq.2 ht
        have ha : a = 0 := congrArg Prod.fst (HRA.out.trans (rankF_zero ht))
        subst ha
        clear ht
        repeat (first | go_step3 | go_values | go_skip | go_guarded | go_step | go_upon)
        (go_at_call 6; refine (known_any _).mono ?_; rintro e wk ⟨rfl, hBk⟩; have HBK := Lib.hid hBk; clear hBk; dsimp only)
        repeat (first | go_step3 | go_values | go_skip | go_guarded | go_step | go_upon)
        go_ret
        exact ⟨rfl, S5.out.bel.trans (HBK.out.mono S5.out.bel.size)⟩
      have hti : (S.t == 0) = false := beq_eq_false_iff_ne.2 ht
      clear ht
      cases is with
      | false =>
        have ha : a = 0 := rankF_none HRA.out.symm
        subst ha
        repeat (first | go_step3 | go_values | go_skip | go_guarded | go_step | go_upon)
        (go_at_call 6; refine (known_any _).mono ?_; rintro e wk ⟨rfl, hBk⟩; have HBK := Lib.hid hBk; clear hBk; dsimp only)
        repeat (first | go_step3 | go_values | go_skip | go_guarded | go_step | go_upon)
        go_ret
        exact ⟨rfl, S5.out.bel.trans (HBK.out.mono S5.out.bel.size)⟩
      | true =>
      repeat (first | go_step3 | go_values | go_skip | go_guarded | go_step | go_upon)
      go_loopw [17, 18] (fun v i wr => ∃ k : Nat, i = .int .i64 k ∧ v = .int .i64 (below (l1.take k) a : Nat) ∧ k ≤ n ∧ Hid (Below w.heap.size w wr)) (fun _ i _ => n - (intOf i).toNat)
      case atStart => exact ⟨0, rfl, rfl, Nat.zero_le _, Lib.hid S5.out.bel⟩
      case round =>
        obtain ⟨k2, rfl, rfl, hk2, HB⟩ := hrel
        by_cases hlt : k2 < n
        · have hki : (k2 : Int) < n := by omega
          have hk0 : (0 : Int) ≤ k2 := by omega
          have hkn : k2 < l1.length := by have := HN.out; omega
          obtain ⟨ad2, hA2, cy⟩ := Kd.at_int (Kd.C_below H1.out HB.out) (k2 : Int) hk0 (by omega)
          subst hA2
          rw [rd_at l1 k2 hkn, Int.toNat_natCast] at cy
          have HBT := Lib.hid (below_take l1 a k2 hkn)
          have hbl : below (l1.take k2) a ≤ 100 := by
            have := List.length_filter_le (fun x => decide (0 ≤ x ∧ x ≤ a)) (l1.take k2)
            rw [List.length_take] at this
            unfold below
            omega
          have HLT := Lib.hid hlt
          generalize l1[k2] = y at *
          generalize below (l1.take k2) a = v at *
          clear hkn hlt
          by_cases hy0 : 0 ≤ y
          · by_cases hya : y ≤ a
            · have HB2 : Hid (below (l1.take (k2 + 1)) a = v + 1) := Lib.hid (by rw [HBT.out, if_pos ⟨hy0, hya⟩])
              clear HBT
              repeat (first | go_step3 | go_values | go_skip | go_guarded | go_step | go_upon)
              try go_roundw
              case rel => exact ⟨k2 + 1, by go_num, by rw [HB2.out]; go_num, HLT.out, HB⟩
              case measure => have := HLT.out; simp [intOf]; omega
            · have HB2 : Hid (below (l1.take (k2 + 1)) a = v) := Lib.hid (by rw [HBT.out, if_neg (fun h => hya h.2)]; rfl)
              clear HBT
              repeat (first | go_step3 | go_values | go_skip | go_guarded | go_step | go_upon)
              try go_roundw
              case rel => exact ⟨k2 + 1, by go_num, by rw [HB2.out], HLT.out, HB⟩
              case measure => have := HLT.out; simp [intOf]; omega
          · have HB2 : Hid (below (l1.take (k2 + 1)) a = v) := Lib.hid (by rw [HBT.out, if_neg (fun h => hy0 h.1)]; rfl)
            clear HBT
            repeat (first | go_step3 | go_values | go_skip | go_guarded | go_step | go_upon)
            try go_roundw
            case rel => exact ⟨k2 + 1, by go_num, by rw [HB2.out], HLT.out, HB⟩
            case measure => have := HLT.out; simp [intOf]; omega
        · have hge : ¬ (k2 : Int) < n := by omega
          have hbl : below (l1.take k2) a ≤ 100 := by
            have := List.length_filter_le (fun x => decide (0 ≤ x ∧ x ≤ a)) (l1.take k2)
            rw [List.length_take] at this
            unfold below
            omega
          have hL : l1.take k2 = l1 := List.take_of_length_le (by have := HN.out; omega)
          have hsum : q * S.t ≤ 1000 * ((below (l1.take k2) a : Nat) : Int) := by
            obtain ⟨h1, _⟩ := rankF_some HRA.out.symm
            have hnn : ∀ y ∈ S.L, 0 ≤ y.c := fun y hy => (HO.out.c y hy).1
            have h2 := rank_sum S.t q S.L.dropLast 0 a (HO.out.ris.sublist (List.dropLast_sublist _)) (fun y hy => hnn y ((List.dropLast_sublist _).subset hy)) h1
            have h3 := cum_dropLast a hnn
            have h4 := HCUM.out a
            rw [hL]
            omega
          have hmono : was = true → a ≤ a2 := fun hw => by
            obtain ⟨h1, _⟩ := rankF_some HRA.out.symm
            have hrb := HRB.out
            rw [hw] at hrb
            obtain ⟨h2, _⟩ := rankF_some hrb.symm
            have ht := HO.out.t
            exact rank_mono S.t q (Int.mul_le_mul_of_nonneg_right HQ.out.2 ht.1) S.L.dropLast 0 a a2 (HO.out.ris.sublist (List.dropLast_sublist _)) h1 h2
          have hqt0 : 0 ≤ q * S.t := Int.mul_nonneg HQ.out.1 HO.out.t.1
          have hb1 : -9223372036854775808 ≤ q * S.t := by omega
          have hb2 : q * S.t ≤ 9223372036854775807 := by omega
          clear hL hqt0
          generalize below (l1.take k2) a = v at *
          clear hlt
          cases was with
          | false =>
            clear hmono
            repeat (first | go_step3 | go_values | go_skip | go_guarded | go_step | go_upon)
            (go_at_call 6; refine (known_any _).mono ?_; rintro e wk ⟨rfl, hBk⟩; have HBK := Lib.hid hBk; clear hBk; dsimp only)
            repeat (first | go_step3 | go_values | go_skip | go_guarded | go_step | go_upon)
            go_ret
            exact ⟨rfl, HB.out.trans (HBK.out.mono HB.out.size)⟩
          | true =>
            have hle := hmono rfl
            clear hmono
            repeat (first | go_step3 | go_values | go_skip | go_guarded | go_step | go_upon)
            (go_at_call 6; refine (known_any _).mono ?_; rintro e wk ⟨rfl, hBk⟩; have HBK := Lib.hid hBk; clear hBk; dsimp only)
            repeat (first | go_step3 | go_values | go_skip | go_guarded | go_step | go_upon)
            go_ret
            exact ⟨rfl, HB.out.trans (HBK.out.mono HB.out.size)⟩
end
theorem ranks_walk {w : World} {m0 m1 base : Nat} {v0 v1 : Value} (hv0 : Value.okWide Try.prog w .any base 22 v0) (hd0 : Rd Try.prog w m0 22 v0.cells.toList) (hv1 : Value.okWide Try.prog w .any base 22 v1) (hd1 : Rd Try.prog w m1 22 v1.cells.toList) {pp : Int} (hp : (Lit.int .u16 pp).wf = true) : Calls Try.prog 5 #[v0, v1, .int .u16 pp] w fun e w' => e = .returned (.bool true) ∧ Below w.heap.size w w' := by
  obtain ⟨A0, c0, l0, rfl, a1, a2, _⟩ := ints_arg hv0 hd0
  obtain ⟨A1, c1, l1, rfl, b1, _, _⟩ := ints_arg hv1 hd1
  exact ranks_any a1 a2 b1 pp (u16_of hp).1 (u16_of hp).2
end Go.Proofs.Ytmgcmheiabmajaa
