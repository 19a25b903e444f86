/- gauge: GaugePlays answers true. -/
import Derived.Test.YtmgcmheiabmajaaGaJ
import Derived.Test.YtmgcmheiabmajaaGaArg
namespace Go.Proofs.Ytmgcmheiabmajaa
open Go Go.RowKit Go.Proofs.Ytmgcmheiabmajaa.Pa Go.Proofs.YtmgcmheiabmajaaW.PrintWords Go.Proofs.YtmgcmheiabmajaaW.PrintLast

theorem ints_self (l : List Int) (hn : l.length ≤ 1000) (k : Nat) (hk : l.length + 2 < k) : pontoonref13_Ints.f k l l = some true := by
  have key : ∀ (m k i : Nat), i + m = l.length → m < k → pontoonref13_Ints.l0 k l l (i : Int) = some true := by
    intro m
    induction m with
    | zero =>
      intro k i hi hk
      obtain ⟨k, rfl⟩ : ∃ j, k = j + 1 := ⟨k - 1, by omega⟩
      unfold pontoonref13_Ints.l0
      rw [if_neg (by omega)]
    | succ m ih =>
      intro k i hi hk
      obtain ⟨k, rfl⟩ : ∃ j, k = j + 1 := ⟨k - 1, by omega⟩
      have hw : wrap64 ((i : Int) + 1) = ((i + 1 : Nat) : Int) := by unfold wrap64; omega
      unfold pontoonref13_Ints.l0
      rw [if_pos (by omega), if_pos (by omega), if_pos (by omega), if_pos rfl, hw]
      exact ih k (i + 1) (by omega) (by omega)
  unfold pontoonref13_Ints.f
  rw [if_pos rfl]
  exact key l.length k 0 (by omega) (by omega)
theorem play_lenJ {B : List Int} (hg : Good B) (l : List Int) (k : Nat) (hk : l.length ≤ k) : Okg B k (playG (startG B) l) := by
  have h := Okg.play l 0 (startG B) (Okg.start hg)
  exact ⟨h.good, h.bs, h.c, by have := h.t; omega, h.s⟩
/-- The program's gauge beside the document's. -/
structure PS (w0 w : World) (base pg bg cg p bB cB : Nat) (B : List Int) (S : GS) (v : List Int) : Prop where
  st : St w0 w pg bg cg S.L S.t S.s
  rg : ∃ vl, RG base w p bB cB vl B v
  hb : w0.heap.size ≤ base
section
variable {w0 w w' : World} {base pg bg cg p bB cB : Nat} {B v : List Int} {S S' : GS}
theorem PS.keep (h : PS w0 w base pg bg cg p bB cB B S v) (k : Below w.heap.size w w') : PS w0 w' base pg bg cg p bB cB B S v := by
  obtain ⟨vl, hr⟩ := h.rg
  exact ⟨h.st.keep k, ⟨vl, hr.below k⟩, h.hb⟩
theorem padd_yes (h : PS w0 w base pg bg cg p bB cB B S v) {k : Nat} (ho : Okg B k S) (hk : k ≤ 1000000) {x : Int} (hx : okI x = true) : Calls Try.prog 9 #[.pointer (some ⟨pg, 0, none⟩), .int .i64 x] w fun e w' => e = .returned (.bool true) ∧ PS w0 w' base pg bg cg p bB cB B (stepG S x) v := by
  refine (add_play h.st ho hk x).mono ?_
  rintro e w' ⟨rfl, hS, hT⟩
  obtain ⟨vl, hr⟩ := h.rg
  exact ⟨by rw [hx], hS, ⟨vl, hr.kept h.st.ga hT⟩, h.hb⟩
theorem pradd_yes (h : PS w0 w base pg bg cg p bB cB B S v) (hl : v.length ≤ 1000) {x : Int} (hx : okI x = true) : Calls Try.prog 10 #[.pointer (some ⟨p, 0, none⟩), .int .i64 x] w fun e w' => e = .returned (.bool true) ∧ PS w0 w' base pg bg cg p bB cB B S (v ++ [x]) := by
  obtain ⟨vl, hr⟩ := h.rg
  have hxx := of_decide_eq_true hx
  refine (radd_any hr x hxx.1 hxx.2 hl).mono ?_
  rintro e w' ⟨vl', rfl, hR, hB, hSt⟩
  exact ⟨rfl, ⟨h.st.ga.stay hSt, h.st.bel.trans (hB.mono h.hb), h.st.hp, h.st.hb⟩, ⟨vl', hR⟩, h.hb⟩
end
section
variable {w0 w w' : World} {base pg bg cg p bB cB : Nat} {B v : List Int} {S : GS}
theorem ps_total (h : PS w0 w base pg bg cg p bB cB B S v) (hr : Rel B S v) : Calls Try.prog 11 #[.pointer (some ⟨pg, 0, none⟩)] w fun e w' => e = .returned (.tuple #[.int .i64 v.length, .int .i64 (sumR v)]) ∧ Below w.heap.size w w' := by
  rw [← hr.t, ← hr.s]
  exact (total_any h.st.ga).mono fun _ _ ⟨e, t⟩ => ⟨e, t.below (Nat.le_refl _) (by simp)⟩
theorem ps_rtotal (h : PS w0 w base pg bg cg p bB cB B S v) (hr : Rel B S v) (hl : v.length ≤ 1000) : Calls Try.prog 12 #[.pointer (some ⟨p, 0, none⟩)] w fun e w' => e = .returned (.tuple #[.int .i64 v.length, .int .i64 (sumR v)]) ∧ Below w.heap.size w w' := by
  obtain ⟨vl, hg⟩ := h.rg
  exact (rtotal_any hg hr.n hl).mono fun _ _ ⟨e, t⟩ => ⟨e, by rw [t]; exact Below.refl _ _⟩
theorem ps_rank (h : PS w0 w base pg bg cg p bB cB B S v) (hr : Rel B S v) {k : Nat} (ho : Okg B k S) (hk : k ≤ 1000000) (q : Int) : Calls Try.prog 13 #[.pointer (some ⟨pg, 0, none⟩), .int .i64 q] w fun e w' => e = .returned (.tuple #[.int .i64 (rankRF B v q).1, .bool (rankRF B v q).2]) ∧ Below w.heap.size w w' := by
  rw [← hr.rank ho q]
  exact rank_any h.st.ga (ho.sm hk) q
theorem ps_rrank (h : PS w0 w base pg bg cg p bB cB B S v) (hB0 : 0 < B.length) (hB1 : B.length ≤ 100) (hl : v.length ≤ 1000) (q : Int) : Calls Try.prog 14 #[.pointer (some ⟨p, 0, none⟩), .int .i64 q] w fun e w' => e = .returned (.tuple #[.int .i64 (rankRF B v q).1, .bool (rankRF B v q).2]) ∧ Below w.heap.size w w' := by
  obtain ⟨vl, hg⟩ := h.rg
  exact rrank_any hg hB0 hB1 hl q
theorem ps_counts (h : PS w0 w base pg bg cg p bB cB B S v) (hr : Rel B S v) : Calls Try.prog 15 #[.pointer (some ⟨pg, 0, none⟩)] w (IntsP w (cntR B v)) := by
  rw [← hr.c]
  exact counts_any h.st.ga
theorem ps_rcounts (h : PS w0 w base pg bg cg p bB cB B S v) (hB0 : 0 < B.length) (hB1 : B.length ≤ 100) (hl : v.length ≤ 1000) : Calls Try.prog 17 #[.pointer (some ⟨p, 0, none⟩)] w (IntsP w (cntR B v)) := by
  obtain ⟨vl, hg⟩ := h.rg
  exact rcounts_any hg hB0 hB1 hl
theorem ps_show (h : PS w0 w base pg bg cg p bB cB B S v) (hr : Rel B S v) {k : Nat} (ho : Okg B k S) (hk : k ≤ 1000000) : Calls Try.prog 18 #[.pointer (some ⟨pg, 0, none⟩)] w fun e w' => e = .returned (.string (showR B v)) ∧ Below w.heap.size w w' := by
  rw [← hr.show_ ho]
  exact show_any h.st.ga (ho.sm hk) ho.bnd
theorem ps_rshow (h : PS w0 w base pg bg cg p bB cB B S v) (hB0 : 0 < B.length) (hB1 : B.length ≤ 100) (hl : v.length ≤ 1000) (hbp : ∀ x ∈ B, 0 ≤ x ∧ x ≤ 1152921504606846976) : Calls Try.prog 19 #[.pointer (some ⟨p, 0, none⟩)] w fun e w' => e = .returned (.string (showR B v)) ∧ Below w.heap.size w w' := by
  obtain ⟨vl, hg⟩ := h.rg
  exact rshow_any hg hB0 hB1 hl hbp
theorem ints_same {cs : List Int} {n : Nat} (hn : cs.length = n) (hl : n ≤ 1000) {A A' : Option Addr} {c c' : Nat} (h : Kd.C (Kd.int .i64) w A n cs) (hc : n ≤ c) (h' : Kd.C (Kd.int .i64) w A' n cs) (hc' : n ≤ c') : Calls Try.prog 16 #[.slice A n c, .slice A' n c'] w fun e w' => e = .returned (.bool true) ∧ Below w.heap.size w w' := by
  subst hn
  exact (pontoonref13_Ints.calls 2000 A c cs A' c' cs true w h hc h' hc' (ints_self cs hl 2000 (by omega))).mono fun _ _ ⟨e, d⟩ => ⟨e, d.below⟩
end
section
variable {w : World} {A0 A1 : Option Addr} {c0 c1 : Nat} {l0 l1 : List Int}
set_option maxRecDepth 100000 in
set_option maxHeartbeats 16000000 in
theorem plays_any (hr0 : Kd.C (Kd.int .i64) w A0 l0.length l0) (hc0 : l0.length ≤ c0) (hr1 : Kd.C (Kd.int .i64) w A1 l1.length l1) (q : Int) : Calls Try.prog 3 #[.slice A0 l0.length c0, .slice A1 l1.length c1, .int .i64 q] w fun e w' => e = .returned (.bool true) ∧ Below w.heap.size w w' := by
  have H0 := Lib.hid (And.intro hr0 hc0)
  have H1 := Lib.hid hr1
  clear hr0 hc0 hr1
  obtain ⟨m, hm⟩ : ∃ m, m = l0.length := ⟨_, rfl⟩
  have HM := Lib.hid hm
  obtain ⟨n, hn⟩ : ∃ n, n = l1.length := ⟨_, rfl⟩
  have HN := Lib.hid hn
  rw [← hm, ← hn]
  clear hm hn
  go_enter Try.func3, Try.ntmps3
  by_cases hbig : 200 < m
  · have hbi : (200 : Int) < m := by omega
    repeat (first | go_step3 | go_values | go_skip | go_guarded | go_step | go_upon)
    (go_at_call 6; refine (known_any _).mono ?_; rintro e wk ⟨rfl, hBk⟩; have HBK := Lib.hid hBk; clear hBk; dsimp only)
    repeat (first | go_step3 | go_values | go_skip | go_guarded | go_step | go_upon)
    go_ret
    exact ⟨rfl, HBK.out⟩
  have hbi : ¬ (200 : Int) < m := by omega
  by_cases hbig1 : 200 < n
  · have hbi1 : (200 : Int) < n := by omega
    repeat (first | go_step3 | go_values | go_skip | go_guarded | go_step | go_upon)
    (go_at_call 6; refine (known_any _).mono ?_; rintro e wk ⟨rfl, hBk⟩; have HBK := Lib.hid hBk; clear hBk; dsimp only)
    repeat (first | go_step3 | go_values | go_skip | go_guarded | go_step | go_upon)
    go_ret
    exact ⟨rfl, HBK.out⟩
  have hbi1 : ¬ (200 : Int) < n := by omega
  repeat (first | go_step3 | go_values | go_skip | go_guarded | go_step | go_upon)
  have HRN : Hid (∀ w1, Below w.heap.size w w1 → Calls Try.prog 8 #[.slice A0 m c0] w1 (RNewP w1 l0)) := Lib.hid (fun w1 hb => by
    rw [HM.out]
    exact rnew_any (Kd.C_below H0.out.1 hb) H0.out.2)
  by_cases hg : Good l0
  case neg =>
    have HNEW := Lib.hid (new_bad H0.out.1 H0.out.2 hg)
    rw [← HM.out] at HNEW
    have HG := Lib.hid hg
    clear hg
    (go_at_call 7; refine HNEW.out.mono ?_; rintro e w1 ⟨rfl, hB⟩; have HB1 := Lib.hid hB; clear hB; dsimp only)
    repeat (first | go_step3 | go_values | go_skip | go_guarded | go_step | go_upon)
    (go_at_call 8; refine (HRN.out _ HB1.out).mono ?_; rintro e w2 hrn; have hrn2 : ∃ v, e = .returned (.tuple #[v, .int .i64 1]) ∧ Below w.heap.size w w2 := (by
      rcases hrn with ⟨hh, _⟩ | ⟨_, v, he, hb⟩
      · exact absurd hh HG.out
      · exact ⟨v, he, HB1.out.trans (hb.mono HB1.out.size)⟩); clear hrn; obtain ⟨rv, rfl, hb⟩ := hrn2; have HB2 := Lib.hid hb; clear hb; dsimp only)
    repeat (first | go_step3 | go_values | go_skip | go_guarded | go_step | go_upon)
    go_loopw [11] (fun i wr => i = .int .i64 0 ∧ Hid (Below w.heap.size w wr)) (fun i _ => 0)
    case atStart => exact ⟨rfl, HB2⟩
    case round =>
      obtain ⟨rfl, HB⟩ := hrel
      by_cases hn0 : n = 0
      · have hni : ¬ (0 : Int) < n := by omega
        have hni2 : ¬ 0 < n := by omega
        clear hn0
        repeat (first | go_step3 | go_values | go_skip | go_guarded | go_step | go_upon)
        (go_at_call 6; refine (known_any _).mono ?_; rintro e wk ⟨rfl, hBk⟩; have HBK := Lib.hid hBk; clear hBk; dsimp only)
        repeat (first | go_step3 | go_values | go_skip | go_guarded | go_step | go_upon)
        go_ret
        exact ⟨rfl, HB.out.trans (HBK.out.mono HB.out.size)⟩
      · have hni : (0 : Int) < n := by omega
        have hni2 : 0 < n := by omega
        clear hn0
        repeat (first | go_step3 | go_values | go_skip | go_guarded | go_step | go_upon)
        (go_at_call 6; refine (known_any _).mono ?_; rintro e wk ⟨rfl, hBk⟩; have HBK := Lib.hid hBk; clear hBk; dsimp only)
        repeat (first | go_step3 | go_values | go_skip | go_guarded | go_step | go_upon)
        go_ret
        exact ⟨rfl, HB.out.trans (HBK.out.mono HB.out.size)⟩
  case pos =>
  have HNEW := Lib.hid (new_ok H0.out.1 H0.out.2 hg)
  rw [← HM.out] at HNEW
  have HG := Lib.hid hg
  have hlen0 : 0 < l0.length ∧ l0.length ≤ 100 := ⟨hg.1, hg.2.1⟩
  have HLEN := Lib.hid hlen0
  have HBND : Hid (∀ x ∈ l0, 0 ≤ x ∧ x ≤ 1152921504606846976) := Lib.hid (fun x hx => by have := good_pos hg x hx; omega)
  clear hg hlen0
  (go_at_call 7; refine HNEW.out.mono ?_; rintro e w1 ⟨pg, bg, cg, rfl, hG, hp, hb, hB⟩; have S0 : Hid (St w w1 pg bg cg (startG l0).L (startG l0).t (startG l0).s) := Lib.hid ⟨hG, hB, hp, hb⟩; clear hG hp hb hB; dsimp only)
  repeat (first | go_step3 | go_values | go_skip | go_guarded | go_step | go_upon)
  (go_at_call 8; refine (HRN.out _ S0.out.bel).mono ?_; rintro e w2 hrn; have hrn2 : ∃ p bB cB, e = .returned (.tuple #[.pointer (some ⟨p, 0, none⟩), .int .i64 0]) ∧ PS w w2 w1.heap.size pg bg cg p bB cB l0 (startG l0) [] := (by
    rcases hrn with ⟨_, p, bB, cB, he, hRG, hb⟩ | ⟨hh, _⟩
    · exact ⟨p, bB, cB, he, S0.out.keep hb, ⟨_, hRG⟩, S0.out.bel.size⟩
    · exact absurd HG.out hh); clear hrn; obtain ⟨p, bB, cB, rfl, hps⟩ := hrn2; have P0 := Lib.hid hps; clear hps S0; dsimp only)
  generalize w1.heap.size = base at P0
  repeat (first | go_step3 | go_values | go_skip | go_guarded | go_step | go_upon)
  go_loopw [11] (fun i wr => ∃ k : Nat, i = .int .i64 k ∧ k ≤ n ∧ Hid (∃ v, PS w wr base pg bg cg p bB cB l0 (playG (startG l0) (l1.take k)) v ∧ Rel l0 (playG (startG l0) (l1.take k)) v ∧ v.length ≤ k)) (fun i _ => n - (intOf i).toNat)
  case atStart => exact ⟨0, rfl, Nat.zero_le _, Lib.hid ⟨[], P0.out, Rel.start l0, Nat.le_refl _⟩⟩
  clear P0
  case round =>
    obtain ⟨k, rfl, hk, HX⟩ := hrel
    obtain ⟨v, hPS, hRel, hvl⟩ := HX.out
    have HP := Lib.hid hPS
    have HR := Lib.hid hRel
    have HVL := Lib.hid hvl
    clear hPS hRel hvl HX
    by_cases hlt : k < n
    · have hki : (k : Int) < n := by omega
      have hk0 : (0 : Int) ≤ k := by omega
      have hkn : k < l1.length := by have := HN.out; omega
      have HEL : Hid (∀ W, Below w.heap.size w W → ∃ ad, A1 = some ad ∧ W.cell? (ad.add k) = some (.int .i64 (l1[k]))) := Lib.hid (fun W hW => by
        obtain ⟨ad, hA, cy⟩ := Kd.at_int (Kd.C_below H1.out hW) (k : Int) hk0 (by omega)
        rw [rd_at l1 k hkn, Int.toNat_natCast] at cy
        exact ⟨ad, hA, cy⟩)
      obtain ⟨ad, hA, cy⟩ := HEL.out _ HP.out.st.bel
      have hcy2 : ∀ W, Below w.heap.size w W → W.cell? (ad.add k) = some (.int .i64 (l1[k])) := fun W hW => by
        obtain ⟨ad2, hA2, c2⟩ := HEL.out W hW
        rw [hA] at hA2
        cases hA2
        exact c2
      have HCY := Lib.hid hcy2
      subst hA
      have hO := play_lenJ HG.out (l1.take k) 1000 (by rw [List.length_take]; omega)
      have HTK := Lib.hid (play_take (startG l0) l1 k hkn)
      have HLT := Lib.hid hlt
      clear HEL hcy2
      generalize l1[k] = x at *
      generalize playG (startG l0) (l1.take k) = S at *
      have HO := Lib.hid hO
      have cyd : wr.drew.cell? (ad.add k) = some (.int .i64 x) := cy
      have HPD := Lib.hid (HP.out.keep (below_drew (Below.refl _ _)))
      clear hkn hO hlt
      cases hx : okI x with
      | true =>
        have HADD := Lib.hid (padd_yes HPD.out HO.out (by omega) hx)
        have HRADD := Lib.hid (fun (W : World) (S2 : GS) (h : PS w W base pg bg cg p bB cB l0 S2 v) => pradd_yes h (by have := HVL.out; omega) hx)
        have HREL2 := Lib.hid (HR.out.step HO.out hx)
        clear hx
        repeat (first | go_step3 | go_values | go_skip | go_guarded | go_step | go_upon)
        go_region_with (first | (go_at_call 9; refine HADD.out.mono ?_; rintro e w5 ⟨rfl, hP5⟩; have HP5 := Lib.hid hP5; have c5 := HCY.out _ hP5.st.bel; clear hP5) | (go_at_call 10; refine (HRADD.out _ _ HP5.out).mono ?_; rintro e w6 ⟨rfl, hP6⟩; have HP6 := Lib.hid hP6; have c6 := HCY.out _ hP6.st.bel; clear hP6))
        all_goals
          repeat (first | go_step3 | go_values | go_skip | go_guarded | go_step | go_upon)
          try go_roundw
          case rel => exact ⟨k + 1, by go_num, HLT.out, Lib.hid ⟨v ++ [x], by rw [HTK.out]; exact HP6.out, by rw [HTK.out]; exact HREL2.out, by rw [List.length_append]; have := HVL.out; simp; omega⟩⟩
          case measure => have := HLT.out; simp [intOf]; omega
      | false =>
        have hxx := of_decide_eq_false hx
        have hxb : x < 0 ∨ 1099511627776 < x := by omega
        have HS : Hid (stepG S x = S) := Lib.hid (if_neg (by rw [hx]; decide))
        have HADD := Lib.hid (add_bad HPD.out.st.ga x hxb)
        have HRADD := Lib.hid (fun W : World => radd_bad (p := p) x hxb W)
        clear hx hxx hxb
        repeat (first | go_step3 | go_values | go_skip | go_guarded | go_step | go_upon)
        go_region_with (first | (go_at_call 9; refine HADD.out.mono ?_; rintro e w5 ⟨rfl, rfl⟩) | (go_at_call 10; refine (HRADD.out _).mono ?_; rintro e w6 ⟨rfl, rfl⟩))
        all_goals
          repeat (first | go_step3 | go_values | go_skip | go_guarded | go_step | go_upon)
          try go_roundw
          case rel => exact ⟨k + 1, by go_num, HLT.out, Lib.hid ⟨v, by rw [HTK.out, HS.out]; exact HPD.out, by rw [HTK.out, HS.out]; exact HR.out, by have := HVL.out; omega⟩⟩
          case measure => have := HLT.out; simp [intOf]; omega
    · have hge : ¬ (k : Int) < n := by omega
      have hge2 : ¬ k < n := by omega
      have hO := play_lenJ HG.out (l1.take k) 1000 (by rw [List.length_take]; omega)
      generalize playG (startG l0) (l1.take k) = S at *
      have HO := Lib.hid hO
      have HLV : Hid (v.length ≤ 1000) := Lib.hid (by have := HVL.out; omega)
      have HC1 := Lib.hid (fun (W : World) (h : PS w W base pg bg cg p bB cB l0 S v) => ps_total h HR.out)
      have HC2 := Lib.hid (fun (W : World) (h : PS w W base pg bg cg p bB cB l0 S v) => ps_rtotal h HR.out HLV.out)
      have HC3 := Lib.hid (fun (W : World) (h : PS w W base pg bg cg p bB cB l0 S v) => ps_rank h HR.out HO.out (by omega) q)
      have HC4 := Lib.hid (fun (W : World) (h : PS w W base pg bg cg p bB cB l0 S v) => ps_rrank h HLEN.out.1 HLEN.out.2 HLV.out q)
      have HC5 := Lib.hid (fun (W : World) (h : PS w W base pg bg cg p bB cB l0 S v) => ps_counts h HR.out)
      have HC6 := Lib.hid (fun (W : World) (h : PS w W base pg bg cg p bB cB l0 S v) => ps_rcounts h HLEN.out.1 HLEN.out.2 HLV.out)
      have HC7 := Lib.hid (fun (W : World) (h : PS w W base pg bg cg p bB cB l0 S v) => ps_show h HR.out HO.out (by omega))
      have HC8 := Lib.hid (fun (W : World) (h : PS w W base pg bg cg p bB cB l0 S v) => ps_rshow h HLEN.out.1 HLEN.out.2 HLV.out HBND.out)
      have HCL : Hid ((cntR l0 v).length = m + 1 ∧ m + 1 ≤ 1000) := Lib.hid ⟨by rw [cntR_len, ← HM.out], by omega⟩
      clear hlt hO
      repeat (first | go_step3 | go_values | go_skip | go_guarded | go_step | go_upon)
      (go_at_call 11; refine (HC1.out _ HP.out).mono ?_; rintro e w11 ⟨rfl, hB⟩; have HP11 := Lib.hid (HP.out.keep hB); clear hB; dsimp only)
      repeat (first | go_step3 | go_values | go_skip | go_guarded | go_step | go_upon)
      (go_at_call 12; refine (HC2.out _ HP11.out).mono ?_; rintro e w12 ⟨rfl, hB⟩; have HP12 := Lib.hid (HP11.out.keep hB); clear hB; dsimp only)
      repeat (first | go_step3 | go_values | go_skip | go_guarded | go_step | go_upon)
      (go_at_call 13; refine (HC3.out _ HP12.out).mono ?_; rintro e w13 ⟨rfl, hB⟩; have HP13 := Lib.hid (HP12.out.keep hB); clear hB; dsimp only)
      repeat (first | go_step3 | go_values | go_skip | go_guarded | go_step | go_upon)
      (go_at_call 14; refine (HC4.out _ HP13.out).mono ?_; rintro e w14 ⟨rfl, hB⟩; have HP14 := Lib.hid (HP13.out.keep hB); clear hB; dsimp only)
      repeat (first | go_step3 | go_values | go_skip | go_guarded | go_step | go_upon)
      (go_at_call 15; refine (HC5.out _ HP14.out).mono ?_; rintro e w15 ⟨v15, rfl, hR, hB⟩; obtain ⟨gc, cap, hv15, hgc, _, _⟩ := Kd.R_form hR (by have := HCL.out; omega); rw [HCL.out.1] at hv15; subst hv15; have HGC := Lib.hid hgc; have HR15 := Lib.hid hR; have HB15 := Lib.hid hB; have HP15 := Lib.hid (HP14.out.keep hB); clear hR hB hgc; dsimp only)
      repeat (first | go_step3 | go_values | go_skip | go_guarded | go_step | go_upon)
      (go_at_call 17; refine (HC6.out _ HP15.out).mono ?_; rintro e w16 ⟨v16, rfl, hR, hB⟩; obtain ⟨A16, c16, hv16, hc16, hC16⟩ := Kd.R_reads hR; rw [HCL.out.1] at hv16 hc16 hC16; subst hv16; have HR16 := Lib.hid (Kd.R_below HR15.out hB); have HB16 := Lib.hid (HB15.out.trans (hB.mono HB15.out.size)); have HP16 := Lib.hid (HP15.out.keep hB); have HK16 := Lib.hid (And.intro hC16 hc16); clear hR hB hC16 hc16; dsimp only)
      have HI16 : Hid (Kd.C (Kd.int .i64) w16 (some ⟨gc, 0, none⟩) (m + 1) (cntR l0 v) ∧ m + 1 ≤ cap) := Lib.hid (by
        obtain ⟨A, c, hv, hle, hC⟩ := Kd.R_reads HR16.out
        rw [HCL.out.1] at hv hle hC
        cases hv
        exact ⟨hC, hle⟩)
      repeat (first | go_step3 | go_values | go_skip | go_guarded | go_step | go_upon)
      (go_at_call 16; refine (ints_same HCL.out.1 HCL.out.2 HI16.out.1 HI16.out.2 HK16.out.1 HK16.out.2).mono ?_; rintro e w17 ⟨rfl, hB⟩; have HR17 := Lib.hid (Kd.R_below HR16.out hB); have HB17 := Lib.hid (HB16.out.trans (hB.mono HB16.out.size)); clear hB; dsimp only)
      have hr17 := HR17.out
      have hcl17 := HCL.out.1
      obtain ⟨xz, hxz, fz⟩ : ∃ xz : Value, w17.cell? ⟨gc, 0, none⟩ = some xz ∧ w17.frozen? ⟨gc, 0, none⟩ = false := by
        rw [← hcl17] at hr17
        have := Kd.R_cell 0 hr17 0 (Int.le_refl 0) (by rw [hcl17]; omega)
        exact ⟨_, this.1, this.2⟩
      have hm1 : (0 : Int) < ((m + 1 : Nat) : Int) := by omega
      have HP18 := Lib.hid (HP14.out.keep (HB17.out.setCell (p := ⟨gc, 0, none⟩) HGC.out (.int .i64 (-7))))
      clear hr17 hcl17
      repeat (first | go_step3 | go_values | go_skip | go_guarded | go_step | go_upon)
      (go_at_call 15; refine (HC5.out _ HP18.out).mono ?_; rintro e w19 ⟨v19, rfl, hR, hB⟩; obtain ⟨A19, c19, hv19, hc19, hC19⟩ := Kd.R_reads hR; rw [HCL.out.1] at hv19 hc19 hC19; subst hv19; have HP19 := Lib.hid (HP18.out.keep hB); have HK19 := Lib.hid (And.intro hC19 hc19); clear hR hB hC19 hc19; dsimp only)
      repeat (first | go_step3 | go_values | go_skip | go_guarded | go_step | go_upon)
      (go_at_call 17; refine (HC6.out _ HP19.out).mono ?_; rintro e w20 ⟨v20, rfl, hR, hB⟩; obtain ⟨A20, c20, hv20, hc20, hC20⟩ := Kd.R_reads hR; rw [HCL.out.1] at hv20 hc20 hC20; subst hv20; have HP20 := Lib.hid (HP19.out.keep hB); have HK20 := Lib.hid (And.intro hC20 hc20); have HKK := Lib.hid (Kd.C_below HK19.out.1 hB); clear hR hB hC20 hc20; dsimp only)
      repeat (first | go_step3 | go_values | go_skip | go_guarded | go_step | go_upon)
      (go_at_call 16; refine (ints_same HCL.out.1 HCL.out.2 HKK.out HK19.out.2 HK20.out.1 HK20.out.2).mono ?_; rintro e w21 ⟨rfl, hB⟩; have HP21 := Lib.hid (HP20.out.keep hB); clear hB; dsimp only)
      repeat (first | go_step3 | go_values | go_skip | go_guarded | go_step | go_upon)
      (go_at_call 18; refine (HC7.out _ HP21.out).mono ?_; rintro e w22 ⟨rfl, hB⟩; have HP22 := Lib.hid (HP21.out.keep hB); clear hB; dsimp only)
      repeat (first | go_step3 | go_values | go_skip | go_guarded | go_step | go_upon)
      (go_at_call 19; refine (HC8.out _ HP22.out).mono ?_; rintro e w23 ⟨rfl, hB⟩; have HP23 := Lib.hid (HP22.out.keep hB); clear hB; dsimp only)
      repeat (first | go_step3 | go_values | go_skip | go_guarded | go_step | go_upon)
      (go_at_call 6; refine (known_any _).mono ?_; rintro e wk ⟨rfl, hBk⟩; have HBK := Lib.hid hBk; clear hBk; dsimp only)
      repeat (first | go_step3 | go_values | go_skip | go_guarded | go_step | go_upon)
      go_ret
      exact ⟨rfl, HP23.out.st.bel.trans (HBK.out.mono HP23.out.st.bel.size)⟩
end
theorem plays_walk {w : World} {m0 m1 base : Nat} {v0 v1 : Value} (hv0 : Value.okWide Try.prog w .any base 22 v0) (hd0 : Rd Try.prog w m0 22 v0.cells.toList) (hv1 : Value.okWide Try.prog w .any base 22 v1) (hd1 : Rd Try.prog w m1 22 v1.cells.toList) (q : Int) : Calls Try.prog 3 #[v0, v1, .int .i64 q] w fun e w' => e = .returned (.bool true) ∧ Below w.heap.size w w' := by
  obtain ⟨A0, c0, l0, rfl, a1, a2, _⟩ := ints_arg hv0 hd0
  obtain ⟨A1, c1, l1, rfl, b1, _, _⟩ := ints_arg hv1 hd1
  exact plays_any a1 a2 b1 q
end Go.Proofs.Ytmgcmheiabmajaa
