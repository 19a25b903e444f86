/- FlightKeys: the plain law, and the walk. -/
import Derived.Test.YtjmgookpmngmaabFlOpen
namespace Go.Proofs.Ytjmgookpmngmaab
open Go Go.RowKit Go.Maps

def evs (i : Nat) : List Int := (List.range i).map fun j : Nat => 2 * (j : Int)
def ods (i : Nat) : List Int := (List.range i).map fun j : Nat => 2 * (j : Int) + 1
theorem evs_succ (i : Nat) : evs (i + 1) = evs i ++ [2 * (i : Int)] := by simp [evs, List.range_succ]
theorem ods_succ (i : Nat) : ods (i + 1) = ods i ++ [2 * (i : Int) + 1] := by simp [ods, List.range_succ]
theorem evs_length (i : Nat) : (evs i).length = i := by simp [evs]
theorem ods_length (i : Nat) : (ods i).length = i := by simp [ods]
theorem evs_head (i : Nat) : (evs (i + 1)).headD 0 = 0 := by simp [evs, List.range_succ_eq_map]
theorem ods_head (i : Nat) : (ods (i + 1)).headD 0 = 1 := by simp [ods, List.range_succ_eq_map]

/-- After i rounds. -/
def KR (a b : Key) (i : Nat) (M : BM) : Prop :=
  M.fl = (if i = 0 then [] else [(a, evs i), (b, ods i)]) ∧ (∀ j : Nat, j < i → mget M.cl (2 * (j : Int) + 1) = some b) ∧ ∀ c : Int, 2 * (i : Int) ≤ c → mget M.cl c = none

theorem KR.zero (a b : Key) : KR a b 0 ⟨[], []⟩ := ⟨rfl, fun j hj => absurd hj (by omega), fun c _ => rfl⟩
theorem KR.step {a b : Key} {i : Nat} {M : BM} (hab : a ≠ b) (h : KR a b i M) : KR a b (i + 1) (((M.ask a (2 * (i : Int))).2.2.ask b (2 * (i : Int) + 1)).2.2) := by
  obtain ⟨h1, h2, h3⟩ := h
  rw [BM.ask_new (by omega) (h3 _ (Int.le_refl _))]
  have e2 : mget (mput M.cl (2 * (i : Int)) a) (2 * (i : Int) + 1) = none := by rw [mget_mput, if_neg (by omega)]; exact h3 _ (by omega)
  simp only
  rw [BM.ask_new (by omega) e2]
  simp only
  refine ⟨?_, fun j hj => ?_, fun c hc => ?_⟩
  · rw [if_neg (by omega)]
    simp only [h1]
    by_cases hi : i = 0
    · subst hi
      simp [mget, mput, hab, evs, ods]
    · rw [if_neg hi]
      simp [mget, mput, hab, evs_succ, ods_succ]
  · simp only [mget_mput]
    by_cases e : j = i
    · subst e; rw [if_pos rfl]
    · rw [if_neg (by omega), if_neg (by omega)]; exact h2 j (by omega)
  · simp only [mget_mput]
    rw [if_neg (by omega), if_neg (by omega)]; exact h3 c (by omega)

theorem KR.land1 {a b : Key} {m : Nat} {M : BM} (h : KR a b (m + 1) M) : M.land a = (0, (evs (m + 1)).tail, true, ⟨mdel M.fl a, dropAll M.cl (evs (m + 1))⟩) := by
  unfold BM.land
  rw [h.1, if_neg (by omega)]
  simp [mget]
  simp [evs, List.range_succ_eq_map]
theorem KR.after {a b : Key} {m : Nat} {M : BM} (hab : a ≠ b) (h : KR a b (m + 1) M) : mdel M.fl a = [(b, ods (m + 1))] := by
  rw [h.1, if_neg (by omega)]
  simp [mdel, List.filter, hab.symm]
theorem KR.waits {a b : Key} {m : Nat} {M : BM} (h : KR a b (m + 1) M) (fl : List (Key × List Int)) : (BM.mk fl (dropAll M.cl (evs (m + 1)))).waits (2 * (m : Int) + 1) = (b, true) := by
  unfold BM.waits
  rw [mget_dropAll, if_neg, h.2.1 m (by omega)]
  simp [evs]; omega
theorem keys_leader {b : Key} {m : Nat} (cl : List (Int × Key)) : (BM.mk [(b, ods (m + 1))] cl).leader b = (1, true) := by
  simp [BM.leader, mget, ods, List.range_succ_eq_map]
theorem keys_land {b : Key} {m : Nat} (cl : List (Int × Key)) : (BM.mk [(b, ods (m + 1))] cl).land b = (1, (ods (m + 1)).tail, true, ⟨[], dropAll cl (ods (m + 1))⟩) := by
  simp [BM.land, mget, mdel]
  simp [ods, List.range_succ_eq_map]

attribute [local go_sem high] key_eql
set_option maxRecDepth 8000 in
set_option maxHeartbeats 4000000 in
theorem FlightKeys_walk (w : World) (a b : Key) (ha : SzK a) (hb : SzK b) (n : Int) (hn : (Lit.int .u8 n).wf = true) :
    Calls Try.prog 5 #[keyV a, keyV b, .int .u8 n] w fun e w' => e = .returned (.bool true) ∧ Below w.heap.size w w' := by
  simp only [keyV]
  go_enter Try.func5, Try.ntmps5
  go_wp2_with fail
  have ka := (KBox.new w a).alloc (.cells #[.string b.db, .string b.role, .int .i64 b.format, .string b.norm] 28)
  have kb := KBox.new (boxK w a) b
  have tW : Touch [] w (boxK (boxK w a) b) := ((Touch.refl _ _).alloc _).alloc _
  have hga : w.heap.size < (boxK (boxK w a) b).heap.size := by simp [boxK]; omega
  have hgb : w.heap.size + 1 < (boxK (boxK w a) b).heap.size := by simp [boxK]
  have e1 : (boxK w a).heap.size = w.heap.size + 1 := by simp [boxK]
  rw [e1] at kb
  change KBox (boxK (boxK w a) b) w.heap.size a at ka
  unfold boxK at ka kb tW hga hgb
  generalize (w.alloc (.cells #[.string a.db, .string a.role, .int .i64 a.format, .string a.norm] 28)).alloc (.cells #[.string b.db, .string b.role, .int .i64 b.format, .string b.norm] 28) = W at ka kb tW hga hgb ⊢
  clear e1
  generalize hwa : w.heap.size = ga at ka hga kb hgb ⊢
  generalize hwb : ga + 1 = gb at kb hgb ⊢
  refine (NewB W).mono ?_
  rintro e w1 ⟨pb, rfl, b1, t1⟩
  have ka := ka.touch t1
  have kb := kb.touch t1
  have tW := tW.trans t1 (by simp)
  obtain ⟨a0, a1, a2, a3⟩ := ka
  go_wp2_with fail
  refine (short_any w1 a ha).mono ?_
  rintro e w2 ⟨rfl, t2⟩
  have b2 := b1.kept t2
  have tW := tW.trans t2 (by simp)
  have kb := kb.touch t2
  obtain ⟨a0, a1, a2, a3⟩ := KBox.touch ⟨a0, a1, a2, a3⟩ t2
  cases hsa : shortK a with
  | false =>
    go_wp2_with fail
    refine (known_any w2).mono ?_
    rintro e w3 ⟨rfl, t3⟩
    go_wp2
    go_ret
    exact ⟨rfl, (tW.below0 (Nat.le_refl _)).trans (t3.mono tW.size)⟩
  | true =>
  obtain ⟨c0, c1, c2, c3⟩ := kb
  go_wp2_with fail
  refine (short_any w2 b hb).mono ?_
  rintro e w3 ⟨rfl, t3⟩
  have b3 := b2.kept t3
  have tW := tW.trans t3 (by simp)
  obtain ⟨c0, c1, c2, c3⟩ := KBox.touch ⟨c0, c1, c2, c3⟩ t3
  obtain ⟨a0, a1, a2, a3⟩ := KBox.touch ⟨a0, a1, a2, a3⟩ t3
  cases hsb : shortK b with
  | false =>
    go_wp2_with fail
    refine (known_any w3).mono ?_
    rintro e w4 ⟨rfl, t4⟩
    go_wp2
    go_ret
    exact ⟨rfl, (tW.below0 (Nat.le_refl _)).trans (t4.mono tW.size)⟩
  | true =>
  cases hab : sameK a b with
  | true =>
    go_wp2_with fail
    refine (known_any w3).mono ?_
    rintro e w4 ⟨rfl, t4⟩
    go_wp2
    go_ret
    exact ⟨rfl, (tW.below0 (Nat.le_refl _)).trans (t4.mono tW.size)⟩
  | false =>
  go_wp2_with fail
  obtain ⟨mm, hm, hm0, hm20⟩ : ∃ mm : Nat, wrap64 (1 + (wrap64 n).tmod 20) = (mm : Int) ∧ 0 < mm ∧ mm ≤ 20 := by
    have h1 := u8_range hn
    obtain ⟨q, rfl⟩ : ∃ q : Nat, n = q := ⟨n.toNat, by omega⟩
    refine ⟨q % 20 + 1, ?_, by omega, by omega⟩
    have e1 : wrap64 (q : Int) = q := by unfold wrap64; omega
    rw [e1, Int.tmod_eq_emod_of_nonneg (by omega)]
    unfold wrap64; omega
  rw [hm]
  have hne : a ≠ b := by simpa [sameK] using hab
  have B := Lib.hid hne
  have ha' := Lib.hid ha; have hb' := Lib.hid hb
  have K0 : Kept W.heap.size [] w3 w3 := ⟨Below.refl _ _, by simp⟩
  clear hm hn hab hne hsa hsb ka kb b1 b2 t1 t2 t3 ha hb
  generalize hB : W.heap.size = Bz at *
  go_loopw [9] (fun i wr => ∃ (j : Nat) (M : BM), j ≤ mm ∧ i = .int .i64 j ∧ Bd Bz [] wr pb M (2 * j) ∧ KR a b j M ∧ Kept Bz [] w3 wr) (fun i _ => mm - (intOf i).toNat)
  case atStart => exact ⟨0, _, Nat.zero_le _, rfl, b3, KR.zero a b, K0⟩
  case round =>
    obtain ⟨j, M, hj, rfl, hb, hk, ht⟩ := hrel
    obtain ⟨d0, d1, d2, d3⟩ := KBox.low ⟨a0, a1, a2, a3⟩ ht hga
    obtain ⟨g0, g1, g2, g3⟩ := KBox.low ⟨c0, c1, c2, c3⟩ ht hgb
    by_cases hlt : j < mm
    · go_wp2_with fail
      refine (AskB hb (by omega) a ha'.out.good (2 * (j : Int)) (goodI_small (by omega) (by omega))).mono ?_
      rintro e w5 ⟨rfl, hb5, z5⟩
      obtain ⟨g0, g1, g2, g3⟩ := KBox.low ⟨g0, g1, g2, g3⟩ z5 hgb
      go_wp2_with fail
      refine (AskB hb5 (by omega) b hb'.out.good (2 * (j : Int) + 1) (goodI_small (by omega) (by omega))).mono ?_
      rintro e w6 ⟨rfl, hb6, z6⟩
      have hk' := Lib.hid (hk.step B.out)
      have ht' := (ht.trans z5).trans z6
      clear hk g0 g1 g2 g3 d0 d1 d2 d3
      go_wp2_with fail
      go_roundw
      case rel => exact ⟨j + 1, _, by omega, by go_num, hb6.mono (by omega), hk'.out, ht'⟩
      case measure => simp [intOf]; omega
    · have hjm : j = mm := by omega
      subst hjm
      obtain ⟨m, hm⟩ : ∃ m, j = m + 1 := ⟨j - 1, by omega⟩
      go_wp2_with fail
      refine (LandB hb (by omega) a ha'.out.good).mono ?_
      rintro e w5 ⟨A5, cp5, he, b5, _, z5⟩
      rw [hm] at hk
      rw [hk.land1] at he b5
      simp only [hk.after B.out] at b5
      simp only [List.length_tail, evs_length, Nat.add_sub_cancel] at he
      replace b5 := b5.rest (ks' := []) (by simp)
      subst he
      have hwaits := Lib.hid (hk.waits [(b, ods (m + 1))])
      obtain ⟨g0, g1, g2, g3⟩ := KBox.low ⟨g0, g1, g2, g3⟩ z5 hgb
      have ht5 := ht.trans z5
      clear hk d0 d1 d2 d3 ht z5 hb K0 b3
      go_wp2_with fail
      refine (LeaderB b5 b hb'.out.good).mono ?_
      rintro e w6 ⟨he, b6, t6⟩
      rw [keys_leader] at he
      subst he
      have z6 := b5.keeps t6
      obtain ⟨g0, g1, g2, g3⟩ := KBox.low ⟨g0, g1, g2, g3⟩ z6 hgb
      have hw1 : 2 * ((m : Int) + 1) - 1 = 2 * (m : Int) + 1 := by omega
      go_wp2_with fail
      refine (WaitsB b6 (2 * (m : Int) + 1) (goodI_small (by omega) (by omega))).mono ?_
      rintro e w7 ⟨he, b7, t7⟩
      rw [hwaits.out] at he
      subst he
      have z7 := b6.keeps t7
      have ht7 := (ht5.trans z6).trans z7
      simp only [keyV]
      have kq := KBox.new w7 b
      obtain ⟨g0, g1, g2, g3⟩ := KBox.low ⟨g0, g1, g2, g3⟩ z7 hgb
      have b8 := b7.box (.cells #[.string b.db, .string b.role, .int .i64 b.format, .string b.norm] 28)
      have hlt7 : gb < w7.heap.size := Nat.lt_of_lt_of_le hgb b7.2.2.1
      have e8 := (KBox.alloc (k := b) ⟨g0, g1, g2, g3⟩ (.cells #[.string b.db, .string b.role, .int .i64 b.format, .string b.norm] 28))
      have ht8 := ht7.1.alloc b7.2.2.1 (.cells #[.string b.db, .string b.role, .int .i64 b.format, .string b.norm] 28)
      clear z6 z7 b6 b5 t6 t7 ht5 ht7
      go_wp2_with fail
      unfold boxK at kq
      generalize hkq : w7.heap.size = kk at kq b8 hlt7 ⊢
      generalize w7.alloc (.cells #[.string b.db, .string b.role, .int .i64 b.format, .string b.norm] 28) = V at kq b8 e8 ht8 ⊢
      clear g0 g1 g2 g3
      refine (LandB b8 (by omega) b hb'.out.good).mono ?_
      rintro e w9 ⟨A9, cp9, he, b9, _, z9⟩
      rw [keys_land] at he b9
      simp only [List.length_tail, ods_length, Nat.add_sub_cancel] at he
      subst he
      obtain ⟨g0, g1, g2, g3⟩ := e8.low z9 hgb
      obtain ⟨q0, q1, q2, q3⟩ := kq.watched z9 (by simp)
      have ht9 := ht8.trans z9.1
      clear b8 e8 kq hkq hlt7 ht8
      have hsame : sameK b b = true := by simp [sameK]
      go_wp2_with fail
      have hsz9 : Bz ≤ w9.heap.size := b9.2.2.1
      refine (OpenB b9).mono ?_
      rintro e w10 ⟨rfl, rfl⟩
      go_wp2_with fail
      refine (known_any w9).mono ?_
      rintro e w11 ⟨rfl, t11⟩
      go_wp2
      go_ret
      have hwB : w.heap.size ≤ Bz := by rw [hwa]; exact Nat.le_of_lt hga
      exact ⟨rfl, ((tW.below0 (Nat.le_refl _)).trans (ht9.mono hwB)).trans (t11.mono (Nat.le_trans hwB hsz9))⟩
end Go.Proofs.Ytjmgookpmngmaab
