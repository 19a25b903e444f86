/- FlightOnce: the plain law, and the walk. -/
import Derived.Test.YtjmgookpmngmaabFlOpen
namespace Go.Proofs.Ytjmgookpmngmaab
open Go Go.RowKit Go.Maps

/-- A key lies there. -/
def KAt (w : World) (p : Addr) (k : Key) : Prop := w.cell? p = some (.string k.db) ∧ w.cell? ⟨p.block, p.off + 1, none⟩ = some (.string k.role) ∧ w.cell? ⟨p.block, p.off + 2, none⟩ = some (.int .i64 k.format) ∧ w.cell? ⟨p.block, p.off + 3, none⟩ = some (.string k.norm)
theorem KAt.lt {w : World} {p : Addr} {k : Key} (h : KAt w p k) : p.block < w.heap.size := World.block_lt_of_cell? w _ h.1
theorem KAt.touch {w w' : World} {p : Addr} {k : Key} (h : KAt w p k) (t : Touch [] w w') : KAt w' p k := ⟨t.cell h.1 (by simp), t.cell h.2.1 (by simp), t.cell h.2.2.1 (by simp), t.cell h.2.2.2 (by simp)⟩
theorem KAt.low {B : Nat} {ks : List Nat} {w w' : World} {p : Addr} {k : Key} (h : KAt w p k) (t : Kept B ks w w') (hg : p.block < B) : KAt w' p k := ⟨t.low h.1 hg, t.low h.2.1 hg, t.low h.2.2.1 hg, t.low h.2.2.2 hg⟩
/-- A row of keys among the arguments. -/
def RowK (w : World) (a : Addr) (n : Nat) (ks : List Key) : Prop := n = ks.length ∧ ∀ (j : Nat) (k : Key), ks[j]? = some k → KAt w (a.add (j * 4)) k

theorem keys_of_arg {w : World} {m base : Nat} {v : Value} (hv : Value.okWide Try.prog w .any base 22 v) (h : Rd Try.prog w m 22 v.cells.toList) :
    ∃ A n cp ks, v = .slice A n cp ∧ n = ks.length ∧ (∀ a, A = some a → RowK w a n ks) ∧ (A = none → n = 0) ∧ (∀ k ∈ ks, SzK k) ∧ n ≤ maxLen := by
  obtain ⟨A, n, cp, rfl⟩ := Go.WideShapes.okWide_slice Try.underlying22 hv
  rcases h.slice Try.underlying22 with h0 | ⟨a, len, cap, m', h0, hl, hc, _, hx⟩
  · simp [Value.cells] at h0
    obtain ⟨rfl, rfl, rfl⟩ := h0
    exact ⟨none, 0, 0, [], rfl, rfl, by simp, by simp, by simp, by decide⟩
  · simp [Value.cells] at h0
    obtain ⟨rfl, rfl, rfl⟩ := h0
    have c4 : Try.prog.cellsOf 28 = 4 := by kernel_rfl
    rw [c4] at hx
    have hK : ∀ i, ∃ k : Key, i < n → KAt w (a.add (i * 4)) k ∧ SzK k := fun i => by
      by_cases hi : i < n
      · obtain ⟨cs, h1, h2⟩ := hx i hi
        obtain ⟨k, hk, hs⟩ := key_of_cells h2
        obtain ⟨_, _, hcell⟩ := World.cells?_some h1
        subst hk
        have f0 := hcell 0 (by decide)
        have f1 := hcell 1 (by decide)
        have f2 := hcell 2 (by decide)
        have f3 := hcell 3 (by decide)
        exact ⟨k, fun _ => ⟨⟨f0, f1, f2, f3⟩, hs⟩⟩
      · exact ⟨zk, fun h => absurd h hi⟩
    obtain ⟨K, hK⟩ := Classical.axiomOfChoice hK
    refine ⟨some a, n, cp, (List.range n).map K, rfl, by simp, fun b hb => ?_, by simp, fun k hk => ?_, Nat.le_trans hl hc⟩
    · cases hb
      refine ⟨by simp, fun j k hj => ?_⟩
      simp only [List.getElem?_map, Option.map_eq_some_iff] at hj
      obtain ⟨j', hj', rfl⟩ := hj
      obtain ⟨h1, h2⟩ := List.getElem?_eq_some_iff.1 hj'
      simp at h1 h2
      subst h2
      exact (hK j h1).1
    · obtain ⟨j, hj, rfl⟩ := List.mem_map.1 hk
      exact (hK j (List.mem_range.1 hj)).2

/-- After i have asked. -/
def O1 (ks : List Key) (i : Nat) (M : BM) : Prop := (∀ j : Nat, j < i → mget M.cl (j : Int) = ks[j]?) ∧ ∀ c : Int, (c < 0 ∨ (i : Int) ≤ c) → mget M.cl c = none
theorem O1.zero (ks : List Key) : O1 ks 0 ⟨[], []⟩ := ⟨fun j hj => absurd hj (by omega), fun _ _ => rfl⟩
theorem O1.ask {ks : List Key} {i : Nat} {M : BM} {k : Key} (h : O1 ks i M) : M.ask k i = (((mget M.fl k).getD []).isEmpty, 0, ⟨mput M.fl k ((mget M.fl k).getD [] ++ [(i : Int)]), mput M.cl i k⟩) :=
  BM.ask_new (by omega) (h.2 _ (.inr (Int.le_refl _)))
theorem leader_open {M : BM} {n : Nat} (ok : M.Ok n) (k : Key) : (M.leader k).2 = !((mget M.fl k).getD []).isEmpty := by
  unfold BM.leader
  cases hk : mget M.fl k with
  | none => rfl
  | some l =>
    have := (ok.back k l hk).1
    match l, this with
    | _ :: _, _ => rfl
theorem O1.step {ks : List Key} {i : Nat} {M : BM} {k : Key} (h : O1 ks i M) (hk : ks[i]? = some k) (fl : List (Key × List Int)) : O1 ks (i + 1) ⟨fl, mput M.cl i k⟩ := by
  refine ⟨fun j hj => ?_, fun c hc => ?_⟩
  · simp only [mget_mput]
    by_cases e : i = j
    · subst e; rw [if_pos rfl, hk]
    · rw [if_neg (by omega)]; exact h.1 j (by omega)
  · simp only [mget_mput]
    rw [if_neg (by omega)]; exact h.2 c (by omega)
theorem ask_again (fl : List (Key × List Int)) (cl : List (Int × Key)) (k : Key) (i : Nat) : (BM.mk fl (mput cl (i : Int) k)).ask k i = (false, 10, ⟨fl, mput cl i k⟩) := by
  unfold BM.ask
  rw [if_neg (by omega), if_pos (by simp [mget_mput])]
theorem waits_new (fl : List (Key × List Int)) (cl : List (Int × Key)) (k : Key) (i : Nat) : (BM.mk fl (mput cl (i : Int) k)).waits i = (k, true) := by simp [BM.waits, mget_mput]
theorem leads_step {M : BM} {n : Nat} (ok : M.Ok n) (k : Key) (l : List Int) : ((mput M.fl k l).length : Int) = M.fl.length + if ((mget M.fl k).getD []).isEmpty then 1 else 0 := by
  cases hk : mget M.fl k with
  | none => rw [mput_length_new hk]; simp
  | some l' =>
    have := (ok.back k l' hk).1
    rw [mput_length_has hk]
    match l', this with
    | _ :: _, _ => simp

/-- While they land. -/
def O2 (ks : List Key) (i : Nat) (M : BM) : Prop := ∀ c k, mget M.cl c = some k → ∃ j : Nat, c = j ∧ i ≤ j ∧ ks[j]? = some k
theorem O1.to2 {ks : List Key} {M : BM} (h : O1 ks ks.length M) : O2 ks 0 M := by
  intro c k hc
  by_cases h1 : c < 0 ∨ (ks.length : Int) ≤ c
  · rw [h.2 c h1] at hc; cases hc
  · obtain ⟨j, rfl⟩ : ∃ j : Nat, c = j := ⟨c.toNat, by omega⟩
    exact ⟨j, rfl, Nat.zero_le _, by rw [← h.1 j (by omega)]; exact hc⟩
theorem cl_length {M : BM} {n m : Nat} (ok : M.Ok n) {ks : List Key} (h : O1 ks m M) (hm : m ≤ ks.length) : M.cl.length = m := by
  have h1 : (M.cl.map (·.1)).Perm ((List.range m).map fun j : Nat => (j : Int)) := by
    refine (List.perm_ext_iff_of_nodup ok.cln ?_).2 fun c => ?_
    · exact List.Pairwise.map _ (fun a b h e => h (by exact_mod_cast e)) List.nodup_range
    · simp only [List.mem_map, List.mem_range]
      constructor
      · rintro ⟨p, hp, rfl⟩
        have hg := mem_mget ok.cln (x := p.1) (v := p.2) hp
        by_cases h1 : p.1 < 0 ∨ (m : Int) ≤ p.1
        · rw [h.2 _ h1] at hg; cases hg
        · exact ⟨p.1.toNat, by omega, by omega⟩
      · rintro ⟨j, hj, rfl⟩
        have hg := h.1 j hj
        rw [List.getElem?_eq_getElem (by omega)] at hg
        exact ⟨_, mget_mem hg, rfl⟩
  have := h1.length_eq
  simpa using this
theorem O2.miss {ks : List Key} {i n : Nat} {M : BM} {k : Key} (ok : M.Ok n) (h : O2 ks i M) (hk : ks[i]? = some k) (hl : mget M.fl k = none) : M.land k = (0, [], false, M) ∧ mget M.cl (i : Int) = none ∧ O2 ks (i + 1) M := by
  have hi : mget M.cl (i : Int) = none := by
    cases hc : mget M.cl (i : Int) with
    | none => rfl
    | some k' =>
      obtain ⟨j, e, _, hj⟩ := h _ _ hc
      have e' : i = j := by omega
      subst e'
      rw [hk] at hj; cases hj
      obtain ⟨l, hl', _⟩ := ok.into _ _ hc
      rw [hl] at hl'; cases hl'
  refine ⟨by simp [BM.land, hl], hi, fun c k' hc => ?_⟩
  obtain ⟨j, e, hj, hj2⟩ := h c k' hc
  refine ⟨j, e, ?_, hj2⟩
  rcases Nat.eq_or_lt_of_le hj with e2 | h2
  · subst e2; subst e; rw [hi] at hc; cases hc
  · exact h2
theorem O2.hit {ks : List Key} {i n : Nat} {M : BM} {k : Key} {l : List Int} (ok : M.Ok n) (h : O2 ks i M) (hk : ks[i]? = some k) (hl : mget M.fl k = some l) :
    ∃ (j : Nat) (t : List Int), l = (j : Int) :: t ∧ ks[j]? = some k ∧ M.land k = ((j : Int), t, true, ⟨mdel M.fl k, dropAll M.cl l⟩) ∧ mget (dropAll M.cl l) (i : Int) = none ∧ O2 ks (i + 1) ⟨mdel M.fl k, dropAll M.cl l⟩ ∧ (dropAll M.cl l).length + 1 + t.length = M.cl.length := by
  obtain ⟨b1, b2, b3⟩ := ok.back k l hl
  match l, b1 with
  | x :: t, _ =>
    obtain ⟨j, e, hj, hj2⟩ := h x k (b3 x (by simp))
    subst e
    have hi : mget (dropAll M.cl ((j : Int) :: t)) (i : Int) = none := by
      rw [mget_dropAll]
      split
      · rfl
      · next hm =>
        cases hc : mget M.cl (i : Int) with
        | none => rfl
        | some k' =>
          obtain ⟨j', e, _, hj'⟩ := h _ _ hc
          have e' : i = j' := by omega
          subst e'
          rw [hk] at hj'; cases hj'
          obtain ⟨l', hl', hm'⟩ := ok.into _ _ hc
          rw [hl] at hl'; cases hl'
          exact absurd hm' hm
    refine ⟨j, t, rfl, hj2, by simp [BM.land, hl], hi, fun c k' hc => ?_, ?_⟩
    · have hc' := hc
      simp only [mget_dropAll] at hc
      split at hc
      · cases hc
      · obtain ⟨j', e, h1, h2⟩ := h c k' hc
        refine ⟨j', e, ?_, h2⟩
        rcases Nat.eq_or_lt_of_le h1 with e2 | h3
        · subst e2; subst e; simp only at hc'; rw [hi] at hc'; cases hc'
        · exact h3
    · have := dropAll_length (l := (j : Int) :: t) ok.cln b2 fun c hc => ⟨k, b3 c hc⟩
      simp only [List.length_cons] at this
      omega
theorem O2.done {ks : List Key} {n : Nat} {M : BM} (ok : M.Ok n) (h : O2 ks ks.length M) : M.cl = [] ∧ M.fl = [] := by
  have h1 : ∀ c k, mget M.cl c ≠ some k := fun c k hc => by
    obtain ⟨j, _, hj, hk⟩ := h c k hc
    rw [List.getElem?_eq_none hj] at hk; cases hk
  refine ⟨List.eq_nil_iff_forall_not_mem.2 fun p hp => h1 _ _ (mem_mget ok.cln (x := p.1) (v := p.2) hp), List.eq_nil_iff_forall_not_mem.2 fun p hp => ?_⟩
  have hg := mem_mget ok.fln (x := p.1) (v := p.2) hp
  obtain ⟨b1, _, b3⟩ := ok.back _ _ hg
  match hl : p.2, b1 with
  | x :: _, _ => exact h1 _ _ (b3 x (by rw [hl]; simp))

attribute [local go_sem high] key_eql key_neq
set_option maxRecDepth 8000 in
set_option maxHeartbeats 4000000 in
theorem FlightOnce_walk (w : World) (A : Option Addr) (n cp : Nat) (ks : List Key) (hn : n = ks.length) (hA : ∀ a, A = some a → RowK w a n ks) (h0 : A = none → n = 0) (hs : ∀ k ∈ ks, SzK k) (hm : n ≤ maxLen) :
    Calls Try.prog 3 #[.slice A n cp] w fun e w' => e = .returned (.bool true) ∧ Below w.heap.size w w' := by
  go_enter Try.func3, Try.ntmps3
  go_wp2_with fail
  refine (NewB w).mono ?_
  rintro e w1 ⟨pb, rfl, b1, t1⟩
  have hnI : ((n : Nat) : Int) = (ks.length : Int) := by omega
  by_cases h40 : 40 < n
  · go_wp2_with fail
    refine (known_any w1).mono ?_
    rintro e w11 ⟨rfl, t11⟩
    go_wp2
    go_ret
    exact ⟨rfl, (t1.below0 (Nat.le_refl _)).trans (t11.mono t1.size)⟩
  have Hs := Lib.hid hs; have HA := Lib.hid hA; have H0 := Lib.hid h0
  have Hn := Lib.hid hn
  have hle : ¬ (40 : Int) < (n : Int) := by omega
  clear hs hA h0 hn hnI
  go_wp2_with fail
  have K0 : Kept w.heap.size [] w1 w1 := ⟨Below.refl _ _, by simp⟩
  generalize hB : w.heap.size = Bz at *
  go_loopw [4, 5] (fun v i wr => ∃ (j : Nat) (M : BM), j ≤ n ∧ i = .int .i64 j ∧ v = .int .i64 M.fl.length ∧ Bd Bz [] wr pb M (2 * j) ∧ Hid (O1 ks j M) ∧ Kept Bz [] w1 wr) (fun _ i _ => n - (intOf i).toNat)
  case atStart => exact ⟨0, _, Nat.zero_le _, rfl, rfl, b1, Lib.hid (O1.zero ks), K0⟩
  case round =>
    obtain ⟨j, M, hj, rfl, rfl, hb, hk, ht⟩ := hrel
    have hfl := hb.2.1.fl
    by_cases hlt : j < n
    · obtain ⟨a, rfl⟩ : ∃ a, A = some a := by
        cases A with
        | none => have := H0.out rfl; omega
        | some a => exact ⟨a, rfl⟩
      have hR := HA.out a rfl
      obtain ⟨k, hkj⟩ : ∃ k, ks[j]? = some k := ⟨_, List.getElem?_eq_getElem (by have := Hn.out; omega)⟩
      have Hkj := Lib.hid hkj
      have Hsk := Lib.hid (Hs.out k (List.mem_of_getElem? hkj))
      have hka := hR.2 j k hkj
      have hlo := hka.lt
      rw [hB] at hlo
      obtain ⟨d0, d1, d2, d3⟩ := (hka.touch t1).low ht hlo
      clear hkj hR hka
      go_wp2_with fail
      refine (short_any wr k Hsk.out).mono ?_
      rintro e w2 ⟨rfl, t2⟩
      have hb2 := hb.kept t2
      have z2 := ht.trans (hb.keeps t2)
      obtain ⟨d0, d1, d2, d3⟩ := KAt.touch ⟨d0, d1, d2, d3⟩ t2
      clear hb ht t2
      cases hsk : shortK k with
      | false =>
        go_wp2_with fail
        refine (known_any w2).mono ?_
        rintro e w3 ⟨rfl, t3⟩
        go_wp2
        go_ret
        have hw2 : Bz ≤ w2.heap.size := hb2.2.2.1
        rw [hB]
        exact ⟨rfl, ((t1.below0 (Nat.le_of_eq hB.symm)).trans z2.1).trans (t3.mono hw2)⟩
      | true =>
      go_wp2_with fail
      refine (LeaderB hb2 k Hsk.out.good).mono ?_
      rintro e w3 ⟨rfl, hb3, t3⟩
      have z3 := z2.trans (hb2.keeps t3)
      obtain ⟨d0, d1, d2, d3⟩ := KAt.touch ⟨d0, d1, d2, d3⟩ t3
      rw [leader_open hb3.2.1 k]
      clear z2 t3 hb2
      have hjI := Lib.hid (goodI_small (c := (j : Int)) (by omega) (by omega))
      go_wp2_with fail
      refine (AskB hb3 (by omega) k Hsk.out.good (j : Int) hjI.out).mono ?_
      rintro e w4 ⟨rfl, hb4, y4⟩
      have hlen := leads_step hb3.2.1 k ((mget M.fl k).getD [] ++ [(j : Int)])
      rw [hk.out.ask] at hb4 ⊢
      simp only at hb4 ⊢
      have hk' := Lib.hid (hk.out.step Hkj.out (mput M.fl k ((mget M.fl k).getD [] ++ [(j : Int)])))
      have z4 := z3.trans y4
      obtain ⟨d0, d1, d2, d3⟩ := KAt.low ⟨d0, d1, d2, d3⟩ y4 hlo
      generalize ((mget M.fl k).getD []).isEmpty = bb at hlen ⊢
      have Hlen := Lib.hid hlen
      clear hlen hk z3 y4 hb3
      go_wp2_with fail
      refine (AskB hb4 (by omega) k Hsk.out.good (j : Int) hjI.out).mono ?_
      rintro e w5 ⟨he, hb5, y5⟩
      rw [ask_again] at he hb5
      subst he
      have z5 := z4.trans y5
      obtain ⟨d0, d1, d2, d3⟩ := KAt.low ⟨d0, d1, d2, d3⟩ y5 hlo
      clear z4 y5 hb4
      go_wp2_with fail
      refine (WaitsB hb5 (j : Int) hjI.out).mono ?_
      rintro e w6 ⟨he, hb6, t6⟩
      rw [waits_new] at he
      subst he
      have z6 := z5.trans (hb5.keeps t6)
      obtain ⟨d0, d1, d2, d3⟩ := KAt.low ⟨d0, d1, d2, d3⟩ (hb5.keeps t6) hlo
      clear z5 t6 hb5
      simp only [keyV]
      go_wp2_with fail
      obtain ⟨q0, q1, q2, q3⟩ := KBox.new w6 k
      have ta : Touch [] w6 (boxK w6 k) := (Touch.refl _ _).alloc _
      obtain ⟨d0, d1, d2, d3⟩ := KAt.touch ⟨d0, d1, d2, d3⟩ ta
      have z7 := z6.trans (hb6.keeps ta)
      have hb7 := hb6.kept ta
      clear z6 hb6 ta
      unfold boxK at *
      generalize w6.alloc (.cells #[.string k.db, .string k.role, .int .i64 k.format, .string k.norm] 28) = V at *
      have hsame : sameK k k = true := by simp [sameK]
      have hbn : (bb == !bb) = false := by cases bb <;> rfl
      go_quiet (fail)
      have z8 : Kept Bz [] w1 (V.drewN nq) := z7.trans (hb7.keeps ((Touch.refl _ _).drewN nq))
      have hb8 := hb7.kept ((Touch.refl [] V).drewN nq)
      clear z7 hb7 d0 d1 d2 d3 q0 q1 q2 q3
      cases bb with
      | true =>
        go_wp2_with fail
        go_roundw
        case rel => exact ⟨j + 1, _, by omega, by go_num, by rw [Hlen.out]; go_num, hb8.mono (by omega), hk', z8⟩
        case measure => simp [intOf]; omega
      | false =>
        go_wp2_with fail
        go_roundw
        case rel => exact ⟨j + 1, _, by omega, by go_num, by rw [Hlen.out]; simp, hb8.mono (by omega), hk', z8⟩
        case measure => simp [intOf]; omega
    · have hjn : j = n := by omega
      subst hjn
      go_wp2_with fail
      refine (OpenB hb).mono ?_
      rintro e w2 ⟨rfl, rfl⟩
      have hcl := cl_length hb.2.1 hk.out (Nat.le_of_eq Hn.out)
      have h2 := Lib.hid ((show O1 ks ks.length M by rw [← Hn.out]; exact hk.out).to2)
      clear hk hm
      go_wp2_with fail
      generalize hN : M.fl.length = N0 at *
      have hT0 : 0 + M.cl.length = j := by omega
      clear hN hfl
      go_loopw [14, 15] (fun v x wr => ∃ (i : Nat) (M2 : BM) (told : Nat), i ≤ j ∧ x = .int .i64 i ∧ v = .int .i64 told ∧ told + M2.cl.length = j ∧ Bd Bz [] wr pb M2 (2 * j) ∧ Hid (O2 ks i M2) ∧ Kept Bz [] w1 wr) (fun _ i _ => j - (intOf i).toNat)
      case atStart => exact ⟨0, M, 0, Nat.zero_le _, rfl, rfl, hT0, hb, h2, ht⟩
      clear hb ht h2 hcl hT0
      case round =>
        obtain ⟨i, M2, told, hi, rfl, rfl, htold, hb, hk, ht⟩ := hrel
        by_cases hlt : i < j
        · obtain ⟨a, rfl⟩ : ∃ a, A = some a := by
            cases A with
            | none => have := H0.out rfl; omega
            | some a => exact ⟨a, rfl⟩
          have HR := Lib.hid (HA.out a rfl)
          obtain ⟨k, hki⟩ : ∃ k, ks[i]? = some k := ⟨_, List.getElem?_eq_getElem (by have := Hn.out; omega)⟩
          have Hki := Lib.hid hki
          have Hsk := Lib.hid (Hs.out k (List.mem_of_getElem? hki))
          have hka := HR.out.2 i k hki
          have hlo := hka.lt
          rw [hB] at hlo
          obtain ⟨d0, d1, d2, d3⟩ := (hka.touch t1).low ht hlo
          have hiI := Lib.hid (goodI_small (c := (i : Int)) (by omega) (by omega))
          clear hki hka
          go_wp2_with fail
          refine (LandB hb (by omega) k Hsk.out.good).mono ?_
          rintro e w2 ⟨A2, cp2, he, b2, _, z2⟩
          replace b2 := b2.rest (ks' := []) (by simp)
          obtain ⟨d0, d1, d2, d3⟩ := KAt.low ⟨d0, d1, d2, d3⟩ z2 hlo
          have z := ht.trans z2
          cases hl : mget M2.fl k with
          | none =>
            obtain ⟨e1, e2, e3⟩ := O2.miss hb.2.1 hk.out Hki.out hl
            rw [e1] at he b2
            have hw : M2.waits i = (zk, false) := by unfold BM.waits; rw [e2]; rfl
            have E3 := Lib.hid e3
            subst he
            clear e1 e2 e3 hk hl hb ht z2
            go_wp2_with fail
            refine (WaitsB b2 (i : Int) hiI.out).mono ?_
            rintro e w3 ⟨he, b3, t3⟩
            rw [hw] at he
            subst he
            have z3 := z.trans (b2.keeps t3)
            have ta : Touch [] w3 (w3.alloc (.cells #[.string ⟨#[]⟩, .string ⟨#[]⟩, .int .i64 0, .string ⟨#[]⟩] 28)) := (Touch.refl _ _).alloc _
            have z4 := z3.trans (b3.keeps ta)
            have b4 := b3.kept ta
            clear z3 b3 ta b2 z d0 d1 d2 d3
            simp only [keyV, zk]
            go_wp2_with fail
            go_roundw
            case rel => exact ⟨i + 1, _, told, by omega, by go_num, rfl, htold, b4, E3, z4⟩
            case measure => simp [intOf]; omega
          | some l =>
            obtain ⟨q, t, rfl, hq, e1, e2, e3, e4⟩ := O2.hit hb.2.1 hk.out Hki.out hl
            rw [e1] at he b2
            have hw : (BM.mk (mdel M2.fl k) (dropAll M2.cl ((q : Int) :: t))).waits i = (zk, false) := by unfold BM.waits; rw [e2]; rfl
            have E3 := Lib.hid e3
            subst he
            clear e1 e2 e3 hk hl hb ht z2
            have hqi := HR.out.2 q k hq
            have hlq := hqi.lt
            rw [hB] at hlq
            obtain ⟨g0, g1, g2, g3⟩ := (hqi.touch t1).low z hlq
            have hql : q < j := by
              have := (List.getElem?_eq_some_iff.1 hq).1
              have := Hn.out; omega
            have hsame : sameK k k = true := by simp [sameK]
            clear hqi hq
            go_wp2_with fail
            go_quiet (fail)
            have b3 := b2.kept ((Touch.refl [] w2).drewN nq)
            have z3 := z.trans (b2.keeps ((Touch.refl [] w2).drewN nq))
            clear z b2 d0 d1 d2 d3 g0 g1 g2 g3
            generalize w2.drewN nq = V at *
            go_wp2_with fail
            refine (WaitsB b3 (i : Int) hiI.out).mono ?_
            rintro e w3 ⟨he, b4, t3⟩
            rw [hw] at he
            subst he
            have z4 := z3.trans (b3.keeps t3)
            have ta : Touch [] w3 (w3.alloc (.cells #[.string ⟨#[]⟩, .string ⟨#[]⟩, .int .i64 0, .string ⟨#[]⟩] 28)) := (Touch.refl _ _).alloc _
            have z5 := z4.trans (b4.keeps ta)
            have b5 := b4.kept ta
            clear z3 b3 ta z4 b4
            simp only [keyV, zk]
            go_wp2_with fail
            go_roundw
            case rel => exact ⟨i + 1, _, told + 1 + t.length, by omega, by go_num, by go_num, by simp only; omega, b5, E3, z5⟩
            case measure => simp [intOf]; omega
        · have hij : i = j := by omega
          subst hij
          obtain ⟨d1, d2⟩ := O2.done hb.2.1 (show O2 ks ks.length M2 by rw [← Hn.out]; exact hk.out)
          obtain rfl : told = i := by rw [d1] at htold; simpa using htold
          have hf0 : ((M2.fl.length : Nat) : Int) = 0 := by rw [d2]; rfl
          have hsz : Bz ≤ wr.heap.size := hb.2.2.1
          clear d1 d2 htold hk
          go_wp2_with fail
          refine (OpenB hb).mono ?_
          rintro e w2 ⟨rfl, rfl⟩
          go_wp2_with fail
          refine (known_any wr).mono ?_
          rintro e w11 ⟨rfl, t11⟩
          go_wp2
          go_ret
          rw [hB]
          exact ⟨rfl, ((t1.below0 (Nat.le_of_eq hB.symm)).trans ht.1).trans (t11.mono hsz)⟩
end Go.Proofs.Ytjmgookpmngmaab
