/- FlightLeaves: the plain law, and the walk. -/
import Derived.Test.YtjmgookpmngmaabFlOpen
namespace Go.Proofs.Ytjmgookpmngmaab
open Go Go.RowKit Go.Maps

def firsts (i : Nat) : List Int := (List.range i).map fun j : Nat => (j : Int)
def firstCl (k : Key) (i : Nat) : List (Int × Key) := (firsts i).map fun c => (c, k)
def lvM (k : Key) (i : Nat) : BM := if i = 0 then ⟨[], []⟩ else ⟨[(k, firsts i)], firstCl k i⟩
theorem firsts_succ (i : Nat) : firsts (i + 1) = firsts i ++ [(i : Int)] := by simp [firsts, List.range_succ]
theorem firsts_length (i : Nat) : (firsts i).length = i := by simp [firsts]
theorem mem_firsts {i : Nat} {c : Int} : c ∈ firsts i ↔ 0 ≤ c ∧ c < i := by
  unfold firsts
  simp only [List.mem_map, List.mem_range]
  constructor
  · rintro ⟨j, hj, rfl⟩; omega
  · rintro ⟨h1, h2⟩; exact ⟨c.toNat, by omega, by omega⟩
theorem firsts_getD {i j : Nat} (h : j < i) : (firsts i).getD j 0 = j := by
  unfold firsts
  rw [List.getD_eq_getElem?_getD, List.getElem?_map, List.getElem?_range h]; rfl
theorem firsts_nodup (i : Nat) : (firsts i).Nodup := by
  unfold firsts
  exact List.Pairwise.map _ (fun a b h e => h (by exact_mod_cast e)) List.nodup_range
theorem firsts_cons (m : Nat) : firsts (m + 1) = 0 :: (firsts (m + 1)).tail := by simp [firsts, List.range_succ_eq_map]
theorem mget_firstCl (k : Key) (i : Nat) (c : Int) : mget (firstCl k i) c = if c ∈ firsts i then some k else none := by
  unfold firstCl
  induction firsts i with
  | nil => rfl
  | cons x l ih =>
    simp only [List.map_cons, mget, List.mem_cons, ih]
    by_cases h : x = c
    · subst h; simp
    · simp [h, Ne.symm h]
theorem lv_step (k : Key) (i : Nat) : ((lvM k i).ask k i).2.2 = lvM k (i + 1) := by
  have hn : mget (lvM k i).cl i = none := by
    unfold lvM
    split
    · rfl
    · rw [mget_firstCl, if_neg]; rw [mem_firsts]; omega
  rw [BM.ask_new (by omega) hn]
  simp only
  unfold lvM at hn ⊢
  rw [if_neg (by omega : ¬ i + 1 = 0)]
  by_cases h : i = 0
  · subst h; simp [mget, mput, firsts, firstCl]
  · simp only [if_neg h] at hn ⊢
    rw [mput_new (mget_none.1 hn)]
    simp [mget, mput, firsts_succ, firstCl]

/-- The leader leaves. -/
theorem lv_head (k : Key) (m : Nat) : (lvM k (m + 1)).leave 0 = ((firsts (m + 1)).tail, true, ⟨[], dropAll (firstCl k (m + 1)) (firsts (m + 1))⟩) := by
  unfold lvM BM.leave
  rw [if_neg (by omega)]
  have h0 : mget (firstCl k (m + 1)) 0 = some k := by rw [mget_firstCl, if_pos]; rw [mem_firsts]; omega
  simp only [h0]
  rw [firsts_cons]
  simp [mget, mdel]
/-- A follower leaves. -/
theorem lv_tail (k : Key) (m : Nat) (c : Int) (hc : 0 < c) (hm : c < m + 1) : (lvM k (m + 1)).leave c = ([], true, ⟨[(k, (firsts (m + 1)).filter fun y => decide (y ≠ c))], mdel (firstCl k (m + 1)) c⟩) := by
  unfold lvM BM.leave
  rw [if_neg (by omega)]
  have h0 : mget (firstCl k (m + 1)) c = some k := by rw [mget_firstCl, if_pos]; rw [mem_firsts]; omega
  simp only [h0]
  rw [firsts_cons]
  have hx : ¬ (0 : Int) = c := by omega
  simp [mget, mput, hx]
theorem lv_gone (fl : List (Key × List Int)) (cl : List (Int × Key)) (c : Int) (h : mget cl c = none) : (BM.mk fl cl).leave c = ([], false, ⟨fl, cl⟩) := by simp [BM.leave, h]
theorem lv_dropped (k : Key) (m : Nat) (c : Int) : mget (dropAll (firstCl k m) (firsts m)) c = none := by
  rw [mget_dropAll, mget_firstCl]
  by_cases h : c ∈ firsts m <;> simp [h]
theorem lv_rest_length (m : Nat) (c : Int) (hc : 0 < c) (hm : c < m + 1) : ((firsts (m + 1)).filter fun y => decide (y ≠ c)).length = m := by
  have h1 : c ∈ firsts (m + 1) := by rw [mem_firsts]; omega
  have h2 := (firsts_nodup (m + 1)).erase_eq_filter c
  have h3 := List.length_erase_of_mem h1
  rw [h2, firsts_length] at h3
  have h4 : (firsts (m + 1)).filter (fun y => decide (y ≠ c)) = (firsts (m + 1)).filter (fun y => y != c) := by
    congr 1; funext y; by_cases h : y = c <;> simp [h]
  rw [h4, h3]; omega
theorem lv_land (k : Key) (m : Nat) (c : Int) (hc : 0 < c) (cl : List (Int × Key)) : (BM.mk [(k, (firsts (m + 1)).filter fun y => decide (y ≠ c))] cl).land k =
    (0, ((firsts (m + 1)).filter fun y => decide (y ≠ c)).tail, true, ⟨[], dropAll cl ((firsts (m + 1)).filter fun y => decide (y ≠ c))⟩) := by
  have hx : ¬ (0 : Int) = c := by omega
  simp only [BM.land, mget, if_true, mdel]
  rw [firsts_cons]
  simp [hx]
theorem lv_lead (k : Key) (m : Nat) (c : Int) (hc : 0 < c) (cl : List (Int × Key)) : (BM.mk [(k, (firsts (m + 1)).filter fun y => decide (y ≠ c))] cl).leader k = (0, true) := by
  have hx : ¬ (0 : Int) = c := by omega
  rw [firsts_cons]
  simp [BM.leader, mget, hx]
theorem lv_leadno (k : Key) (cl : List (Int × Key)) : (BM.mk [] cl).leader k = (0, false) := rfl
theorem tail_getD (m j : Nat) (h : j < m) : (firsts (m + 1)).tail.getD j 0 = j + 1 := by
  rw [List.getD_eq_getElem?_getD, List.getElem?_tail]
  have := firsts_getD (i := m + 1) (j := j + 1) (by omega)
  rw [List.getD_eq_getElem?_getD] at this
  rw [this]; omega
set_option maxRecDepth 8000 in
set_option maxHeartbeats 4000000 in
theorem FlightLeaves_walk (w : World) (k : Key) (hk : SzK k) (n : Int) (hn : (Lit.int .u8 n).wf = true) (o : Int) (ho : (Lit.int .u8 o).wf = true) :
    Calls Try.prog 4 #[keyV k, .int .u8 n, .int .u8 o] w fun e w' => e = .returned (.bool true) ∧ Below w.heap.size w w' := by
  simp only [keyV]
  go_enter Try.func4, Try.ntmps4
  go_wp2_with fail
  have tW : Touch [] w (boxK w k) := (Touch.refl _ _).alloc _
  have ka := KBox.new w k
  have hga : w.heap.size < (boxK w k).heap.size := by simp [boxK]
  unfold boxK at ka tW hga
  generalize w.alloc (.cells #[.string k.db, .string k.role, .int .i64 k.format, .string k.norm] 28) = W at ka tW hga ⊢
  generalize hwa : w.heap.size = ga at ka hga ⊢
  refine (NewB W).mono ?_
  rintro e w1 ⟨pb, rfl, b1, t1⟩
  have tW := tW.trans t1 (by simp)
  obtain ⟨a0, a1, a2, a3⟩ := ka.touch t1
  go_wp2_with fail
  refine (short_any w1 k hk).mono ?_
  rintro e w2 ⟨rfl, t2⟩
  have b2 := b1.kept t2
  have tW := tW.trans t2 (by simp)
  obtain ⟨a0, a1, a2, a3⟩ := KBox.touch ⟨a0, a1, a2, a3⟩ t2
  clear ka b1 t1
  cases hsa : shortK k with
  | false =>
    go_wp2_with fail
    refine (known_any w2).mono ?_
    rintro e w3 ⟨rfl, t3⟩
    go_wp2
    go_ret
    exact ⟨rfl, (tW.below0 (Nat.le_refl _)).trans (t3.mono tW.size)⟩
  | true =>
  go_wp2_with fail
  obtain ⟨mm, hm, hm0, hm20⟩ : ∃ mm : Nat, wrap64 (1 + (wrap64 n).tmod 20) = (mm : Int) ∧ 0 < mm ∧ mm ≤ 20 := by
    have h1 := u8_range hn
    obtain ⟨q, rfl⟩ : ∃ q : Nat, n = q := ⟨n.toNat, by omega⟩
    refine ⟨q % 20 + 1, ?_, by omega, by omega⟩
    have e1 : wrap64 (q : Int) = q := by unfold wrap64; omega
    rw [e1, Int.tmod_eq_emod_of_nonneg (by omega)]
    unfold wrap64; omega
  rw [hm]
  have H := Lib.hid hk
  have K0 : Kept W.heap.size [] w2 w2 := ⟨Below.refl _ _, by simp⟩
  obtain ⟨c, hc, hc0, hc1⟩ : ∃ c : Nat, (wrap64 o).tmod (mm : Int) = (c : Int) ∧ c < mm ∧ wrap64 o = o := by
    have h1 := u8_range ho
    have e1 : wrap64 o = o := by unfold wrap64; omega
    refine ⟨o.toNat % mm, ?_, Nat.mod_lt _ hm0, e1⟩
    rw [e1, Int.tmod_eq_emod_of_nonneg (by omega)]
    have e2 : o = (o.toNat : Int) := by omega
    exact (congrArg (· % (mm : Int)) e2).trans (Int.natCast_emod o.toNat mm).symm
  rw [hc1] at hc
  clear hm hn hsa t2 hk
  generalize hB : W.heap.size = Bz at *
  go_loopw [9] (fun i wr => ∃ j : Nat, j ≤ mm ∧ i = .int .i64 j ∧ Bd Bz [] wr pb (lvM k j) j ∧ Kept Bz [] w2 wr) (fun i _ => mm - (intOf i).toNat)
  case atStart => exact ⟨0, Nat.zero_le _, rfl, b2, K0⟩
  case round =>
    obtain ⟨j, hj, rfl, hb, ht⟩ := hrel
    obtain ⟨d0, d1, d2, d3⟩ := KBox.low ⟨a0, a1, a2, a3⟩ ht hga
    by_cases hlt : j < mm
    · go_wp2_with fail
      refine (AskB hb (by omega) k H.out.good (j : Int) (goodI_small (by omega) (by omega))).mono ?_
      rintro e w5 ⟨rfl, hb5, z5⟩
      have ht' := ht.trans z5
      rw [lv_step] at hb5
      clear d0 d1 d2 d3
      go_wp2_with fail
      go_roundw
      case rel => exact ⟨j + 1, by omega, by go_num, hb5, ht'⟩
      case measure => simp [intOf]; omega
    · have hjm : j = mm := by omega
      subst hjm
      clear K0 b2
      go_wp2_with fail
      obtain ⟨m, hm⟩ : ∃ m, j = m + 1 := ⟨j - 1, by omega⟩
      have hcI := Lib.hid (goodI_small (c := (c : Int)) (by omega) (by omega))
      rcases Nat.eq_zero_or_pos c with h0 | h0
      · subst h0
        refine (LeaveB hb (by omega) _ hcI.out).mono ?_
        rintro e w5 ⟨A5, cp5, he, b5, r5, z5⟩
        have hlv := lv_head k m
        rw [hm] at he b5 r5
        rw [show ((0 : Nat) : Int) = 0 from rfl, hlv] at he b5 r5
        simp only [List.length_tail, firsts_length, Nat.add_sub_cancel] at he b5 r5
        subst he
        obtain ⟨d0, d1, d2, d3⟩ := KBox.low ⟨d0, d1, d2, d3⟩ z5 hga
        have ht := ht.trans z5
        clear hb z5
        go_wp2_with fail
        have b5m := b5.mono (m := 20) (by omega)
        refine (LeaveB b5m (by omega) _ (by decide)).mono ?_
        rintro e w6 ⟨A6, cp6, he, b6, _, z6⟩
        rw [lv_gone _ _ _ (lv_dropped k (m + 1) 0)] at he b6
        have r6 := own_kept r5.1 z6 (fun i hi => by rw [List.mem_append, Option.mem_toList]; exact .inl hi)
        replace z6 : Kept Bz [] w5 w6 := ⟨z6.1, by simp⟩
        replace b6 := b6.rest (ks' := []) (by simp)
        subst he
        obtain ⟨d0, d1, d2, d3⟩ := KBox.low ⟨d0, d1, d2, d3⟩ z6 hga
        have ht := ht.trans z6
        go_wp2_with fail
        refine (LeaderB b6 k H.out.good).mono ?_
        rintro e w7 ⟨he, b7, t7⟩
        rw [lv_leadno] at he
        subst he
        have r7 := own_touch r6 t7 (by simp)
        have z7 := b6.keeps t7
        have ht := ht.trans z7
        have hlen : (firsts (m + 1)).tail.length = m := by simp [firsts_length]
        rw [hlen] at r7
        have hrow := RowI.of_own r7 hlen.symm
        have hr := Lib.hid hrow.2
        have F : Hid (∀ q, q < m → (firsts (m + 1)).tail.getD q 0 = (q : Int) + 1) := Lib.hid (tail_getD m)
        have D := Lib.hid (lv_dropped k (m + 1))
        clear hlv b5 b5m r5 r6 r7 b6 z6 t7 z7 hrow d0 d1 d2 d3 hc
        go_wp2_with fail
        have K7 : Kept Bz [] w7 w7 := ⟨Below.refl _ _, by simp⟩
        have hm19 : m ≤ 19 := by omega
        clear hm hm0 hm20 hj hlt hc0
        go_loopw [20] (fun i wr => ∃ q : Nat, q ≤ m ∧ i = .int .i64 q ∧ Bd Bz [] wr pb ⟨[], dropAll (firstCl k (m + 1)) (firsts (m + 1))⟩ 20 ∧ Touch [] w7 wr) (fun i _ => m - (intOf i).toNat)
        case atStart => exact ⟨0, Nat.zero_le _, rfl, b7, Touch.refl _ _⟩
        case round =>
          obtain ⟨q, hq, rfl, hb, hT⟩ := hrel
          by_cases hlt : q < m
          · obtain ⟨g, oo, rfl, hg⟩ : ∃ g o, A5 = some ⟨g, o, none⟩ ∧ ∀ j, j < m → w7.cell? ⟨g, o + j, none⟩ = some (.int .i64 ((firsts (m + 1)).tail.getD j 0)) := by
              rcases hr.out with ⟨_, h⟩ | h
              · omega
              · exact h
            have c1 := hT.cell (hg q hlt) (by simp)
            rw [F.out q hlt] at c1
            clear hg
            go_wp2_with fail
            refine (WaitsB hb ((q : Int) + 1) (goodI_small (by omega) (by omega))).mono ?_
            rintro e w9 ⟨he, b9, t9⟩
            have hw : (BM.mk [] (dropAll (firstCl k (m + 1)) (firsts (m + 1)))).waits ((q : Int) + 1) = (zk, false) := by
              unfold BM.waits; rw [D.out]; rfl
            rw [hw] at he
            subst he
            have c1 := t9.cell c1 (by simp)
            have hT9 := hT.trans t9 (by simp)
            have heq : ((q : Int) + 1 != (q : Int) + 1) = false := by simp
            simp only [keyV, zk]
            have hglt : g < w9.heap.size := World.block_lt_of_cell? w9 _ c1
            have hT10 := hT9.alloc (.cells #[.string ⟨#[]⟩, .string ⟨#[]⟩, .int .i64 0, .string ⟨#[]⟩] 28)
            have b10 := b9.kept ((Touch.refl [] w9).alloc (.cells #[.string ⟨#[]⟩, .string ⟨#[]⟩, .int .i64 0, .string ⟨#[]⟩] 28))
            go_wp2_with fail
            go_roundw
            case rel => exact ⟨q + 1, by omega, by go_num, b10, hT10⟩
            case measure => simp [intOf]; omega
          · have hqm : q = m := by omega
            subst hqm
            go_wp2_with fail
            have hwB : w.heap.size ≤ Bz := by rw [hwa]; exact Nat.le_of_lt hga
            have hszr : Bz ≤ wr.heap.size := hb.2.2.1
            have hfin := ((tW.below0 (Nat.le_refl _)).trans (ht.1.mono hwB)).trans (hT.below0 (B := w.heap.size) (Nat.le_trans hwB b7.2.2.1))
            refine (known_any wr).mono ?_
            rintro e w11 ⟨rfl, t11⟩
            go_wp2
            go_ret
            exact ⟨rfl, hfin.trans (t11.mono (Nat.le_trans hwB hszr))⟩
      · have hcm : (c : Int) < (m : Int) + 1 := by omega
        have hcp : (0 : Int) < (c : Int) := by omega
        refine (LeaveB hb (by omega) _ hcI.out).mono ?_
        rintro e w5 ⟨A5, cp5, he, b5, _, z5⟩
        have hlv := lv_tail k m c hcp hcm
        rw [hm, hlv] at he b5
        subst he
        replace b5 := b5.rest (ks' := []) (by simp)
        obtain ⟨d0, d1, d2, d3⟩ := KBox.low ⟨d0, d1, d2, d3⟩ z5 hga
        have ht := ht.trans z5
        clear hb z5
        go_wp2_with fail
        refine (LeaveB b5 (by omega) _ hcI.out).mono ?_
        rintro e w6 ⟨A6, cp6, he, b6, _, z6⟩
        rw [lv_gone _ _ _ (by rw [mget_mdel, if_pos rfl])] at he b6
        replace b6 := b6.rest (ks' := []) (by simp)
        subst he
        obtain ⟨d0, d1, d2, d3⟩ := KBox.low ⟨d0, d1, d2, d3⟩ z6 hga
        have ht := ht.trans z6
        go_wp2_with fail
        refine (LeaderB b6 k H.out.good).mono ?_
        rintro e w7 ⟨he, b7, t7⟩
        rw [lv_lead k m c hcp] at he
        subst he
        have z7 := b6.keeps t7
        have ht := ht.trans z7
        obtain ⟨d0, d1, d2, d3⟩ := KBox.low ⟨d0, d1, d2, d3⟩ z7 hga
        have hc0' : ((c : Int) == 0) = false := by simp; omega
        have L := Lib.hid (lv_land k m c hcp (mdel (firstCl k (m + 1)) c))
        have L2 := Lib.hid (lv_rest_length m c hcp hcm)
        clear hlv b5 b6 z6 t7 z7 hc
        go_wp2_with fail
        refine (LandB b7 (by omega) k H.out.good).mono ?_
        rintro e w8 ⟨A8, cp8, he, b8, _, z8⟩
        rw [L.out] at he b8
        simp only [List.length_tail, L2.out] at he
        subst he
        have hszr := b8.2.2.1
        have hwB : w.heap.size ≤ Bz := by rw [hwa]; exact Nat.le_of_lt hga
        have hfin := (tW.below0 (Nat.le_refl _)).trans ((ht.trans z8).1.mono hwB)
        have hm1 : ((m - 1 : Nat) : Int) = (m : Int) - 1 := by omega
        have hm2 : (m : Int) + 1 - 2 = (m : Int) - 1 := by omega
        clear b8 b7 z8
        go_wp2_with fail
        refine (known_any w8).mono ?_
        rintro e w11 ⟨rfl, t11⟩
        go_wp2
        go_ret
        exact ⟨rfl, hfin.trans (t11.mono (Nat.le_trans hwB hszr))⟩
end Go.Proofs.Ytjmgookpmngmaab
