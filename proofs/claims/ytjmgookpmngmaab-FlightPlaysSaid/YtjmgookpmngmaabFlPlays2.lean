/- FlightPlays: the walk (under way: has a sorry). -/
import Derived.Test.YtjmgookpmngmaabFlPlays
import Derived.Deep.DeepCutAuto
import Derived.Deep.CutBlock
namespace Go.Proofs.Ytjmgookpmngmaab
open Go Go.RowKit Go.Maps

theorem OpAt.touch {w w' : World} {p : Addr} {o : OpT} (h : OpAt w p o) (t : Touch [] w w') : OpAt w' p o := ⟨t.cell h.1 (by simp), t.cell h.2.1 (by simp), t.cell h.2.2.1 (by simp), t.cell h.2.2.2.1 (by simp), t.cell h.2.2.2.2.1 (by simp), t.cell h.2.2.2.2.2 (by simp)⟩
theorem OpAt.low {B : Nat} {w w' : World} {p : Addr} {o : OpT} (h : OpAt w p o) (t : Below B w w') (hg : p.block < B) : OpAt w' p o :=
  have g : ∀ {a : Addr} {v : Value}, w.cell? a = some v → a.block < B → w'.cell? a = some v := fun hc ha => (World.cell?_of_block (t.block _ ha)).trans hc
  ⟨g h.1 hg, g h.2.1 hg, g h.2.2.1 hg, g h.2.2.2.1 hg, g h.2.2.2.2.1 hg, g h.2.2.2.2.2 hg⟩
theorem OpAt.lt {w : World} {p : Addr} {o : OpT} (h : OpAt w p o) : p.block < w.heap.size := World.block_lt_of_cell? w _ h.1

/-- Both boards, alike. -/
def Both (B : Nat) (w : World) (pb pr : Nat) (n : Nat) : Prop := ∃ M L, Pair B w pb pr M L n ∧ Alike M L
theorem Both.kept {B : Nat} {w w' : World} {pb pr n : Nat} (h : Both B w pb pr n) (t : Touch [] w w') : Both B w' pb pr n := by
  obtain ⟨M, L, p, a⟩ := h
  exact ⟨M, L, p.kept t, a⟩

theorem Both.size {B : Nat} {w : World} {pb pr n : Nat} (h : Both B w pb pr n) : B ≤ w.heap.size := by
  obtain ⟨M, L, p, a⟩ := h
  exact p.size
theorem Both.mono {B : Nat} {w : World} {pb pr n m : Nat} (h : Both B w pb pr n) (hm : n ≤ m) : Both B w pb pr m := by
  obtain ⟨M, L, ⟨Fr, p1, p2⟩, a⟩ := h
  exact ⟨M, L, ⟨Fr, p1.mono hm, p2⟩, a⟩

def opO (o : OpT) : Obj := .cells #[.int .i64 o.kind, .string o.k.db, .string o.k.role, .int .i64 o.k.format, .string o.k.norm, .int .i64 o.client] 51 (0, 0)
theorem cells6 {w : World} {g : Nat} {o : OpT} (h : w.heap[g]? = some (opO o)) : w.cell? ⟨g, 0, none⟩ = some (.int .i64 o.kind) ∧ w.cell? ⟨g, 1, none⟩ = some (.string o.k.db) ∧ w.cell? ⟨g, 2, none⟩ = some (.string o.k.role) ∧ w.cell? ⟨g, 3, none⟩ = some (.int .i64 o.k.format) ∧ w.cell? ⟨g, 4, none⟩ = some (.string o.k.norm) ∧ w.cell? ⟨g, 5, none⟩ = some (.int .i64 o.client) := by
  unfold opO at h
  exact ⟨by rw [cell_of h]; rfl, by rw [cell_of h]; rfl, by rw [cell_of h]; rfl, by rw [cell_of h]; rfl, by rw [cell_of h]; rfl, by rw [cell_of h]; rfl⟩
theorem Both.box {B : Nat} {w : World} {pb pr n : Nat} (h : Both B w pb pr n) (o : OpT) : ∃ M Fr L, Tri B (w.alloc (opO o)) pb pr w.heap.size (opO o) M n Fr L := by
  obtain ⟨M, L, ⟨Fr, p1, p2, p3⟩, a⟩ := h
  exact ⟨M, Fr, L, p1.box _, p2.kept ((Touch.refl [] _).alloc _) (by simp), fun hm => by have := p2.lt _ hm; omega, p3, heap_alloc_new w _, a⟩
theorem Tri.both {B : Nat} {w : World} {pb pr g : Nat} {ob : Obj} {M : BM} {n : Nat} {Fr : List Nat} {L : List (Key × List Int)} (h : Tri B w pb pr g ob M n Fr L) : Both B w pb pr n :=
  ⟨M, L, ⟨Fr, h.bd.rest (by simp +contextual), h.rb, h.lo⟩, h.al⟩

theorem Told.row {N cp : Nat} {w w' : World} {A : Option Addr} {l : List Int} {Fr : List Nat} (h : Told N w (.slice A l.length cp) l) (t : Touch Fr w w') (hF : ∀ i ∈ Fr, i < N) : RowI w' A l.length l :=
  RowI.of_own (B := 0) (cp := cp) (own_touch h.1 t (fun i hi hm => by have := h.2 i hi; have := hF i hm; omega)) rfl
theorem land_len {M : BM} {n : Nat} (ok : M.Ok n) (k : Key) : (M.land k).2.1.length ≤ n := by
  unfold BM.land
  cases hk : mget M.fl k with
  | none => simp
  | some l =>
    have := ok.len k l hk
    match l, this with
    | [], _ => simp
    | x :: l, h => simp at h ⊢; omega
theorem leave_len {M : BM} {n : Nat} (ok : M.Ok n) (c : Int) : (M.leave c).1.length ≤ n := by
  unfold BM.leave
  cases hm : mget M.cl c with
  | none => simp
  | some k =>
    simp only
    cases hk : mget M.fl k with
    | none => simp
    | some l =>
      have := ok.len k l hk
      match l, this with
      | [], _ => simp
      | x :: l, h =>
        simp only
        split
        · simp at h ⊢; omega
        · simp

theorem plain_any2 (w : World) (d r n : ByteArray) (f : Int) : Calls Try.prog 18 #[.agg #[.string d, .string r, .int .i64 f, .string n]] w fun e w' => e = .returned (.agg #[.string d, .string r, .int .i64 f, .string n]) ∧ Touch [] w w' := plain_any w ⟨d, r, f, n⟩
theorem RBR.cell0 {w : World} {pr : Nat} {F : List Nat} {L : List (Key × List Int)} (h : RBR w pr F L) : ∃ A cp, w.cell? ⟨pr, 0, none⟩ = some (.slice A L.length cp) := by
  obtain ⟨v, rs, h1, h2, _, h4, _⟩ := h
  obtain ⟨A, cp, rfl⟩ := own_slice' h2
  have e : L.length = rs.length := by rw [h4]; simp
  exact ⟨A, cp, by rw [cell_of h1, e]; rfl⟩

attribute [local go_sem high] key_eql key_neq rk_eql rk_neq
set_option maxRecDepth 8000 in
set_option maxHeartbeats 8000000 in
theorem FlightPlays_walk (w : World) (A : Option Addr) (n cp : Nat) (os : List OpT) (hn : n = os.length) (hA : ∀ a, A = some a → RowO w a n os) (h0 : A = none → n = 0) (hs : ∀ o ∈ os, GoodO o) :
    Calls Try.prog 6 #[.slice A n cp] w fun e w' => e = .returned (.bool true) ∧ Below w.heap.size w w' := by
  have Hn := Lib.hid hn
  have Hs := Lib.hid hs; have HA := Lib.hid hA; have H0 := Lib.hid h0
  clear hn hs hA h0
  go_enter Try.func6, Try.ntmps6
  go_wp2_with fail
  refine (NewB w).mono ?_
  rintro e w1 ⟨pb, rfl, b1, t1⟩
  go_wp2_with fail
  have hz1 : w.heap.size ≤ w1.heap.size := t1.size
  have Hp : Hid (Both w.heap.size (w1.alloc (Obj.cells #[Value.slice none 0 0] 49)) pb w1.heap.size 0) :=
    Lib.hid ⟨⟨[], []⟩, [], ⟨[w1.heap.size], b1.box _, ⟨.slice none 0 0, [], heap_alloc_new w1 _, World.ownsRow_nil _ _ _ _, by simp, rfl, by simp [Value.ownBlock, rowBlocks], by simp⟩, by simpa using t1.size⟩, ⟨by simp, rfl, fun _ => rfl⟩⟩
  have HB : Hid (Below w.heap.size w (w1.alloc (Obj.cells #[Value.slice none 0 0] 49))) := by
    exact Lib.hid (((t1.alloc _)).below0 (Nat.le_refl _))
  generalize w1.heap.size = pr at *
  generalize w1.alloc (Obj.cells #[Value.slice none 0 0] 49) = w2 at *
  generalize hB : w.heap.size = Bz at *
  go_loopw [3, 5] (fun v i wr => ∃ (j : Nat) (pb : Nat), j ≤ n ∧ j ≤ 60 ∧ i = .int .i64 j ∧ v = .pointer (some ⟨pb, 0, none⟩) ∧ Hid (Both Bz wr pb pr (3 * j)) ∧ Hid (Below Bz w wr)) (fun _ i _ => n - (intOf i).toNat)
  case atStart => exact ⟨0, pb, Nat.zero_le _, Nat.zero_le _, rfl, rfl, Hp, HB⟩
  clear Hp HB
  case round =>
    obtain ⟨j, pb, hj, hj6, rfl, rfl, hp, hb⟩ := hrel
    by_cases hlt : j < n ∧ j < 60
    · obtain ⟨hlt, hl6⟩ := hlt
      obtain ⟨a, rfl⟩ : ∃ a, A = some a := by
        cases A with
        | none => have := H0.out rfl; omega
        | some a => exact ⟨a, rfl⟩
      have hR := HA.out a rfl
      obtain ⟨o, hoj⟩ : ∃ o, os[j]? = some o := ⟨_, List.getElem?_eq_getElem (by have := Hn.out; omega)⟩
      have Hgo := Lib.hid (Hs.out o (List.mem_of_getElem? hoj))
      have hka := hR.2 j o hoj
      have hlo := hka.lt
      rw [hB] at hlo
      obtain ⟨d0, d1, d2, d3, d4, d5⟩ := hka.low hb.out hlo
      clear hoj hR hka
      obtain ⟨M, Fr, L, tr⟩ := hp.out.box o
      have tr0 := Lib.hid tr
      replace hb := Lib.hid (hb.out.trans (((Touch.refl [] wr).alloc (opO o)).below0 hp.out.size))
      have hgw : wr.heap.size = wr.heap.size := rfl
      clear tr hp
      unfold opO at hb tr0
      go_wp2_with fail
      generalize wr.alloc (.cells #[.int .i64 o.kind, .string o.k.db, .string o.k.role, .int .i64 o.k.format, .string o.k.norm, .int .i64 o.client] 51) = W at *
      generalize wr.heap.size = g at *
      refine (short_any W o.k Hgo.out.k).mono ?_
      rintro e w3 ⟨rfl, t3⟩
      have tr : Hid (Tri Bz w3 pb pr g (opO o) M (3 * j) Fr L) := Lib.hid (tr0.out.kept t3)
      replace hb := Lib.hid (hb.out.trans (t3.below0 tr0.out.size))
      clear t3 tr0 d0 d1 d2 d3 d4 d5
      cases hsk : shortK o.k with
      | false =>
        go_wp2_with fail
        go_roundw
        case rel => exact ⟨j + 1, pb, by omega, by omega, by go_num, rfl, Lib.hid (tr.out.both.mono (by omega)), hb⟩
        case measure => simp [intOf]; omega
      | true =>
      obtain ⟨c0, c1, c2, c3, c4, c5⟩ := cells6 tr.out.gb
      go_upto_block 2 with fail
      go_cut [3] (fun v wx => ∃ (pb : Nat) (M : BM) (Fr : List Nat) (L : List (Key × List Int)), v = .pointer (some ⟨pb, 0, none⟩) ∧ Hid (Tri Bz wx pb pr g (opO o) M (3 * j + 3) Fr L) ∧ Hid (Below Bz w wx))
      case first =>
        have hn3 : 3 * j < 1000000 := by omega
        by_cases k0 : o.kind = 0
        · have Hk := Lib.hid k0
          have hk : (o.kind == 0) = true := by simp [k0]
          clear k0
          go_wp2_with fail
          refine (AskB tr.out.bd hn3 o.k Hgo.out.k.good o.client Hgo.out.client).mono ?_
          rintro e w4 ⟨rfl, b4, y4⟩
          have th := tr.out.half (ks := []) b4 y4
          replace hb := Lib.hid (hb.out.trans y4.1)
          obtain ⟨c0, c1, c2, c3, c4, c5⟩ := cells6 th.gb
          go_wp2_with fail
          go_region_held3 (fun W' => W'.cell? ⟨g, 1, none⟩ = some (.string o.k.db) ∧ W'.cell? ⟨g, 2, none⟩ = some (.string o.k.role) ∧ W'.cell? ⟨g, 3, none⟩ = some (.int .i64 o.k.format) ∧ W'.cell? ⟨g, 4, none⟩ = some (.string o.k.norm) ∧ W'.cell? ⟨g, 5, none⟩ = some (.int .i64 o.client)) (go_keep)
            (first
              | (go_at_call 18; refine (plain_any _ o.k).mono ?_; rintro e w5 ⟨rfl, t5⟩; have t45 := (((Touch.refl [] w4).drew).trans t5 (by simp)); have th5 := th.kept t45; obtain ⟨f0, f1, f2, f3, f4, f5⟩ := cells6 th5.gb)
              | (go_at_call 17; refine (rAskP th5.rb tr.out.al tr.out.bd.2.1 hn3 o.k o.client).mono ?_; rintro e w6 ⟨rfl, L', mv, al⟩; obtain ⟨⟨Fr', tr6⟩, bl6⟩ := th5.ref mv al; obtain ⟨x0, x1, x2, x3, x4, x5⟩ := cells6 tr6.gb))
          have hb6 : Hid (Below Bz w w6) := Lib.hid ((hb.out.trans (t45.below0 th.size)).trans bl6)
          clear c0 c1 c2 c3 c4 c5 f0 f1 f2 f3 f4 f5 x0 x1 x2 x3 x4 x5 th th5 t45 t5 bl6 mv al b4 y4 hb tr
          go_wp2
          go_meet
          exact ⟨pb, _, _, _, rfl, Lib.hid (show Tri Bz w6 pb pr g (opO o) _ (3 * j + 3) _ _ from ⟨tr6.bd.mono (by omega), tr6.rb, tr6.gn, tr6.lo, tr6.gb, tr6.al⟩), hb6⟩
        by_cases k1 : o.kind = 1
        · have hk0 : (o.kind == 0) = false := by simp [k0]
          have hk : (o.kind == 1) = true := by simp [k1]
          clear k0 k1
          have hll := land_len tr.out.bd.2.1 o.k
          have Hlt := Lib.hid tr.out.rb.lt
          go_wp2_with fail
          refine (LandB tr.out.bd hn3 o.k Hgo.out.k.good).mono ?_
          rintro e w4 ⟨A4, cp4, rfl, b4, told, y4⟩
          have th := tr.out.half b4 y4
          replace hb := Lib.hid (hb.out.trans y4.1)
          obtain ⟨c0, c1, c2, c3, c4, c5⟩ := cells6 th.gb
          clear b4 y4
          go_wp2_with fail
          refine (plain_any _ o.k).mono ?_
          rintro e w5 ⟨rfl, t5⟩
          have th5 := th.kept t5
          go_wp2_with fail
          refine (rLandP th5.rb tr.out.al tr.out.bd.2.1 hn3 o.k).mono ?_
          rintro e w6 ⟨A6, cp6, rfl, row6, L', mv, al⟩
          have trow := told.row ((t5.mono (by simp)).trans mv.choose_spec.2.1 (fun i hi => .inl hi)) Hlt.out
          obtain ⟨⟨Fr', tr6⟩, bl6⟩ := th5.ref mv al
          have hb6 : Hid (Below Bz w w6) := Lib.hid ((hb.out.trans (t5.below0 th.size)).trans bl6)
          have h6 : Hid (Tri Bz w6 pb pr g (opO o) _ (3 * j + 3) _ _) := Lib.hid ⟨tr6.bd.mono (by omega), tr6.rb, tr6.gn, tr6.lo, tr6.gb, tr6.al⟩
          clear c0 c1 c2 c3 c4 c5 th th5 t5 bl6 mv al hb tr told tr6 Hlt
          have hll' : (M.land o.k).2.1.length < 1000000 := by omega
          clear hll
          go_wp2_with fail
          refine (Ints_any trow row6 hll' hll').mono ?_
          rintro e w7 ⟨rfl, t7⟩
          clear trow row6
          go_wp2
          go_meet
          exact ⟨pb, _, _, _, rfl, Lib.hid (h6.out.kept t7), Lib.hid (hb6.out.trans (t7.below0 h6.out.size))⟩
        by_cases k2 : o.kind = 2
        · have hk0 : (o.kind == 0) = false := by simp [k0]
          have hk1 : (o.kind == 1) = false := by simp [k1]
          have hk : (o.kind == 2) = true := by simp [k2]
          clear k0 k1 k2
          have hll := leave_len tr.out.bd.2.1 o.client
          have Hlt := Lib.hid tr.out.rb.lt
          go_wp2_with fail
          refine (LeaveB tr.out.bd hn3 o.client Hgo.out.client).mono ?_
          rintro e w4 ⟨A4, cp4, rfl, b4, told, y4⟩
          have th := tr.out.half b4 y4
          replace hb := Lib.hid (hb.out.trans y4.1)
          obtain ⟨c0, c1, c2, c3, c4, c5⟩ := cells6 th.gb
          clear b4 y4
          go_wp2_with fail
          refine (rLeaveP th.rb tr.out.al tr.out.bd.2.1 hn3 o.client).mono ?_
          rintro e w6 ⟨A6, cp6, rfl, row6, L', mv, al⟩
          have trow := told.row mv.choose_spec.2.1 Hlt.out
          obtain ⟨⟨Fr', tr6⟩, bl6⟩ := th.ref mv al
          have hb6 : Hid (Below Bz w w6) := Lib.hid (hb.out.trans bl6)
          have h6 : Hid (Tri Bz w6 pb pr g (opO o) _ (3 * j + 3) _ _) := Lib.hid ⟨tr6.bd.mono (by omega), tr6.rb, tr6.gn, tr6.lo, tr6.gb, tr6.al⟩
          clear c0 c1 c2 c3 c4 c5 th bl6 mv al hb tr told tr6 Hlt
          have hll' : (M.leave o.client).1.length < 1000000 := by omega
          clear hll
          go_wp2_with fail
          refine (Ints_any trow row6 hll' hll').mono ?_
          rintro e w7 ⟨rfl, t7⟩
          clear trow row6
          go_wp2
          go_meet
          exact ⟨pb, _, _, _, rfl, Lib.hid (h6.out.kept t7), Lib.hid (hb6.out.trans (t7.below0 h6.out.size))⟩
        have hk0 : (o.kind == 0) = false := by simp [k0]
        have hk1 : (o.kind == 1) = false := by simp [k1]
        have hk2 : (o.kind == 2) = false := by simp [k2]
        clear k0 k1 k2
        go_wp2_with fail
        refine (CopyB tr.out.bd hn3).mono ?_
        rintro e w4 ⟨pc, F4, M4, rfl, bc, pf, pcl, b4, t4, l4⟩
        have ok4 := tr.out.bd.2.1.perm pf pcl
        have al4 := tr.out.al.perm tr.out.bd.2.1 pf
        have gb4 := (t4.block g (heap_lt tr.out.gb) (by simp)).trans tr.out.gb
        have rb4 := tr.out.rb.kept t4 (by simp)
        replace hb := Lib.hid (hb.out.trans (t4.below0 tr.out.size))
        obtain ⟨c0, c1, c2, c3, c4, c5⟩ := cells6 gb4
        go_wp2_with fail
        refine (AskB b4 hn3 o.k Hgo.out.k.good o.client Hgo.out.client).mono ?_
        rintro e w5 ⟨rfl, b5, y5⟩
        have gb5 := (y5.2 g (by simp)).trans gb4
        obtain ⟨c0, c1, c2, c3, c4, c5⟩ := cells6 gb5
        go_wp2_with fail
        refine (LandB b5 (by omega) o.k Hgo.out.k.good).mono ?_
        rintro e w6 ⟨A6, cp6, rfl, b6, told6, y6⟩
        have gb6 := (y6.2 g (by simp)).trans gb5
        obtain ⟨c0, c1, c2, c3, c4, c5⟩ := cells6 gb6
        have b6' := b6.rest (ks' := F4 ++ g :: Fr) (by simp +contextual)
        go_wp2_with fail
        refine (LeaveB b6' (by omega) o.client Hgo.out.client).mono ?_
        rintro e w7 ⟨A7, cp7, rfl, b7, told7, y7⟩
        have gb7 := (y7.2 g (by simp)).trans gb6
        have y := (y5.trans y6).trans y7
        have bc7 := bc.keptK (y.rest (by simp +contextual))
        have h7 : Hid (Tri Bz w7 pc pr g (opO o) M4 (3 * j + 3) Fr L) := Lib.hid ⟨⟨⟨F4, bc7, fun i hi => ⟨(l4 i hi).1, (l4 i hi).2⟩⟩, ok4.mono (by omega), b7.2.2.1, fun k hk => b7.2.2.2 k (by simp only [List.mem_append, List.mem_cons] at hk ⊢; exact .inr (.inr hk))⟩, rb4.keptK (y.rest (by simp +contextual)), tr.out.gn, tr.out.lo, gb7, al4⟩
        have hb7 := Lib.hid (hb.out.trans y.1)
        clear b4 b5 b6 b6' b7 y5 y6 y7 y bc bc7 gb4 gb5 gb6 gb7 told6 told7 rb4 al4 ok4 tr hb c0 c1 c2 c3 c4 c5 t4 l4 pf pcl
        go_wp2
        go_meet
        exact ⟨pc, _, _, _, rfl, h7, hb7⟩
      case rest =>
        obtain ⟨pb, M, Fr, L, rfl, tr, hb⟩ := hcut
        have hn3 : 3 * j + 3 < 1000000 := by omega
        obtain ⟨l1, l2⟩ := alike_hl tr.out.al tr.out.bd.2.1 hn3
        have L1 := Lib.hid l1; have L2 := Lib.hid l2
        clear l1 l2
        obtain ⟨c0, c1, c2, c3, c4, c5⟩ := cells6 tr.out.gb
        go_wp2_with fail
        refine (LeaderB tr.out.bd o.k Hgo.out.k.good).mono ?_
        rintro e w4 ⟨rfl, _, t4⟩
        have tr4 := Lib.hid (tr.out.kept t4)
        replace hb := Lib.hid (hb.out.trans (t4.below0 tr.out.size))
        obtain ⟨c0, c1, c2, c3, c4, c5⟩ := cells6 tr4.out.gb
        clear tr t4
        go_wp2_with fail
        refine (plain_any _ o.k).mono ?_
        rintro e w5 ⟨rfl, t5⟩
        have tr5 := Lib.hid (tr4.out.kept t5)
        replace hb := Lib.hid (hb.out.trans (t5.below0 tr4.out.size))
        obtain ⟨c0, c1, c2, c3, c4, c5⟩ := cells6 tr5.out.gb
        clear tr4 t5
        go_wp2_with fail
        refine (rLeader_any tr5.out.rb o.k L1.out (fun p hp => (tr5.out.bd.2.1.back _ _ (tr5.out.al.mem hp)).1) tr5.out.al.keys).mono ?_
        rintro e w6 ⟨rfl, t6⟩
        rw [alike_leader tr5.out.al]
        have tr6 := Lib.hid (tr5.out.kept t6)
        replace hb := Lib.hid (hb.out.trans (t6.below0 tr5.out.size))
        obtain ⟨c0, c1, c2, c3, c4, c5⟩ := cells6 tr6.out.gb
        clear tr5 t6
        go_wp2_with fail
        refine (WaitsB tr6.out.bd o.client Hgo.out.client).mono ?_
        rintro e w7 ⟨rfl, _, t7⟩
        have tr7 := Lib.hid (tr6.out.kept t7)
        replace hb := Lib.hid (hb.out.trans (t7.below0 tr6.out.size))
        obtain ⟨c0, c1, c2, c3, c4, c5⟩ := cells6 tr7.out.gb
        clear tr6 t7
        simp only [keyV]
        have hgs := heap_lt tr7.out.gb
        generalize hwt : M.waits o.client = wt at *
        obtain ⟨⟨qd, qr, qf, qn⟩, qb⟩ := wt
        have Hwt := Lib.hid hwt
        clear hwt
        go_wp2_with fail
        have qb0 := KBox.new w7 ⟨qd, qr, qf, qn⟩
        have ta : Touch [] w7 (boxK w7 ⟨qd, qr, qf, qn⟩) := (Touch.refl _ _).alloc _
        have tr8 := Lib.hid (tr7.out.kept ta)
        replace hb := Lib.hid (hb.out.trans (ta.below0 tr7.out.size))
        clear c0 c1 c2 c3 c4 c5 tr7 ta
        unfold boxK at *
        generalize w7.alloc (.cells #[.string qd, .string qr, .int .i64 qf, .string qn] 28) = V at *
        generalize w7.heap.size = gq at *
        refine (rWaits_any tr8.out.rb o.client L1.out L2.out).mono ?_
        rintro e w9 ⟨k9, b9, rfl, rw9, t9⟩
        have hk9 := alike_waits tr8.out.al tr8.out.bd.2.1 rw9
        rw [Hwt.out] at hk9
        obtain ⟨rfl, rfl⟩ : k9 = ⟨qd, qr, qf, qn⟩ ∧ b9 = qb := by cases hk9; exact ⟨rfl, rfl⟩
        have tr9 := Lib.hid (tr8.out.kept t9)
        replace hb := Lib.hid (hb.out.trans (t9.below0 tr8.out.size))
        replace qb0 := qb0.touch t9
        have hgq := World.block_lt_of_cell? w9 _ qb0.1
        clear hk9 rw9 t9 tr8
        simp only [keyV]
        go_upto_region 37 with fail
        have e10 : (w9.alloc (.cells #[.string qd, .string qr, .int .i64 qf, .string qn] 53)).heap[w9.heap.size]? = some (.cells #[.string qd, .string qr, .int .i64 qf, .string qn] 53 (0, 0)) := heap_alloc_new w9 _
        have ta : Touch [] w9 (w9.alloc (.cells #[.string qd, .string qr, .int .i64 qf, .string qn] 53)) := (Touch.refl _ _).alloc _
        have tr10 := Lib.hid (tr9.out.kept ta)
        replace hb := Lib.hid (hb.out.trans (ta.below0 tr9.out.size))
        obtain ⟨q0, q1, q2, q3⟩ := qb0.touch ta
        clear tr9 ta qb0
        generalize w9.alloc (.cells #[.string qd, .string qr, .int .i64 qf, .string qn] 53) = V2 at *
        generalize w9.heap.size = gr at *
        have r0 : V2.cell? ⟨gr, 0, none⟩ = some (.string qd) := by rw [cell_of e10]; rfl
        have r1 : V2.cell? ⟨gr, 1, none⟩ = some (.string qr) := by rw [cell_of e10]; rfl
        have r2 : V2.cell? ⟨gr, 2, none⟩ = some (.int .i64 qf) := by rw [cell_of e10]; rfl
        have r3 : V2.cell? ⟨gr, 3, none⟩ = some (.string qn) := by rw [cell_of e10]; rfl
        obtain ⟨A2, cp2, l0⟩ := tr10.out.rb.cell0
        have hlen := tr10.out.al.len
        rw [hlen] at l0
        have hneq : sameK ⟨qd, qr, qf, qn⟩ ⟨qd, qr, qf, qn⟩ = true := by simp [sameK]
        clear e10 hlen
        go_region_held3 (fun W' => W'.cell? ⟨gq, 0, none⟩ = some (.string qd) ∧ W'.cell? ⟨gq, 1, none⟩ = some (.string qr) ∧ W'.cell? ⟨gq, 2, none⟩ = some (.int .i64 qf) ∧ W'.cell? ⟨gq, 3, none⟩ = some (.string qn) ∧ W'.cell? ⟨gr, 0, none⟩ = some (.string qd) ∧ W'.cell? ⟨gr, 1, none⟩ = some (.string qr) ∧ W'.cell? ⟨gr, 2, none⟩ = some (.int .i64 qf) ∧ W'.cell? ⟨gr, 3, none⟩ = some (.string qn) ∧ W'.cell? ⟨pr, 0, none⟩ = some (.slice A2 M.fl.length cp2)) (go_keep)
          (first
            | (go_at_call 18; refine (plain_any2 _ qd qr qn qf).mono ?_; rintro e w11 ⟨rfl, t11⟩; have t12 := (((Touch.refl [] V2).drew).trans t11 (by simp)); have tr12 := tr10.out.kept t12; have hb12 := Lib.hid (hb.out.trans (t12.below0 tr10.out.size)); have x0 := t12.cell q0 (by simp); have x1 := t12.cell q1 (by simp); have x2 := t12.cell q2 (by simp); have x3 := t12.cell q3 (by simp); have y0 := t12.cell r0 (by simp); have y1 := t12.cell r1 (by simp); have y2 := t12.cell r2 (by simp); have y3 := t12.cell r3 (by simp); have y4 := t12.cell l0 (by simp))
            | (go_at_call 14; refine (OpenB tr12.bd).mono ?_; rintro e w13 ⟨rfl, rfl⟩))
        all_goals
          go_wp2_with fail
          go_roundw
          case rel => exact ⟨j + 1, pb, by omega, by omega, by go_num, rfl, Lib.hid (tr12.both.mono (by omega)), hb12⟩
          case measure => simp [intOf]; omega
    · have hend : ∀ wq, Below Bz wr wq → Below Bz w wq := fun wq h => hb.out.trans h
      by_cases hjn : j < n
      all_goals
        go_wp2_with fail
        refine (known_any wr).mono ?_
        rintro e w11 ⟨rfl, t11⟩
        go_wp2
        go_ret
        exact ⟨rfl, by rw [hB]; exact hend _ (t11.mono (hp.out.size))⟩
end Go.Proofs.Ytjmgookpmngmaab
