/- FlightPlays: the script opened; the walk. -/
import Derived.Test.YtjmgookpmngmaabFlPair2
namespace Go.Proofs.Ytjmgookpmngmaab
open Go Go.RowKit Go.Maps

structure OpT where
  kind : Int
  k : Key
  client : Int

theorem op_of_cells {w : World} {n : Nat} {cs : List Value} (h : Rd Try.prog w n 51 cs) : ∃ o : OpT, cs = [.int .i64 o.kind, .string o.k.db, .string o.k.role, .int .i64 o.k.format, .string o.k.norm, .int .i64 o.client] ∧ SzK o.k ∧ goodI o.kind ∧ goodI o.client := by
  obtain ⟨hl, m, hf⟩ := h.struct Try.underlying51
  have hl6 : cs.length = 6 := hl.trans (by kernel_rfl)
  have c1 : Try.prog.cellsOf 3 = 1 := by kernel_rfl
  have c2 : Try.prog.cellsOf 28 = 4 := by kernel_rfl
  match cs, hl6 with
  | [v0, v1, v2, v3, v4, v5], _ =>
    have f0 : Rd _ _ _ 3 [v0] := Rd.field hf 0 rfl c1
    have f1 : Rd _ _ _ 28 [v1, v2, v3, v4] := Rd.field hf 1 rfl c2
    have f2 : Rd _ _ _ 3 [v5] := Rd.field hf 2 rfl c1
    obtain ⟨x0, e0, w0⟩ := f0.int Try.underlying3
    obtain ⟨k, e1, w1⟩ := key_of_cells f1
    obtain ⟨x2, e2, w2⟩ := f2.int Try.underlying3
    simp only [List.cons.injEq, and_true] at e0 e1 e2
    obtain ⟨rfl, rfl, rfl, rfl⟩ := e1
    subst e0 e2
    exact ⟨⟨x0, k, x2⟩, rfl, w1, w0, w2⟩

/-- An operation lies there. -/
def OpAt (w : World) (p : Addr) (o : OpT) : Prop := w.cell? p = some (.int .i64 o.kind) ∧ w.cell? ⟨p.block, p.off + 1, none⟩ = some (.string o.k.db) ∧ w.cell? ⟨p.block, p.off + 2, none⟩ = some (.string o.k.role) ∧ w.cell? ⟨p.block, p.off + 3, none⟩ = some (.int .i64 o.k.format) ∧ w.cell? ⟨p.block, p.off + 4, none⟩ = some (.string o.k.norm) ∧ w.cell? ⟨p.block, p.off + 5, none⟩ = some (.int .i64 o.client)
def RowO (w : World) (a : Addr) (n : Nat) (os : List OpT) : Prop := n = os.length ∧ ∀ (j : Nat) (o : OpT), os[j]? = some o → OpAt w (a.add (j * 6)) o
structure GoodO (o : OpT) : Prop where
  k : SzK o.k
  kind : goodI o.kind
  client : goodI o.client

theorem ops_of_arg {w : World} {m base : Nat} {v : Value} (hv : Value.okWide Try.prog w .any base 45 v) (h : Rd Try.prog w m 45 v.cells.toList) :
    ∃ A n cp os, v = .slice A n cp ∧ n = os.length ∧ (∀ a, A = some a → RowO w a n os) ∧ (A = none → n = 0) ∧ (∀ o ∈ os, GoodO o) ∧ n ≤ maxLen := by
  obtain ⟨A, n, cp, rfl⟩ := Go.WideShapes.okWide_slice Try.underlying45 hv
  rcases h.slice Try.underlying45 with h0 | ⟨a, len, cap, m', h0, hl, hc, _, hx⟩
  · simp [Value.cells] at h0
    obtain ⟨rfl, rfl, rfl⟩ := h0
    exact ⟨none, 0, 0, [], rfl, rfl, by simp, by simp, by simp, by decide⟩
  · simp [Value.cells] at h0
    obtain ⟨rfl, rfl, rfl⟩ := h0
    have c6 : Try.prog.cellsOf 51 = 6 := by kernel_rfl
    rw [c6] at hx
    have hK : ∀ i, ∃ o : OpT, i < n → OpAt w (a.add (i * 6)) o ∧ GoodO o := fun i => by
      by_cases hi : i < n
      · obtain ⟨cs, h1, h2⟩ := hx i hi
        obtain ⟨o, hk, hs, hkd, hcl⟩ := op_of_cells h2
        obtain ⟨_, _, hcell⟩ := World.cells?_some h1
        subst hk
        exact ⟨o, fun _ => ⟨⟨hcell 0 (by decide), hcell 1 (by decide), hcell 2 (by decide), hcell 3 (by decide), hcell 4 (by decide), hcell 5 (by decide)⟩, hs, hkd, hcl⟩⟩
      · exact ⟨⟨0, zk, 0⟩, fun h => absurd h hi⟩
    obtain ⟨K, hK⟩ := Classical.axiomOfChoice hK
    refine ⟨some a, n, cp, (List.range n).map K, rfl, by simp, fun b hb => ?_, by simp, fun k hk => ?_, Nat.le_trans hl hc⟩
    · cases hb
      refine ⟨by simp, fun j k hj => ?_⟩
      simp only [List.getElem?_map, Option.map_eq_some_iff] at hj
      obtain ⟨j', hj', rfl⟩ := hj
      obtain ⟨h1, h2⟩ := List.getElem?_eq_some_iff.1 hj'
      simp at h1 h2
      subst h2
      exact (hK j h1).1
    · obtain ⟨j, hj, rfl⟩ := List.mem_map.1 hk
      exact (hK j (List.mem_range.1 hj)).2

/-! ### one operation on both: the same is told -/
theorem alike_hl {M : BM} {L : List (Key × List Int)} {n : Nat} (a : Alike M L) (ok : M.Ok n) (hn : n < 1000000) : L.length < 1000000 ∧ ∀ p ∈ L, p.2.length < 1000000 :=
  ⟨by rw [a.len]; exact Nat.lt_of_le_of_lt ok.fl hn, fun p hp => Nat.lt_of_le_of_lt (ok.len p.1 p.2 (a.mem hp)) hn⟩

/-- The document's Ask, beside the board's. -/
theorem rAskP {Fr : List Nat} {w : World} {pr : Nat} {M : BM} {L : List (Key × List Int)} {n : Nat} (hr : RBR w pr Fr L) (a : Alike M L) (ok : M.Ok n) (hn : n < 1000000) (k : Key) (c : Int) :
    Calls Try.prog 17 #[.pointer (some ⟨pr, 0, none⟩), .agg #[.string k.db, .string k.role, .int .i64 k.format, .string k.norm], .int .i64 c] w fun e w' =>
      e = .returned (.tuple #[.bool (M.ask k c).1, .int .i64 (M.ask k c).2.1]) ∧ ∃ L', RMoved w w' pr Fr L' ∧ Alike (M.ask k c).2.2 L' := by
  obtain ⟨l1, l2⟩ := alike_hl a ok hn
  by_cases hc : c < 0
  · refine (rAsk_neg hr k c hc).mono ?_
    rintro e w' ⟨rfl, t⟩
    have e1 : M.ask k c = (false, 1, M) := by unfold BM.ask; rw [if_pos hc]
    rw [e1]
    exact ⟨rfl, L, .same hr t, a⟩
  · cases hm : mget M.cl c with
    | some k0 =>
      obtain ⟨l, h1, h2⟩ := a.has ok hm
      refine (rAsk_in hr k c hc l1 l2 (mget_mem h1) h2).mono ?_
      rintro e w' ⟨rfl, t⟩
      have e1 : M.ask k c = (false, 10, M) := by unfold BM.ask; rw [if_neg hc, if_pos (by simp [hm])]
      rw [e1]
      exact ⟨rfl, L, .same hr t, a⟩
    | none =>
      have e1 := BM.ask_new (k := k) hc hm
      rw [e1]
      cases hk : mget M.fl k with
      | none =>
        have hk' : mget L k = none := by rw [← a.at']; exact hk
        refine (rAsk_new hr k c hc l1 l2 (a.no ok hm) hk').mono ?_
        rintro e w' ⟨rfl, mv⟩
        refine ⟨rfl, _, mv, ?_⟩
        have := a.put k [c] (mput M.cl c k)
        rwa [mput_new (mget_none.1 hk')] at this
      | some l =>
        have hk' : mget L k = some l := by rw [← a.at']; exact hk
        refine (rAsk_old hr k c hc l1 l2 (a.no ok hm) hk' a.keys).mono ?_
        rintro e w' ⟨rfl, mv⟩
        have hne := (ok.back k l hk).1
        refine ⟨?_, _, mv, a.put k (l ++ [c]) (mput M.cl c k)⟩
        cases l with
        | nil => exact absurd rfl hne
        | cons => rfl

/-- The document's Land, beside the board's. -/
theorem rLandP {Fr : List Nat} {w : World} {pr : Nat} {M : BM} {L : List (Key × List Int)} {n : Nat} (hr : RBR w pr Fr L) (a : Alike M L) (ok : M.Ok n) (hn : n < 1000000) (k : Key) :
    Calls Try.prog 19 #[.pointer (some ⟨pr, 0, none⟩), .agg #[.string k.db, .string k.role, .int .i64 k.format, .string k.norm]] w fun e w' =>
      ∃ A cp, e = .returned (.tuple #[.int .i64 (M.land k).1, .slice A (M.land k).2.1.length cp, .bool (M.land k).2.2.1]) ∧ RowI w' A (M.land k).2.1.length (M.land k).2.1 ∧ ∃ L', RMoved w w' pr Fr L' ∧ Alike (M.land k).2.2.2 L' := by
  obtain ⟨l1, l2⟩ := alike_hl a ok hn
  unfold BM.land
  cases hk : mget M.fl k with
  | none =>
    have hk' : mget L k = none := by rw [← a.at']; exact hk
    refine (rLand_none hr k l1 hk').mono ?_
    rintro e w' ⟨rfl, t⟩
    exact ⟨none, 0, rfl, ⟨rfl, .inl ⟨rfl, rfl⟩⟩, L, .same hr t, a⟩
  | some l =>
    have hk' : mget L k = some l := by rw [← a.at']; exact hk
    have hne := (ok.back k l hk).1
    have hll := ok.len k l hk
    match l, hne with
    | x :: l, _ =>
      refine (rLand_some hr k l1 hk' (by simp at hll; omega) a.keys).mono ?_
      rintro e w' ⟨A, cp, rfl, hrow, mv⟩
      exact ⟨A, cp, rfl, hrow, _, mv, a.del ok k _⟩

/-- The document's Leave, beside the board's. -/
theorem rLeaveP {Fr : List Nat} {w : World} {pr : Nat} {M : BM} {L : List (Key × List Int)} {n : Nat} (hr : RBR w pr Fr L) (a : Alike M L) (ok : M.Ok n) (hn : n < 1000000) (c : Int) :
    Calls Try.prog 21 #[.pointer (some ⟨pr, 0, none⟩), .int .i64 c] w fun e w' =>
      ∃ A cp, e = .returned (.tuple #[.slice A (M.leave c).1.length cp, .bool (M.leave c).2.1]) ∧ RowI w' A (M.leave c).1.length (M.leave c).1 ∧ ∃ L', RMoved w w' pr Fr L' ∧ Alike (M.leave c).2.2 L' := by
  obtain ⟨l1, l2⟩ := alike_hl a ok hn
  unfold BM.leave
  cases hm : mget M.cl c with
  | none =>
    refine (rLeave_none hr c l1 l2 (a.no ok hm)).mono ?_
    rintro e w' ⟨rfl, rfl⟩
    exact ⟨none, 0, rfl, ⟨rfl, .inl ⟨rfl, rfl⟩⟩, L, .same hr (Touch.refl _ _), a⟩
  | some k =>
    obtain ⟨l, h1, h2⟩ := ok.into c k hm
    have hk' : mget L k = some l := by rw [← a.at']; exact h1
    obtain ⟨hne, hnd, _⟩ := ok.back k l h1
    have honly : ∀ p ∈ L, c ∈ p.2 → p.1 = k := fun p hp hc => by
      have := a.only ok hp hc
      rw [hm] at this; exact (Option.some.inj this).symm
    simp only [h1]
    match l, hne with
    | x :: l, _ =>
      simp only
      by_cases hx : x = c
      · rw [if_pos hx]
        refine (rLeave_head hr c l1 l2 a.keys hk' h2 honly hnd hx).mono ?_
        rintro e w' ⟨A, cp, rfl, hrow, mv⟩
        exact ⟨A, cp, rfl, hrow, _, mv, a.del ok k _⟩
      · rw [if_neg hx]
        refine (rLeave_tail hr c l1 l2 a.keys hk' h2 honly hnd hx).mono ?_
        rintro e w' ⟨rfl, mv⟩
        exact ⟨none, 0, rfl, ⟨rfl, .inl ⟨rfl, rfl⟩⟩, _, mv, a.put k _ _⟩

theorem alike_leader {M : BM} {L : List (Key × List Int)} (a : Alike M L) (k : Key) : BM.leader ⟨L, []⟩ k = M.leader k := by
  unfold BM.leader
  simp only [a.at']
theorem alike_waits {M : BM} {L : List (Key × List Int)} {n : Nat} (a : Alike M L) (ok : M.Ok n) {c : Int} {k : Key} {b : Bool} (h : rwaits L c (k, b)) : M.waits c = (k, b) := by
  unfold BM.waits
  rcases h with ⟨e, hno⟩ | ⟨e, p, hp, hk, hc⟩
  · cases e
    cases hm : mget M.cl c with
    | none => rfl
    | some k' =>
      obtain ⟨l, h1, h2⟩ := a.has ok hm
      exact absurd h2 (hno _ (mget_mem h1))
  · have h1 := a.only ok hp hc
    simp only at e hk
    subst e; subst hk
    rw [h1]

/-- Both boards, and a block that is watched. -/
structure Tri (B : Nat) (w : World) (pb pr g : Nat) (ob : Obj) (M : BM) (n : Nat) (Fr : List Nat) (L : List (Key × List Int)) : Prop where
  bd : Bd B (g :: Fr) w pb M n
  rb : RBR w pr Fr L
  gn : g ∉ Fr
  lo : ∀ i ∈ Fr, B ≤ i
  gb : w.heap[g]? = some ob
  al : Alike M L

theorem Tri.kept {B : Nat} {w w' : World} {pb pr g : Nat} {ob : Obj} {M : BM} {n : Nat} {Fr : List Nat} {L : List (Key × List Int)} (h : Tri B w pb pr g ob M n Fr L) (t : Touch [] w w') : Tri B w' pb pr g ob M n Fr L :=
  ⟨h.bd.kept t, h.rb.kept t (by simp), h.gn, h.lo, (t.block g (heap_lt h.gb) (by simp)).trans h.gb, h.al⟩
theorem Tri.board {B : Nat} {w w' : World} {pb pr g : Nat} {ob : Obj} {M M' : BM} {n n' : Nat} {Fr ks : List Nat} {L : List (Key × List Int)} (h : Tri B w pb pr g ob M n Fr L) (b : Bd B (ks ++ g :: Fr) w' pb M' n') (k : Kept B (g :: Fr) w w') (h' : Alike M L → Alike M' L) : Tri B w' pb pr g ob M' n' Fr L :=
  ⟨b.rest (by simp +contextual), h.rb.keptK (k.rest (by simp +contextual)), h.gn, h.lo, (k.2 g (by simp)).trans h.gb, h' h.al⟩
/-- Ahead of the document's call: the board has moved, the document's one not yet. -/
structure TriH (B : Nat) (w : World) (pb pr g : Nat) (ob : Obj) (M' : BM) (n : Nat) (Fr : List Nat) (L : List (Key × List Int)) : Prop where
  bd : Bd B (g :: Fr) w pb M' n
  rb : RBR w pr Fr L
  gn : g ∉ Fr
  lo : ∀ i ∈ Fr, B ≤ i
  gb : w.heap[g]? = some ob
theorem Tri.half {B : Nat} {w w' : World} {pb pr g : Nat} {ob : Obj} {M M' : BM} {n n' : Nat} {Fr ks : List Nat} {L : List (Key × List Int)} (h : Tri B w pb pr g ob M n Fr L) (b : Bd B (ks ++ g :: Fr) w' pb M' n') (k : Kept B (g :: Fr) w w') : TriH B w' pb pr g ob M' n' Fr L :=
  ⟨b.rest (by simp +contextual), h.rb.keptK (k.rest (by simp +contextual)), h.gn, h.lo, (k.2 g (by simp)).trans h.gb⟩
theorem TriH.kept {B : Nat} {w w' : World} {pb pr g : Nat} {ob : Obj} {M : BM} {n : Nat} {Fr : List Nat} {L : List (Key × List Int)} (h : TriH B w pb pr g ob M n Fr L) (t : Touch [] w w') : TriH B w' pb pr g ob M n Fr L :=
  ⟨h.bd.kept t, h.rb.kept t (by simp), h.gn, h.lo, (t.block g (heap_lt h.gb) (by simp)).trans h.gb⟩
/-- Behind the document's call. -/
theorem TriH.ref {B : Nat} {w w' : World} {pb pr g : Nat} {ob : Obj} {M : BM} {n : Nat} {Fr : List Nat} {L L' : List (Key × List Int)} (h : TriH B w pb pr g ob M n Fr L) (m : RMoved w w' pr Fr L') (a : Alike M L') : (∃ Fr', Tri B w' pb pr g ob M n Fr' L') ∧ Below B w w' := by
  obtain ⟨⟨F, b1, b2⟩, b3, b4, b5⟩ := h.bd
  obtain ⟨F', r1, r2, r3⟩ := m
  have hg := heap_lt h.gb
  refine ⟨⟨F', ⟨⟨F, b1.kept r2 (fun i hi => fun hm => (b2 i hi).2 (List.mem_cons_of_mem _ hm)), fun i hi => ⟨(b2 i hi).1, fun hm => ?_⟩⟩, b3, Nat.le_trans b4 r2.size, fun k hk => ?_⟩, r1, fun hm => ?_, fun i hi => ?_, (r2.block g hg h.gn).trans h.gb, a⟩, r2.below b4 h.lo⟩
  · rcases List.mem_cons.1 hm with e | hm
    · exact (b2 i hi).2 (by simp [e])
    · rcases r3 i hm with q | q
      · exact (b2 i hi).2 (List.mem_cons_of_mem _ q)
      · have := b1.lt i hi; omega
  · rcases List.mem_cons.1 hk with e | hk
    · subst e; exact Nat.lt_of_lt_of_le hg r2.size
    · exact r1.lt k hk
  · rcases r3 g hm with q | q
    · exact h.gn q
    · omega
  · rcases r3 i hi with q | q
    · exact h.lo i q
    · omega
theorem Tri.size {B : Nat} {w : World} {pb pr g : Nat} {ob : Obj} {M : BM} {n : Nat} {Fr : List Nat} {L : List (Key × List Int)} (h : Tri B w pb pr g ob M n Fr L) : B ≤ w.heap.size := h.bd.2.2.1
theorem TriH.size {B : Nat} {w : World} {pb pr g : Nat} {ob : Obj} {M : BM} {n : Nat} {Fr : List Nat} {L : List (Key × List Int)} (h : TriH B w pb pr g ob M n Fr L) : B ≤ w.heap.size := h.bd.2.2.1

end Go.Proofs.Ytjmgookpmngmaab
