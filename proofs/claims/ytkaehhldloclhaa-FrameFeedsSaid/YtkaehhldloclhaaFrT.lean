/- frame: the document's Feed. -/
import Derived.Test.YtkaehhldloclhaaFrS
namespace Go.Proofs.Ytkaehhldloclhaa
open Go Go.RowKit

def RR (w : World) (g : Nat) (M : FM) : Prop := w.heap[g]? = some (.cells #[.string M.left, .bool M.first, .int .i64 M.e] 42 (0, 0))
def bare (w : World) : World := { w with heap := #[] }
theorem below_bare (w : World) : Below (bare w).heap.size (bare w) w := ⟨rfl, rfl, rfl, Nat.zero_le _, fun i hi => absurd hi (Nat.not_lt_zero i)⟩
theorem touch_keep {w w' : World} {g : Nat} {o : Obj} (h : w.heap[g]? = some o) (h' : w'.heap[g]? = some o) (hb : Below (bare w).heap.size (bare w) w') (hk : Go.Proofs.YtkaehhldloclhaaW.PrintWords.KeepBut w w' g none) : Touch [] w w' :=
  ⟨hb.os, hb.tape, hb.output, hk.1, fun i hi _ => by
    by_cases hig : i = g
    · subst hig; exact h'.trans h.symm
    · exact hk.2 i hi hig (by simp)⟩
theorem rnext_any {w : World} {g : Nat} {M : FM} (h : RR w g M) (hl : M.left.size ≤ 140737488351232) : ∃ (c : UInt8) (b : ByteArray) (n : Nat) (is : Bool) (er : Nat),
    Calls Try.prog 25 #[.pointer (some ⟨g, 0, none⟩)] w (fun e w' => e = .returned (.tuple #[.agg #[.int .u8 c.toNat, .string b], .int .i64 n, .bool is, .int .i64 er]) ∧ Touch [] w w') ∧
    match nextF M.left M.first with
    | .wait => is = false ∧ er = 0
    | .bad q => is = false ∧ er = q ∧ q ≠ 0
    | .msg m r => is = true ∧ er = 0 ∧ m = ⟨c, b⟩ ∧ n ≤ M.left.size ∧ r = M.left.extract n M.left.size := by
  obtain ⟨c, b, n, is, er, hf, hm⟩ := next_f M.left M.first M.e 7 hl (Nat.le_refl _)
  refine ⟨c, b, n, is, er, ?_, hm⟩
  exact (Pr.pontoonref02_Reader_next.calls 7 g M.left M.first M.e _ _ _ _ _ _ _ _ (bare w) w ⟨h, Nat.zero_le _⟩ (below_bare w) hf).mono fun e w' ⟨he, hi, hb, hk⟩ => ⟨he, touch_keep h hi.1 hb hk⟩
theorem RR.cells {w : World} {g : Nat} {M : FM} (h : RR w g M) : w.cell? ⟨g, 0, none⟩ = some (.string M.left) ∧ w.cell? ⟨g, 1, none⟩ = some (.bool M.first) ∧ w.cell? ⟨g, 2, none⟩ = some (.int .i64 M.e) ∧ w.frozen? ⟨g, 0, none⟩ = false ∧ w.frozen? ⟨g, 1, none⟩ = false ∧ w.frozen? ⟨g, 2, none⟩ = false := by
  unfold RR at h
  refine ⟨?_, ?_, ?_, frozen_of h _, frozen_of h _, frozen_of h _⟩ <;> rw [cell_of h] <;> rfl
theorem RR.lt {w : World} {g : Nat} {M : FM} (h : RR w g M) : g < w.heap.size := heap_lt h
theorem RR.kept {w w' : World} {g : Nat} {M : FM} {S : List Nat} (h : RR w g M) (t : Touch S w w') (hg : g ∉ S) : RR w' g M := (t.block g h.lt hg).trans h
def lenAtR (w : World) (g : Nat) : Nat := match w.cell? ⟨g, 0, none⟩ with | some (.string s) => s.size | _ => 0
theorem lenAtR_of {w : World} {g : Nat} {M : FM} (h : RR w g M) : lenAtR w g = M.left.size := by
  unfold lenAtR
  rw [h.cells.1]
def rfeedPost (w : World) (g : Nat) (x : List Msg × FM) : Ending → World → Prop := fun e w' => ∃ v, e = .returned (.tuple #[v, .int .i64 x.2.e]) ∧ w'.ownsRow w.heap.size 23 2 v x.1.length (x.1.flatMap mC) ∧ RR w' g x.2 ∧ Touch [g] w w'
theorem rFeed_bad {w : World} {g : Nat} {M : FM} (h : RR w g M) (s : ByteArray) (he : M.e ≠ 0) :
    Calls Try.prog 19 #[.pointer (some ⟨g, 0, none⟩), .string s] w (rfeedPost w g (feedF M s)) := by
  have hf : feedF M s = ([], M) := if_neg he
  rw [hf]
  obtain ⟨c0, c1, c2, _⟩ := h.cells
  have c2d : w.drew.cell? ⟨g, 2, none⟩ = some (.int .i64 M.e) := c2
  have hne : ((M.e : Int) != 0) = true := by simp; omega
  have H := Lib.hid h
  clear h hf he
  unfold rfeedPost
  dsimp only
  go_enter Try.func19, Try.ntmps19
  go_wp2_with fail
  go_quiet (fail)
  go_wp2
  go_ret2
  exact ⟨_, rfl, World.ownsRow_nil _ _ _ _, H.out, (Touch.refl _ _).drewN _⟩
structure GInv (w : World) (g : Nat) (T : List Msg × FM) (wr : World) (v : Value) (acc : List Msg) (N : FM) : Prop where
  blk : RR wr g N
  e0 : N.e = 0
  t : Touch [g] w wr
  own : wr.ownsRow w.heap.size 23 2 v acc.length (acc.flatMap mC)
  eq : T = (acc ++ (runF N.left N.first).1, (runF N.left N.first).2)
  sz : N.left.size ≤ 1000000
  glt : g < w.heap.size
set_option maxHeartbeats 2000000 in
theorem rFeed_ok {w : World} {g : Nat} {M : FM} (h : RR w g M) (s : ByteArray) (he : M.e = 0) (hs : M.left.size + s.size ≤ 1000000) :
    Calls Try.prog 19 #[.pointer (some ⟨g, 0, none⟩), .string s] w (rfeedPost w g (feedF M s)) := by
  obtain ⟨j0, hj0, hjz, hj1, hj2⟩ := info_parts infoMsg
  have hf : feedF M s = runF (M.left ++ s) M.first := if_pos he
  rw [hf]
  obtain ⟨l, f, e⟩ := M
  dsimp only at *
  subst he
  obtain ⟨c0, c1, c2, f0, f1, f2⟩ := h.cells
  dsimp only at c0 c1 c2
  have hb2 : RR (w.setCell ⟨g, 0, none⟩ (.string (l ++ s))) g ⟨l ++ s, f, 0⟩ := (block_set h _).trans rfl
  have hz : (l ++ s).size ≤ 1000000 := by rw [ByteArray.size_append]; omega
  have hsum : l.size + s.size ≤ 9223372036854775807 := by omega
  generalize hT : runF (l ++ s) f = T
  have F0 : Hid (GInv w g T (w.setCell ⟨g, 0, none⟩ (.string (l ++ s))) (.slice none 0 0) [] ⟨l ++ s, f, 0⟩ ∧ T.1.length ≤ 1000000) := Lib.hid ⟨⟨hb2, rfl, (Touch.refl _ _).setCell _ (.inl (by simp)), World.ownsRow_nil _ _ _ _, hT.symm, hz, h.lt⟩, by rw [← hT]; have := (runF_left _ (l ++ s) f (Nat.lt_succ_self _)).2.1; omega⟩
  have J := Lib.hid (And.intro hj0 (And.intro hjz (And.intro hj1 hj2)))
  clear hj0 hjz hj1 hj2 h hf hs hz hT hb2
  unfold rfeedPost
  go_enter Try.func19, Try.ntmps19
  go_wp2_with fail
  generalize (w.setCell ⟨g, 0, none⟩ (.string (l ++ s))) = w0 at *
  clear c0 c1 c2 f0 f1 f2
  go_loopw [6] (fun v wr => ∃ (acc : List Msg) (N : FM), Hid (GInv w g T wr v acc N)) (fun _ wr => lenAtR wr g)
  case atStart => exact ⟨[], _, Lib.hid F0.out.1⟩
  case round =>
    obtain ⟨acc, N, F⟩ := hrel
    obtain ⟨c, b, n, is, er, hc, hm⟩ := rnext_any F.out.blk (by have := F.out.sz; omega)
    have HC := Lib.hid hc
    clear hc
    have key : ∀ w2 : World, Touch [] wr w2 → Hid (RR w2 g N ∧ Touch [g] w w2 ∧ w2.ownsRow w.heap.size 23 2 u6 acc.length (acc.flatMap mC)) := fun w2 t2 => Lib.hid ⟨F.out.blk.kept t2 (by simp), F.out.t.trans t2 (by simp), own_touch' F.out.own t2 (by simp)⟩
    have KEY := Lib.hid key
    clear key
    cases hn : nextF N.left N.first with
    | wait =>
      rw [hn] at hm
      obtain ⟨rfl, rfl⟩ := hm
      have HT : Hid (T.1 = acc ∧ T.2 = ⟨N.left, N.first, 0⟩) := Lib.hid (by rw [F.out.eq, runF_wait hn]; simp)
      clear hn
      go_wp2_with (go_at_call 25; refine HC.out.mono ?_; rintro e w2 ⟨rfl, t2⟩; have t3 := t2.alloc (.cells #[.int .u8 c.toNat, .string b] 23); have K3 := KEY.out _ t3; clear t2 t3)
      go_ret2
      obtain ⟨k1, k2, k3⟩ := K3.out
      rw [HT.out.1, HT.out.2]
      have e0 := F.out.e0
      obtain ⟨l', f', e'⟩ := N
      dsimp only at e0
      subst e0
      exact ⟨_, rfl, k3, k1, k2⟩
    | bad q =>
      rw [hn] at hm
      obtain ⟨rfl, rfl, hq⟩ := hm
      have HT : Hid (T.1 = acc ∧ T.2 = ⟨N.left, N.first, er⟩) := Lib.hid (by rw [F.out.eq, runF_bad hn]; simp)
      have hne : ((er : Int) != 0) = true := by simp; omega
      clear hn hq
      go_wp2_with (go_at_call 25; refine HC.out.mono ?_; rintro e w2 ⟨rfl, t2⟩; have t3 := t2.alloc (.cells #[.int .u8 c.toNat, .string b] 23); have K3 := KEY.out _ t3; have y2 := K3.out.1.cells.2.2.1; have z2 := K3.out.1.cells.2.2.2.2.2; clear t2 t3)
      go_ret2
      obtain ⟨k1, k2, k3⟩ := K3.out
      rw [HT.out.1, HT.out.2]
      generalize (w2.alloc (.cells #[.int .u8 c.toNat, .string b] 23)) = wr5 at *
      have t5 : Touch [g] wr5 (wr5.setCell ⟨g, 2, none⟩ (.int .i64 er)) := (Touch.refl _ _).setCell _ (.inl (by simp))
      exact ⟨_, rfl, own_touch' k3 t5 (fun i hi => by have := (own_base k3 hi).1; have := F.out.glt; simp; omega), (block_set k1 _).trans rfl, k2.trans t5 (fun i hi => .inl hi)⟩
    | msg m r =>
      rw [hn] at hm
      obtain ⟨rfl, rfl, rfl, hnl, rfl⟩ := hm
      obtain ⟨Bv, cv0, rfl⟩ := own_slice2 F.out.own
      have hfew : Hid (acc.length + 1 ≤ 1000000) := Lib.hid (by
        have h1 := F.out.eq
        rw [runF_msg hn] at h1
        have h2 := F0.out.2
        rw [h1] at h2
        simp only [List.length_append, List.length_cons] at h2
        omega)
      have HT : Hid (T = ((acc ++ [⟨c, b⟩]) ++ (runF (N.left.extract n N.left.size) false).1, (runF (N.left.extract n N.left.size) false).2) ∧ (N.left.extract n N.left.size).size + 4 ≤ N.left.size) := Lib.hid ⟨by rw [F.out.eq, runF_msg hn]; simp, nextF_rest hn⟩
      clear hn
      go_upto_region 11 with (go_at_call 25; refine HC.out.mono ?_; rintro e w2 ⟨rfl, t2⟩; have t3 := t2.alloc (.cells #[.int .u8 c.toNat, .string b] 23); have K3 := KEY.out _ t3; have hb3 := heap_alloc_new w2 (.cells #[.int .u8 c.toNat, .string b] 23); clear t2 t3)
      generalize (w2.alloc (.cells #[.int .u8 c.toNat, .string b] 23)) = w3 at *
      generalize w2.heap.size = g3 at *
      obtain ⟨x0, x1, _, _⟩ := set2 hb3
      have hown2 := Lib.hid (K3.out.2.2.alloc (.cells #[.int .u8 c.toNat, .string b] 23))
      have hsrc : Hid (Src (w3.alloc (.cells #[.int .u8 c.toNat, .string b] 23)) (some ⟨w3.heap.size, 0, none⟩) 1 2 [.int .u8 c.toNat, .string b]) := Lib.hid (.inr ⟨_, rfl, rfl, news_of (cs := #[.int .u8 c.toNat, .string b]) (heap_alloc_new w3 _)⟩)
      have hW : Hid (w.heap.size ≤ (w3.alloc (.cells #[.int .u8 c.toNat, .string b] 23)).heap.size) := Lib.hid (by have := K3.out.2.1.size; simp; omega)
      have hG := Lib.hid F.out.glt
      clear hb3
      have hnb : (0 : Int) ≤ n := by omega
      have hnc : (n : Int) ≤ N.left.size := by omega
      have post : ∀ v5 w5, w5.ownsRow w.heap.size 23 2 v5 (acc.length + 1) (acc.flatMap mC ++ [.int .u8 c.toNat, .string b]) → (w3.alloc (.cells #[.int .u8 c.toNat, .string b] 23)).grownBy w5 (Value.slice Bv acc.length cv0).ownBlock →
          RR w5 g N ∧ Touch [g] w w5 := fun v5 w5 ho hg => by
        have t4 : Touch ((Value.slice Bv acc.length cv0).ownBlock.toList) w3 w5 := ((Touch.refl _ _).alloc _).grownBy hg (fun k hk => .inl (by rw [hk]; simp))
        have hfar : ∀ i ∈ (Value.slice Bv acc.length cv0).ownBlock.toList, w.heap.size ≤ i := fun i hi => by
          have : (Value.slice Bv acc.length cv0).ownBlock = some i := by simpa using hi
          exact (own_base K3.out.2.2 this).1
        exact ⟨K3.out.1.kept t4 (fun hm => by have := hfar g hm; have := hG.out; omega), K3.out.2.1.trans t4 (fun i hi => .inr (hfar i hi))⟩
      have POST := Lib.hid post
      clear post
      go_wp2_with (at_builtin; go_must (refine wpList_append_src _ rfl _ _ 30 rfl w.heap.size 23 j0 _ 2 24 Try.underlying30 J.out.1 J.out.2.1 J.out.2.2.1 J.out.2.2.2 rfl (by decide) (.slice Bv acc.length cv0) acc.length _ rfl hown2.out (some ⟨w3.heap.size, 0, none⟩) 1 1 [.int .u8 c.toNat, .string b] rfl hsrc.out (by simp [Value.oneCell']) (by have := hfew.out; simp [maxLen]; omega) (by have := hfew.out; omega) hW.out ?_); go_must (intro v5 w5 hown5 hg5 hloc5; have K5 := Lib.hid (POST.out v5 w5 hown5 hg5); obtain ⟨y0, y1, y2, z0, z1, z2⟩ := K5.out.1.cells; have O5 := Lib.hid hown5; clear hown5 hg5 hloc5))
      have hb6 : RR ((w5.setCell ⟨g, 0, none⟩ (.string (N.left.extract n N.left.size))).setCell ⟨g, 1, none⟩ (.bool false)) g ⟨N.left.extract n N.left.size, false, N.e⟩ := (block_set ((block_set K5.out.1 _).trans rfl) _).trans rfl
      have t6 : Touch [g] w5 ((w5.setCell ⟨g, 0, none⟩ (.string (N.left.extract n N.left.size))).setCell ⟨g, 1, none⟩ (.bool false)) := ((Touch.refl _ _).setCell _ (.inl (by simp))).setCell _ (.inl (by simp))
      have K6 : Hid (GInv w g T ((w5.setCell ⟨g, 0, none⟩ (.string (N.left.extract n N.left.size))).setCell ⟨g, 1, none⟩ (.bool false)) v5 (acc ++ [⟨c, b⟩]) ⟨N.left.extract n N.left.size, false, N.e⟩ ∧ lenAtR ((w5.setCell ⟨g, 0, none⟩ (.string (N.left.extract n N.left.size))).setCell ⟨g, 1, none⟩ (.bool false)) g < lenAtR wr g) := Lib.hid (by
        refine ⟨⟨hb6, F.out.e0, K5.out.2.trans t6 (fun i hi => .inl hi), ?_, HT.out.1, by have := HT.out.2; have := F.out.sz; dsimp only; omega, hG.out⟩, ?_⟩
        · have := own_touch' O5.out t6 (fun i hi => by have := (own_base O5.out hi).1; have := hG.out; simp; omega)
          simpa [mC] using this
        · rw [lenAtR_of hb6, lenAtR_of F.out.blk]
          have := HT.out.2
          dsimp only
          omega)
      clear hb6 t6 y0 y1 y2 z0 z1 z2 x0 x1
      go_roundw
      case rel => exact ⟨_, _, Lib.hid K6.out.1⟩
      case measure => exact K6.out.2
theorem rFeed_any {w : World} {g : Nat} {M : FM} (h : RR w g M) (s : ByteArray) (hs : M.left.size + s.size ≤ 1000000) :
    Calls Try.prog 19 #[.pointer (some ⟨g, 0, none⟩), .string s] w (rfeedPost w g (feedF M s)) := by
  by_cases he : M.e = 0
  · exact rFeed_ok h s he hs
  · exact rFeed_bad h s he
end Go.Proofs.Ytkaehhldloclhaa
