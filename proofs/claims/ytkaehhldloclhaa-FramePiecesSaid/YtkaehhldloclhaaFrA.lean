/- frame: Feed. -/
import Derived.Test.YtkaehhldloclhaaFr9
import Derived.Deep.RegionLaw
import Derived.Deep.LoopGhost
namespace Go.Proofs.Ytkaehhldloclhaa
open Go Go.RowKit

def mC (m : Msg) : List Value := [.int .u8 m.kind.toNat, .string m.body]
theorem infoMsg : (Try.prog.info? 23).map (fun i => (i.zero, i.size, i.bytes)) = some (some (.agg #[.int .u8 0, .string ⟨#[]⟩]), 2, 24) := by kernel_rfl
theorem infoB : (Try.prog.info? 5).map (fun i => (i.zero, i.size, i.bytes)) = some (some (.int .u8 0), 1, 1) := by kernel_rfl
def feedPost (w : World) (p : Nat) (L : Nat × Nat) (x : List Msg × FM) : Ending → World → Prop := fun e w' => ∃ v, e = .returned (.tuple #[v, .int .i64 x.2.e]) ∧ w'.ownsRow w.heap.size 23 2 v x.1.length (x.1.flatMap mC) ∧ RdE w' p x.2 (L.1, w'.heap.size) ∧ Touch [p] w w'

theorem Feed_not {w : World} {v : Value} (s : ByteArray) (ht : Calls Try.prog 23 #[v] w fun e w' => e = .returned (.bool false) ∧ w = w') :
    Calls Try.prog 14 #[v, .string s] w fun e w' => e = .returned (.tuple #[.slice none 0 0, .int .i64 12]) ∧ w = w' := by
  have Ht := Lib.hid ht; clear ht
  go_enter Try.func14, Try.ntmps14
  go_wp2_with (go_at_call 23; refine Ht.out.mono ?_; rintro e w1 ⟨rfl, rfl⟩)
  go_ret2
  exact ⟨rfl, rfl⟩
theorem Feed_bad {w : World} {p : Nat} {L : Nat × Nat} {M : FM} (h : RdE w p M L) (s : ByteArray) (he : M.e ≠ 0) :
    Calls Try.prog 14 #[.pointer (some ⟨p, 0, none⟩), .string s] w (feedPost w p L (feedF M s)) := by
  have hf : feedF M s = ([], M) := if_neg he
  rw [hf]
  have ht := there_any h
  have H := Lib.hid h
  obtain ⟨A, n, cp, h⟩ := h
  have c2 := h.cells.2.2.1
  have c2d : w.drew.cell? ⟨p, 2, none⟩ = some (.int .i64 M.e) := c2
  have hne : ((M.e : Int) != 0) = true := by simp; omega
  have hne2 : ((M.e : Int) == 0) = false := by simp; omega
  have Ht := Lib.hid ht; clear ht h hf he
  unfold feedPost
  dsimp only
  go_enter Try.func14, Try.ntmps14
  go_wp2_with (go_at_call 23; refine Ht.out.mono ?_; rintro e w1 ⟨rfl, rfl⟩)
  go_quiet (fail)
  go_wp2
  go_ret2
  exact ⟨_, rfl, World.ownsRow_nil _ _ _ _, (H.out.kept0 ((Touch.refl _ _).drewN _)).top (Nat.le_refl _), (Touch.refl _ _).drewN _⟩

theorem after_spec {N : FM} (h0 : N.e = 0) {ok : Bool} {m : Msg} {N' : FM} (hx : (ok, m, N') = afterN N (nextF N.left N.first)) :
    (ok = true → N'.e = 0 ∧ N'.left.size + 4 ≤ N.left.size ∧ runF N.left N.first = (m :: (runF N'.left N'.first).1, (runF N'.left N'.first).2)) ∧ (ok = false → N'.left.size ≤ N.left.size ∧ runF N.left N.first = ([], N')) := by
  obtain ⟨l, f, e⟩ := N
  dsimp only at *
  subst h0
  cases hn : nextF l f with
  | wait =>
    rw [hn] at hx
    cases hx
    exact ⟨fun h => by simp at h, fun _ => ⟨Nat.le_refl _, runF_wait hn⟩⟩
  | bad e =>
    rw [hn] at hx
    cases hx
    exact ⟨fun h => by simp at h, fun _ => ⟨Nat.le_refl _, runF_bad hn⟩⟩
  | msg m r =>
    rw [hn] at hx
    cases hx
    exact ⟨fun _ => ⟨rfl, nextF_rest hn, runF_msg hn⟩, fun h => by simp at h⟩
def lenAt (w : World) (p : Nat) : Nat := match w.cell? ⟨p, 0, none⟩ with | some (.slice _ n _) => n | _ => 0
theorem lenAt_of {w : World} {p : Nat} {L : Nat × Nat} {M : FM} (h : RdE w p M L) : lenAt w p = M.left.size := by
  obtain ⟨A, n, cp, h⟩ := h
  unfold lenAt
  rw [h.cells.1]
  exact h.n_eq
theorem RdE.keptB {w w' : World} {p B l : Nat} {M : FM} (h : RdE w p M (l, B)) {S : List Nat} (t : Touch S w w') (hS : ∀ i ∈ S, B ≤ i) (hp : p < B) : RdE w' p M (l, B) := by
  obtain ⟨A, n, cp, h⟩ := h
  refine ⟨A, n, cp, h.kept t (fun hm => by have := hS p hm; omega) ?_⟩
  rcases h.bl with h0 | h0
  · exact .inl h0
  · exact .inr fun a ha hm => by have h1 := hS _ hm; have h2 := h0 a ha; dsimp only at h2; omega
theorem own_down {w : World} {base base' n size : Nat} {e : TypeId} {v : Value} {xs : List Value} (h : w.ownsRow base e size v n xs) (hb : base' ≤ base) : w.ownsRow base' e size v n xs := by
  refine ⟨h.1, ?_⟩
  rcases h.2 with h0 | ⟨g, cap, cur, rfl, h1, rest⟩
  · exact .inl h0
  · exact .inr ⟨g, cap, cur, rfl, Nat.le_trans hb h1, rest⟩
theorem own_base {w : World} {base n size : Nat} {e : TypeId} {v : Value} {xs : List Value} (h : w.ownsRow base e size v n xs) {i : Nat} (hi : v.ownBlock = some i) : base ≤ i ∧ i < w.heap.size := by
  rcases h.2 with ⟨rfl, _⟩ | ⟨g, cap, cur, rfl, hb, hg, _⟩
  · cases hi
  · cases hi
    exact ⟨hb, heap_lt hg⟩
structure FInv (w : World) (p L B : Nat) (T : List Msg × FM) (wr : World) (v : Value) (acc : List Msg) (g : Nat) (ok : Bool) (m : Msg) (N : FM) : Prop where
  blk : wr.heap[g]? = some (.cells #[.int .u8 m.kind.toNat, .string m.body] 23 (0, 0))
  wB : w.heap.size ≤ B ∧ p < B
  rd : RdE wr p N (L, B)
  t : Touch [p] w wr
  gl : B ≤ g
  own : wr.ownsRow B 23 2 v acc.length (acc.flatMap mC)
  ap : ∀ i, v.ownBlock = some i → i ≠ g
  yes : ok = true → N.e = 0 ∧ T = (acc ++ m :: (runF N.left N.first).1, (runF N.left N.first).2)
  no : ok = false → T = (acc, N)
theorem FInv.few {w : World} {p L B : Nat} {l : ByteArray} {f : Bool} {wr : World} {v : Value} {acc : List Msg} {g : Nat} {m : Msg} {N : FM} (h : FInv w p L B (runF l f) wr v acc g true m N) : acc.length + 1 ≤ l.size := by
  have h1 := (h.yes rfl).2
  have h2 := (runF_left _ l f (Nat.lt_succ_self _)).2.1
  rw [h1] at h2
  simp only [List.length_append, List.length_cons] at h2
  omega
/-- What stands behind the append. -/
theorem FInv.round {w : World} {p L B : Nat} {T : List Msg × FM} {wr w5 : World} {v v5 : Value} {acc : List Msg} {g : Nat} {m : Msg} {N : FM} {o : Obj} {n5 : Nat} {xs : List Value} (h : FInv w p L B T wr v acc g true m N)
    (hown : w5.ownsRow B 23 2 v5 n5 xs) (hg : (wr.alloc o).grownBy w5 v.ownBlock) (_hl : v5.ownBlock = v.ownBlock ∨ v5.ownBlock = some (wr.alloc o).heap.size) :
    RdE w5 p N (L, B) ∧ w5.heap[g]? = some (.cells #[.int .u8 m.kind.toNat, .string m.body] 23 (0, 0)) ∧ Touch [p] w w5 ∧ B ≤ w5.heap.size ∧ (∀ i, v5.ownBlock = some i → i < w5.heap.size) := by
  have hgl := heap_lt h.blk
  have t1 : Touch [] wr (wr.alloc o) := (Touch.refl _ _).alloc o
  cases hv : v.ownBlock with
  | none =>
    rw [hv] at hg
    have t2 : Touch [] wr w5 := t1.grownBy hg (fun k hk => by cases hk)
    exact ⟨h.rd.kept0 t2, (t2.block g hgl (by simp)).trans h.blk, h.t.trans t2 (by simp), by have := t2.size; have := h.gl; omega, fun i hi => (own_base hown hi).2⟩
  | some i =>
    rw [hv] at hg
    have t2 : Touch [i] wr w5 := (t1.mono (by simp)).grownBy hg (fun k hk => by cases hk; exact .inl (by simp))
    have hib := (own_base h.own hv).1
    have hne := h.ap i hv
    refine ⟨h.rd.keptB t2 (fun j hj => by simp at hj; omega) h.wB.2, (t2.block g hgl (by simp; omega)).trans h.blk, h.t.trans t2 (fun j hj => by simp at hj; have := h.wB; exact .inr (by omega)), by have := t2.size; have := h.gl; omega, fun i hi => (own_base hown hi).2⟩
theorem fed_in {w w5 : World} {p n cp c' : Nat} {L : Nat × Nat} {A A' : Option Addr} {l s : ByteArray} {f : Bool} {w0 : World} (h : RdB w p A n cp ⟨l, f, 0⟩ L) (hr : RowG u8C 1 w5 A' (n + s.size) (l ++ s).data.toList) (hc : n + s.size ≤ c') (hd : c' ≤ maxLen)
    (t : Touch [] w0 w5) (hA : (A' = A ∧ s.size = 0) ∨ (A' = some ⟨w0.heap.size, 0, none⟩ ∧ ∃ cs, w5.heap[w0.heap.size]? = some (.cells cs 5 (0, 0)))) (h0 : w0.heap = w.heap := by rfl) (ht : Touch [] w w0 := by exact (Touch.refl _ _).drew) (hs : l.size + s.size ≤ L.1) :
    RdE (w5.setCell ⟨p, 0, none⟩ (.slice A' (n + s.size) c')) p ⟨l ++ s, f, 0⟩ (L.1, (w5.setCell ⟨p, 0, none⟩ (.slice A' (n + s.size) c')).heap.size) ∧ Touch [p] w (w5.setCell ⟨p, 0, none⟩ (.slice A' (n + s.size) c')) := by
  have hp := heap_lt h.blk
  have T := ht.trans t (by simp)
  have hb := (T.block p hp (by simp)).trans h.blk
  have hfar : n + s.size = 0 ∨ ∀ a, A' = some a → a.block ≠ p := by
    rcases hA with ⟨rfl, hs0⟩ | ⟨rfl, _⟩
    · rcases h.far with h3 | h3
      · exact .inl (by omega)
      · exact .inr h3
    · exact .inr fun a ha => by cases ha; show w0.heap.size ≠ p; rw [h0]; omega
  have t6 : Touch [p] w5 (w5.setCell ⟨p, 0, none⟩ (.slice A' (n + s.size) c')) := (Touch.refl _ _).setCell _ (.inl (by simp))
  have hs6 : n + s.size = 0 ∨ ∀ a, A' = some a → a.block ∉ [p] := by
    rcases hfar with h3 | h3
    · exact .inl h3
    · exact .inr fun a ha => by simpa using h3 a ha
  have hty : TyB w5 A' (n + s.size) := by
    rcases hA with ⟨rfl, hs0⟩ | ⟨rfl, cs, hcs⟩
    · rw [hs0, Nat.add_zero]; exact h.ty.kept0 T
    · exact .inr fun a ha => by cases ha; exact ⟨cs, _, hcs⟩
  refine ⟨⟨A', n + s.size, c', (block_set hb _).trans rfl, hr.keptX t6 hs6, ⟨hc, hd⟩, hfar, ?_, ?_, Nat.zero_le _, hty.keptX t6 hs6⟩, (T.mono (by simp)).trans t6 (by simp)⟩
  · show (l ++ s).size ≤ L.1
    rw [ByteArray.size_append]
    exact hs
  · rcases hr.2 with h3 | ⟨g, o, rfl, hg, _⟩
    · exact .inl h3
    · exact .inr fun a ha => by cases ha; exact Nat.lt_of_lt_of_le hg t6.size
set_option maxHeartbeats 2000000 in
theorem Feed_ok {w : World} {p : Nat} {L : Nat × Nat} {M : FM} (h : RdE w p M L) (s : ByteArray) (he : M.e = 0) (hs : M.left.size + s.size ≤ L.1) (hL : L.1 ≤ 1000000) :
    Calls Try.prog 14 #[.pointer (some ⟨p, 0, none⟩), .string s] w (feedPost w p L (feedF M s)) := by
  obtain ⟨i0, hi0, hiz, hi1, hi2⟩ := info_parts infoB
  obtain ⟨j0, hj0, hjz, hj1, hj2⟩ := info_parts infoMsg
  have hf : feedF M s = runF (M.left ++ s) M.first := if_pos he
  rw [hf]
  obtain ⟨l, f, e⟩ := M
  dsimp only at *
  subst he
  have ht := there_any h
  obtain ⟨A, n, cp, h⟩ := h
  obtain ⟨c0, c1, c2, c3⟩ := h.cells
  have hnl : n = l.size := h.n_eq
  have hle := h.le
  have hncp : (n : Int) ≤ cp := by omega
  have hn0 : (0 : Int) ≤ n := by omega
  have Ht := Lib.hid ht; clear ht
  have HP := Lib.hid (heap_lt h.blk)
  have H := Lib.hid h
  have hrow : RowG u8C 1 w A n l.data.toList := h.row
  have hsz : n + s.size ≤ 140737488355328 := by omega
  have B := Lib.hid (And.intro hnl (And.intro hle (And.intro hs hL)))
  clear h hf hnl hs hL hle
  unfold feedPost
  go_enter Try.func14, Try.ntmps14
  go_upto_region 5 with (go_at_call 23; refine Ht.out.mono ?_; rintro e w1 ⟨rfl, rfl⟩)
  go_cut [42] (fun v wx => v = .pointer (some ⟨p, 0, none⟩) ∧ Hid (RdE wx p ⟨l ++ s, f, 0⟩ (L.1, wx.heap.size) ∧ Touch [p] w wx))
  case first =>
    have HR := hrow
    go_region_law (refine step_append_full rfl _ _ 45 9 rfl 5 i0 Try.underlying45 Try.underlying9 hi0 hiz hi1 hi2 (A := A) (n := n) (l := l) hrow s hsz rfl rfl ?_; intro A' c' w5 hrow5 hc5 hd5 t5 hA5; have q0 := t5.cell c0 (by simp); have qb := (t5.block p HP.out (by simp)).trans H.out.blk; have f0 := frozen_of qb 0)
    all_goals
      go_wp2_with fail
      go_meet
      refine ⟨rfl, Lib.hid ?_⟩
      have hnew := fed_in H.out hrow5 hc5 hd5 t5 hA5
      exact hnew B.out.2.2.1
  case rest =>
    obtain ⟨rfl, HX⟩ := hcut
    obtain ⟨nx, hnx⟩ : ∃ x, x = afterN ⟨l ++ s, f, 0⟩ (nextF (l ++ s) f) := ⟨_, rfl⟩
    have HN := Lib.hid (And.intro HX.out (And.intro hnx (next_any HX.out.1 rfl)))
    have HB : Hid (w.heap.size ≤ wc.heap.size ∧ p < wc.heap.size) := Lib.hid ⟨HX.out.2.size, HX.out.1.lt⟩
    obtain ⟨ok, m, N⟩ := nx
    clear hnx c0 c1 c2 c3 hrow
    go_wp2_with fail
    refine HN.out.2.2.mono ?_
    rintro e w2 ⟨rfl, r2, t2⟩
    have e2 := HN.out.2.1
    rw [← e2] at r2
    rw [← e2]
    dsimp only at r2
    dsimp only [msgV]
    have H2 := Lib.hid (And.intro r2 (HX.out.2.trans t2 (by simp)))
    have hp2 : wc.heap.size ≤ w2.heap.size := t2.size
    have F2 : Hid (FInv w p L.1 wc.heap.size (runF (l ++ s) f) (w2.alloc (.cells #[.int .u8 m.kind.toNat, .string m.body] 23)) (.slice none 0 0) [] w2.heap.size ok m N) := Lib.hid (by
      have sp := after_spec (N := ⟨l ++ s, f, 0⟩) rfl e2
      exact ⟨heap_alloc_new w2 _, HB.out, H2.out.1.kept0 ((Touch.refl _ _).alloc _), H2.out.2.alloc _, hp2, World.ownsRow_nil _ _ _ _, (fun i hi => by cases hi), fun hk => ⟨(sp.1 hk).1, (sp.1 hk).2.2⟩, fun hk => (sp.2 hk).2⟩)
    have hLs : Hid ((l ++ s).size ≤ 1000000) := Lib.hid (by rw [ByteArray.size_append]; have := B.out; omega)
    have J := Lib.hid (And.intro hj0 (And.intro hjz (And.intro hj1 hj2)))
    clear r2 t2 e2 hp2 H2 HN HX hj0 hjz hj1 hj2 H HP Ht hsz hncp hn0
    go_wp2_with fail
    generalize (w2.alloc (.cells #[.int .u8 m.kind.toNat, .string m.body] 23)) = W2 at *
    generalize w2.heap.size = g2 at *
    generalize wc.heap.size = B at *
    generalize hls : l ++ s = l at *
    have HLS := Lib.hid hls
    clear hls
    generalize hT : runF l f = T at *
    have HT := Lib.hid hT
    clear hT
    go_loopw [6, 7, 8] (fun v q b wr => ∃ (acc : List Msg) (g : Nat) (ok : Bool) (m : Msg) (N : FM), q = .pointer (some ⟨g, 0, none⟩) ∧ b = .bool ok ∧ Hid (FInv w p L.1 B T wr v acc g ok m N)) (fun _ _ b wr => lenAt wr p + (match b with | .bool true => 1 | _ => 0))
    case atStart => exact ⟨[], g2, ok, m, N, rfl, rfl, F2⟩
    case round =>
      obtain ⟨acc, g, ok, m, N, rfl, rfl, F⟩ := hrel
      cases ok with
      | false =>
        have hno := F.out.no rfl
        have c2 : wr.cell? ⟨p, 2, none⟩ = some (.int .i64 N.e) := by
          obtain ⟨A1, n1, cp1, h1⟩ := F.out.rd
          exact h1.cells.2.2.1
        have c2d : wr.drew.cell? ⟨p, 2, none⟩ = some (.int .i64 N.e) := c2
        go_wp2_with fail
        go_quiet (fail)
        go_wp2
        go_ret2
        rw [HLS.out, HT.out, hno]
        exact ⟨_, rfl, own_touch' (own_down F.out.own F.out.wB.1) ((Touch.refl [] _).drewN _) (by simp), (F.out.rd.kept0 ((Touch.refl _ _).drewN _)).top (Nat.le_refl _), F.out.t.drewN _⟩
      | true =>
        obtain ⟨d0, d1, _, _⟩ := set2 F.out.blk
        obtain ⟨Bv, cv0, rfl⟩ := own_slice2 F.out.own
        have hfew : Hid (acc.length + 1 ≤ 1000000) := Lib.hid (by have h1 := F.out; rw [← HT.out] at h1; have := h1.few; have := hLs.out; omega)
        have hown2 := Lib.hid (F.out.own.alloc (.cells #[.int .u8 m.kind.toNat, .string m.body] 23))
        have hsrc : Hid (Src (wr.alloc (.cells #[.int .u8 m.kind.toNat, .string m.body] 23)) (some ⟨wr.heap.size, 0, none⟩) 1 2 [.int .u8 m.kind.toNat, .string m.body]) := Lib.hid (.inr ⟨_, rfl, rfl, news_of (cs := #[.int .u8 m.kind.toNat, .string m.body]) (heap_alloc_new wr _)⟩)
        go_wp2_with (at_builtin; go_must (refine wpList_append_src _ rfl _ _ 30 rfl B 23 j0 _ 2 24 Try.underlying30 J.out.1 J.out.2.1 J.out.2.2.1 J.out.2.2.2 rfl (by decide) (.slice Bv acc.length cv0) acc.length _ rfl hown2.out (some ⟨wr.heap.size, 0, none⟩) 1 1 [.int .u8 m.kind.toNat, .string m.body] rfl hsrc.out (by simp [Value.oneCell']) (by have := hfew.out; simp [maxLen]; omega) (by have := hfew.out; omega) (by have := F.out.gl; have := heap_lt F.out.blk; simp; omega) ?_); go_must (intro v5 w5 hown5 hg5 hloc5; have K5 := F.out.round hown5 hg5 hloc5; have b5 := K5.2.1; obtain ⟨x0, x1, _, _⟩ := set2 b5))
        obtain ⟨nx, hnx⟩ : ∃ x, x = afterN N (nextF N.left N.first) := ⟨_, rfl⟩
        obtain ⟨ok', m', N'⟩ := nx
        have hy := F.out.yes rfl
        have sp := after_spec hy.1 hnx
        have blk6 := heap_alloc_new w5 (.cells #[.int .u8 m.kind.toNat, .string m.body] 23)
        refine (next_any (K5.1.kept0 ((Touch.refl [] w5).alloc (.cells #[.int .u8 m.kind.toNat, .string m.body] 23))) hy.1).mono ?_
        rintro e w7 ⟨rfl, r7, t7⟩
        rw [← hnx] at r7
        rw [← hnx]
        dsimp only at r7
        dsimp only [msgV]
        have hpB := F.out.wB
        have b7 := (t7.block w5.heap.size (heap_lt blk6) (by have := K5.2.2.2.1; simp; omega)).trans blk6
        obtain ⟨z1, z2, z3, z4, z5, z6⟩ := wrote2 b7 (.int .u8 m'.kind.toNat) (.string m'.body)
        have B8 := set2'' b7 (.int .u8 m'.kind.toNat) (.string m'.body)
        have t8 : Touch [w5.heap.size] w7 ((w7.setCell ⟨w5.heap.size, 0, none⟩ (.int .u8 m'.kind.toNat)).setCell ⟨w5.heap.size, 1, none⟩ (.string m'.body)) := ((Touch.refl _ _).setCell _ (.inl (by simp))).setCell _ (.inl (by simp))
        have rd8 := r7.keptB t8 (fun i hi => by simp at hi; have := K5.2.2.2.1; omega) hpB.2
        have own8 := own_touch' (own_touch' (own_touch' hown5 ((Touch.refl [] w5).alloc (.cells #[.int .u8 m.kind.toNat, .string m.body] 23)) (by simp)) t7 (fun i hi => by have := (own_base hown5 hi).1; simp; omega)) t8 (fun i hi => by have := (own_base hown5 hi).2; simp; omega)
        have K8 : Hid (FInv w p L.1 B T ((w7.setCell ⟨w5.heap.size, 0, none⟩ (.int .u8 m'.kind.toNat)).setCell ⟨w5.heap.size, 1, none⟩ (.string m'.body)) v5 (acc ++ [m]) w5.heap.size ok' m' N' ∧
            lenAt ((w7.setCell ⟨w5.heap.size, 0, none⟩ (.int .u8 m'.kind.toNat)).setCell ⟨w5.heap.size, 1, none⟩ (.string m'.body)) p + (if ok' then 1 else 0) < lenAt wr p + 1) := Lib.hid (by
          refine ⟨⟨B8, hpB, rd8, ?_, K5.2.2.2.1, by simpa [mC] using own8, fun i hi => by have := (own_base hown5 hi).2; omega, fun hk => ⟨(sp.1 hk).1, ?_⟩, fun hk => ?_⟩, ?_⟩
          · exact ((K5.2.2.1.alloc _).trans t7 (by simp)).trans t8 (fun i hi => by simp at hi; have := K5.2.2.2.1; exact .inr (by omega))
          · rw [hy.2, (sp.1 hk).2.2]; simp
          · rw [hy.2, (sp.2 hk).2]
          · rw [lenAt_of rd8, lenAt_of F.out.rd]
            cases ok' with
            | true => have := (sp.1 rfl).2.1; simp; omega
            | false => have := (sp.2 rfl).1; simp; omega)
        clear rd8 own8 t8 B8 b7 blk6 r7 t7 sp hy hnx hown5 hg5 hloc5 K5 x0 x1 b5 d0 d1 hpB
        go_wp2_with fail
        go_roundw
        case rel => exact ⟨acc ++ [m], w5.heap.size, ok', m', N', rfl, rfl, Lib.hid K8.out.1⟩
        case measure => have := K8.out.2; cases ok' <;> simpa using this
end Go.Proofs.Ytkaehhldloclhaa
