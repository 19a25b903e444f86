/- FramePieces: bytes that are fed in two pieces, and one by one, give the messages that they give at once. -/
import Derived.Test.YtkaehhldloclhaaFrK
namespace Go.Proofs.Ytkaehhldloclhaa
open Go Go.RowKit

theorem RdE.keptX {w w' : World} {p q : Nat} {L : Nat × Nat} {M : FM} {cs : Array Value} {t : TypeId} {fr : Nat × Nat} (h : RdE w p M L) (hq : w.heap[q]? = some (.cells cs t fr)) (hno : ∀ (i : Nat) (x : Int), cs[i]? ≠ some (Value.int .u8 x)) (ht : Touch [q] w w') (hpq : p ≠ q) : RdE w' p M L := by
  obtain ⟨A, n, cp, h⟩ := h
  refine ⟨A, n, cp, h.kept ht (by simpa using hpq) ?_⟩
  by_cases h0 : n = 0
  · exact .inl h0
  · refine .inr fun a ha hm => ?_
    obtain ⟨g, o, x, hA, _, _, _, _, hc⟩ := h.row.at (j := 0) (by omega)
    rw [hA] at ha
    cases ha
    have hc0 := hc 0 _ rfl
    simp only [List.mem_singleton] at hm
    subst hm
    rw [cell_of hq] at hc0
    exact hno _ _ hc0
theorem no_u8_Rd (v : Value) (b : Bool) (e : Int) (hv : ∀ x : Int, v ≠ Value.int .u8 x) : ∀ (i : Nat) (x : Int), (#[v, .bool b, .int .i64 e, .bool true] : Array Value)[i]? ≠ some (Value.int .u8 x) := by
  intro i x
  match i with
  | 0 => simpa using hv x
  | 1 => simp
  | 2 => simp
  | 3 => simp
  | i + 4 => simp
/-- Another reader's feeding leaves this one. -/
theorem RdE.other {w w' : World} {p q : Nat} {L L' : Nat × Nat} {M M' : FM} (h : RdE w p M L) (hq : RdE w q M' L') (ht : Touch [q] w w') (hpq : p ≠ q) : RdE w' p M L := by
  obtain ⟨A, n, cp, hq⟩ := hq
  exact h.keptX hq.blk (no_u8_Rd _ _ _ (by simp)) ht hpq
def M0 : FM := ⟨ByteArray.empty, false, 0⟩
theorem extract_snoc (s : ByteArray) (k : Nat) (hk : k < s.size) : s.extract 0 (k + 1) = s.extract 0 k ++ s.extract k (k + 1) := by
  apply ByteArray.ext
  apply Array.toList_inj.1
  rw [ByteArray.data_append, Array.toList_append, extract_list, extract_list, extract_list]
  simp only [Nat.sub_zero, List.drop_zero]
  have hl : k < s.data.toList.length := by simpa using hk
  rw [List.take_succ_eq_append_getElem hl, show k + 1 - k = 1 by omega, List.drop_eq_getElem_cons hl]
  rfl
theorem extract_cut (s : ByteArray) (k : Nat) : s.extract 0 k ++ s.extract k s.size = s := by
  apply ByteArray.ext
  apply Array.toList_inj.1
  have hl : s.data.toList.length = s.size := by simp
  rw [ByteArray.data_append, Array.toList_append, extract_list, extract_list]
  simp only [Nat.sub_zero, List.drop_zero]
  rw [List.take_of_length_le (l := s.data.toList.drop k) (by simp), List.take_append_drop]
theorem extract_all (s : ByteArray) : s.extract 0 s.size = s := by simp
/-- Fed one by one: what was told, and how it stands, after k bytes. -/
structure OneI (s : ByteArray) (k : Nat) (acc : List Msg) (N : FM) : Prop where
  a : acc = (feedF M0 (s.extract 0 k)).1
  e : N.e = (feedF M0 (s.extract 0 k)).2.e
  n : N.e = 0 → N = (feedF M0 (s.extract 0 k)).2
  z : N.left.size ≤ k
theorem feedF_size' (M : FM) (s : ByteArray) : (feedF M s).2.left.size ≤ M.left.size + s.size := by
  unfold feedF
  split
  · have := (runF_left _ (M.left ++ s) M.first (Nat.lt_succ_self _)).1
    rwa [ByteArray.size_append] at this
  · show M.left.size ≤ _; omega
theorem feedF_len (M : FM) (s : ByteArray) : (feedF M s).1.length ≤ M.left.size + s.size := by
  unfold feedF
  split
  · have := (runF_left _ (M.left ++ s) M.first (Nat.lt_succ_self _)).2.1
    rw [ByteArray.size_append] at this
    omega
  · simp
theorem OneI.start (s : ByteArray) : OneI s 0 [] M0 := by
  have e : feedF M0 (s.extract 0 0) = ([], M0) := by
    have h : s.extract 0 0 = ByteArray.empty := by simp
    rw [h]
    rfl
  exact ⟨by rw [e], by rw [e], fun _ => by rw [e], by simp [M0]⟩
theorem OneI.next {s : ByteArray} {k : Nat} {acc : List Msg} {N : FM} (h : OneI s k acc N) (hk : k < s.size) : OneI s (k + 1) (acc ++ (feedF N (s.extract k (k + 1))).1) (feedF N (s.extract k (k + 1))).2 := by
  have hz : (s.extract k (k + 1)).size = 1 := by rw [ByteArray.size_extract]; omega
  have hsz := feedF_size' N (s.extract k (k + 1))
  obtain ⟨f1, f2, f3⟩ := feed_app M0 (s.extract 0 k) (s.extract k (k + 1))
  rw [← extract_snoc s k hk] at f1 f2 f3
  by_cases h0 : N.e = 0
  · rw [← h.n h0] at f1 f2 f3
    exact ⟨by rw [f1, h.a], f2.symm, fun hx => (f3 (f2.trans hx)).symm, by have := h.z; omega⟩
  · have hn : feedF N (s.extract k (k + 1)) = ([], N) := if_neg h0
    have hm : feedF (feedF M0 (s.extract 0 k)).2 (s.extract k (k + 1)) = ([], (feedF M0 (s.extract 0 k)).2) := if_neg (by rw [← h.e]; exact h0)
    rw [hm] at f1 f2 f3
    rw [hn]
    exact ⟨by rw [f1, h.a], by rw [f2]; exact h.e, fun hx => absurd hx h0, by have := h.z; dsimp only; omega⟩
/-- An append to one's own row: what stood elsewhere stays. -/
theorem grown_touch {w w' : World} {base n size : Nat} {e : TypeId} {v : Value} {xs : List Value} (_h : w.ownsRow base e size v n xs) (hg : w.grownBy w' v.ownBlock) : Touch v.ownBlock.toList w w' :=
  (Touch.refl _ _).grownBy hg (fun k hk => .inl (by rw [hk]; simp))
theorem own_list {w : World} {base n size : Nat} {e : TypeId} {v : Value} {xs : List Value} (h : w.ownsRow base e size v n xs) : ∀ i ∈ v.ownBlock.toList, base ≤ i ∧ i < w.heap.size := fun i hi => own_base h (by simpa using hi)
theorem RdE.top' {w w' : World} {p : Nat} {L : Nat × Nat} {M : FM} (h : RdE w' p M (L.1, w.heap.size)) (hs : w.heap.size ≤ w'.heap.size) : RdE w' p M (L.1, w'.heap.size) :=
  h.wide (by obtain ⟨_, _, _, q⟩ := h; exact q.sz) hs
structure PI (w0 : World) (pc : Nat) (s : ByteArray) (k : Nat) (wr : World) (v : Value) (acc : List Msg) (N : FM) : Prop where
  own : wr.ownsRow w0.heap.size 23 2 v acc.length (acc.flatMap mC)
  rd : RdE wr pc N (200000, wr.heap.size)
  t : Touch [pc] w0 wr
  o : OneI s k acc N
  plt : pc < w0.heap.size
theorem PI.len {w0 wr : World} {pc k : Nat} {s : ByteArray} {v : Value} {acc : List Msg} {N : FM} (h : PI w0 pc s k wr v acc N) (hk : k ≤ s.size) : acc.length ≤ k := by
  have := feedF_len M0 (s.extract 0 k)
  rw [h.o.a]
  have h2 : (s.extract 0 k).size = k := by rw [ByteArray.size_extract]; omega
  have h3 : M0.left.size = 0 := rfl
  omega
/-- A row of messages is no row of bytes. -/
theorem RdE.keptMsg {w w' : World} {p base n size : Nat} {L : Nat × Nat} {M : FM} {v : Value} {xs : List Value} (h : RdE w p M L) (ho : w.ownsRow base 23 size v n xs) (t : Touch v.ownBlock.toList w w') (hp : p < base) : RdE w' p M L := by
  obtain ⟨A, n0, cp, h⟩ := h
  refine ⟨A, n0, cp, h.kept t (fun hm => by have := (own_list ho p hm).1; omega) ?_⟩
  rcases h.ty with h0 | h0
  · exact .inl h0
  · refine .inr fun a ha hm => ?_
    obtain ⟨cs, fr, hc⟩ := h0 a ha
    rcases ho.2 with ⟨rfl, _⟩ | ⟨g, cap, cur, rfl, _, hg, _⟩
    · simp [Value.ownBlock] at hm
    · have : a.block = g := by simpa [Value.ownBlock] using hm
      rw [this, hg] at hc
      simp only [Option.some.injEq, Obj.cells.injEq] at hc
      exact absurd hc.2.1 (by decide)
theorem PI.next {w0 wr w1 w2 : World} {pc k : Nat} {s : ByteArray} {v v2 : Value} {acc : List Msg} {N : FM} {n2 : Nat} {xs : List Value} (h : PI w0 pc s k wr v acc N) (hk : k < s.size)
    (r1 : RdE w1 pc (feedF N (s.extract k (k + 1))).2 (200000, w1.heap.size)) (t1 : Touch [pc] wr w1)
    (hg : w1.grownBy w2 v.ownBlock) (own2 : w2.ownsRow w0.heap.size 23 2 v2 n2 xs) (hn : n2 = acc.length + (feedF N (s.extract k (k + 1))).1.length) (hx : xs = acc.flatMap mC ++ (feedF N (s.extract k (k + 1))).1.flatMap mC) :
    PI w0 pc s (k + 1) w2 v2 (acc ++ (feedF N (s.extract k (k + 1))).1) (feedF N (s.extract k (k + 1))).2 := by
  have h1 := own_touch' h.own t1 (fun i hi => by have := (own_base h.own hi).1; have := h.plt; simp; omega)
  have t2 := grown_touch h1 hg
  have hl := own_list h1
  have r2 := r1.keptMsg h1 t2 h.plt
  subst hn hx
  exact ⟨by simpa using own2, r2.wide (by obtain ⟨_, _, _, q⟩ := r2; exact q.sz) t2.size, (h.t.trans t1 (fun i hi => .inl hi)).trans t2 (fun i hi => .inr (hl i hi).1), h.o.next hk, h.plt⟩
/-- What was read before the loop, and is read behind it. -/
structure PK (w W : World) (pa pb pc : Nat) (X Z : FM) (A1 : Option Addr) (l1 : List Msg) (A2 : Option Addr) (l2 : List Msg) : Prop where
  a : RdE W pa X (200000, W.heap.size)
  b : RdE W pb Z (200000, W.heap.size)
  r1 : RowG mC 2 W A1 l1.length l1
  r2 : RowG mC 2 W A2 l2.length l2
  f1 : ∀ x, A1 = some x → x.block ≠ pc
  f2 : ∀ x, A2 = some x → x.block ≠ pc
  ac : pa ≠ pc
  bc : pb ≠ pc
  bel : Below w.heap.size w W
  pcw : w.heap.size ≤ pc
theorem PK.tw {w W W' : World} {pa pb pc : Nat} {X Z : FM} {A1 A2 : Option Addr} {l1 l2 : List Msg} (h : PK w W pa pb pc X Z A1 l1 A2 l2) (t : Touch [] W W') : PK w W' pa pb pc X Z A1 l1 A2 l2 :=
  ⟨RdE.top' (L := (200000, 0)) (h.a.kept0 t) t.size, RdE.top' (L := (200000, 0)) (h.b.kept0 t) t.size, h.r1.kept0 t, h.r2.kept0 t, h.f1, h.f2, h.ac, h.bc, h.bel.trans (t.below h.bel.size (by simp)), h.pcw⟩
theorem PK.loop {w W W' : World} {pa pb pc : Nat} {X Z N : FM} {A1 A2 : Option Addr} {l1 l2 : List Msg} {L : Nat × Nat} (h : PK w W pa pb pc X Z A1 l1 A2 l2) (hc : RdE W pc N L) (t : Touch [pc] W W') : PK w W' pa pb pc X Z A1 l1 A2 l2 :=
  ⟨RdE.top' (L := (200000, 0)) (h.a.other hc t h.ac) t.size, RdE.top' (L := (200000, 0)) (h.b.other hc t h.bc) t.size, h.r1.kept t (fun x hx => by simpa using h.f1 x hx), h.r2.kept t (fun x hx => by simpa using h.f2 x hx), h.f1, h.f2, h.ac, h.bc, h.bel.trans (t.below h.bel.size (fun i hi => by simp at hi; have := h.pcw; omega)), h.pcw⟩
theorem mC_one (l : List Msg) : ∀ u ∈ l.flatMap mC, u.oneCell' = true := by
  intro u hu
  obtain ⟨m, _, hm⟩ := List.mem_flatMap.1 hu
  simp [mC] at hm
  rcases hm with rfl | rfl <;> rfl
set_option maxRecDepth 100000 in
set_option maxHeartbeats 8000000 in
theorem FramePieces_walk (s : ByteArray) (q : Nat) (w : World) (hq : q ≤ 65535) : Calls Try.prog 4 #[.string s, .int .u16 q] w fun e w' => e = .returned (.bool true) ∧ Below w.heap.size w w' := by
  by_cases h30 : 3000 < s.size
  · have h1 : (3000 : Int) < s.size := by omega
    clear hq
    go_enter Try.func4, Try.ntmps4
    go_wp2_with (go_at_call 12; refine (known_any _).mono ?_; rintro e w1 ⟨rfl, b1⟩)
    go_ret
    exact ⟨rfl, b1⟩
  have h1 : ¬ (3000 : Int) < s.size := by omega
  have hs3 : s.size ≤ 3000 := by omega
  clear h30
  obtain ⟨j0, hj0, hjz, hj1, hj2⟩ := info_parts infoMsg
  have J := Lib.hid (And.intro hj0 (And.intro hjz (And.intro hj1 hj2)))
  clear hj0 hjz hj1 hj2
  obtain ⟨kk, hkk⟩ : ∃ kk : Nat, kk = q % (s.size + 1) := ⟨_, rfl⟩
  have hkq : (q : Int) % ((s.size : Int) + 1) = (kk : Int) := by rw [hkk, show (s.size : Int) + 1 = ((s.size + 1 : Nat) : Int) by omega]; exact (Int.natCast_emod _ _).symm
  have hkl : kk ≤ s.size := by rw [hkk]; have := Nat.mod_lt q (show 0 < s.size + 1 by omega); omega
  have hkl2 : (kk : Int) ≤ s.size := by omega
  have hk0 : (0 : Int) ≤ kk := by omega
  clear hkk
  obtain ⟨X, hX⟩ : ∃ X, X = feedF M0 s := ⟨_, rfl⟩
  obtain ⟨Y, hY⟩ : ∃ Y, Y = feedF M0 (s.extract 0 kk) := ⟨_, rfl⟩
  obtain ⟨Z, hZ⟩ : ∃ Z, Z = feedF Y.2 (s.extract kk s.size) := ⟨_, rfl⟩
  have HF : Hid (X = feedF M0 s ∧ Y = feedF M0 (s.extract 0 kk) ∧ Z = feedF Y.2 (s.extract kk s.size)) := Lib.hid ⟨hX, hY, hZ⟩
  have HA : Hid (X.1 = Y.1 ++ Z.1 ∧ X.2.e = Z.2.e ∧ (X.2.e = 0 → X.2 = Z.2)) := Lib.hid (by
    have := feed_app M0 (s.extract 0 kk) (s.extract kk s.size)
    rw [extract_cut] at this
    rw [hX, hZ, hY]
    exact this)
  have HZ : Hid (X.1.length ≤ 3000 ∧ Y.1.length + Z.1.length ≤ 3000 ∧ Y.2.left.size ≤ 3000) := Lib.hid (by
    have a := feedF_len M0 s
    have b := feedF_size' M0 (s.extract 0 kk)
    have c : M0.left.size = 0 := rfl
    have d : (s.extract 0 kk).size = kk := by rw [ByteArray.size_extract]; omega
    have e := congrArg List.length HA.out.1
    rw [List.length_append] at e
    rw [← hX] at a
    rw [← hY] at b
    omega)
  have hq2 : (q : Int) ≤ 65535 := by omega
  have HAE : Hid (X.2.e = 0 → X.2 = Z.2) := Lib.hid HA.out.2.2
  clear hX hY hZ hq
  go_enter Try.func4, Try.ntmps4
  go_wp2_with fail
  refine (New_any false w).mono ?_
  rintro e w1 ⟨rfl, r1, t1⟩
  have K1 := Lib.hid (And.intro r1 t1)
  clear r1 t1
  go_wp2_with fail
  refine (New_any false w1).mono ?_
  rintro e w2 ⟨rfl, r2, t2⟩
  have K2 := Lib.hid (And.intro r2 t2)
  clear r2 t2
  go_wp2_with fail
  refine (New_any false w2).mono ?_
  rintro e w3 ⟨rfl, r3, t3⟩
  have K3 : Hid (RdE w3 w.heap.size M0 (200000, w3.heap.size) ∧ RdE w3 w1.heap.size M0 (200000, w3.heap.size) ∧ RdE w3 w2.heap.size M0 (200000, w3.heap.size) ∧ Touch [] w w3 ∧ w.heap.size < w1.heap.size ∧ w1.heap.size < w2.heap.size ∧ w2.heap.size < w3.heap.size) := Lib.hid (by
    have z : ∀ {W : World} {p : Nat}, RdE W p ⟨ByteArray.empty, false, 0⟩ (0, 0) → RdE W p M0 (200000, w3.heap.size) := fun h => h.wide (by simp) (Nat.zero_le _)
    exact ⟨z ((K1.out.1.kept0 K2.out.2).kept0 t3), z (K2.out.1.kept0 t3), z r3, (K1.out.2.trans K2.out.2 (by simp)).trans t3 (by simp), K1.out.1.lt, K2.out.1.lt, r3.lt⟩)
  clear r3 t3 K1 K2
  generalize hpa : w.heap.size = pa at *
  generalize w1.heap.size = pb at *
  generalize w2.heap.size = pc at *
  have HPA := Lib.hid hpa
  clear hpa
  go_wp2_with fail
  refine (Feed_any K3.out.1 s (show 0 + s.size ≤ 200000 by omega) (show 200000 ≤ 1000000 by omega)).mono ?_
  rintro e w4 ⟨v4, rfl, o4, r4, t4⟩
  rw [← HF.out.1] at o4 r4 ⊢
  obtain ⟨A4, c4, rfl⟩ := own_slice2 o4
  have K4 : Hid (RdE w4 pa X.2 (200000, w4.heap.size) ∧ RdE w4 pb M0 (200000, w4.heap.size) ∧ RdE w4 pc M0 (200000, w4.heap.size) ∧ Touch [pa] w3 w4 ∧ w4.ownsRow w3.heap.size 23 2 (.slice A4 X.1.length c4) X.1.length (X.1.flatMap mC)) := Lib.hid
    ⟨r4, RdE.top' (L := (200000, 0)) (K3.out.2.1.other K3.out.1 t4 (by have := K3.out; omega)) t4.size, RdE.top' (L := (200000, 0)) (K3.out.2.2.1.other K3.out.1 t4 (by have := K3.out; omega)) t4.size, t4, o4⟩
  clear o4 r4 t4
  go_wp2_with fail
  refine (Feed_any K4.out.2.1 (s.extract 0 kk) (show 0 + (s.extract 0 kk).size ≤ 200000 by rw [ByteArray.size_extract]; omega) (show 200000 ≤ 1000000 by omega)).mono ?_
  rintro e w5 ⟨v5, rfl, o5, r5, t5⟩
  rw [← HF.out.2.1] at o5 r5 ⊢
  obtain ⟨A5, c5, rfl⟩ := own_slice2 o5
  have K5 : Hid (RdE w5 pa X.2 (200000, w5.heap.size) ∧ RdE w5 pb Y.2 (200000, w5.heap.size) ∧ RdE w5 pc M0 (200000, w5.heap.size) ∧ Touch [pb] w4 w5 ∧ w5.ownsRow w4.heap.size 23 2 (.slice A5 Y.1.length c5) Y.1.length (Y.1.flatMap mC)) := Lib.hid
    ⟨RdE.top' (L := (200000, 0)) (K4.out.1.other K4.out.2.1 t5 (by have := K3.out; omega)) t5.size, r5, RdE.top' (L := (200000, 0)) (K4.out.2.2.1.other K4.out.2.1 t5 (by have := K3.out; omega)) t5.size, t5, o5⟩
  clear o5 r5 t5
  go_wp2_with fail
  refine (Feed_any K5.out.2.1 (s.extract kk s.size) (show Y.2.left.size + (s.extract kk s.size).size ≤ 200000 by rw [ByteArray.size_extract]; have := HZ.out; omega) (show 200000 ≤ 1000000 by omega)).mono ?_
  rintro e w6 ⟨v6, rfl, o6, r6, t6⟩
  rw [← HF.out.2.2] at o6 r6 ⊢
  obtain ⟨A6, c6, rfl⟩ := own_slice2 o6
  rw [← HA.out.2.1]
  have K6 : Hid (RdE w6 pa X.2 (200000, w6.heap.size) ∧ RdE w6 pb Z.2 (200000, w6.heap.size) ∧ RdE w6 pc M0 (200000, w6.heap.size) ∧ w6.ownsRow w3.heap.size 23 2 (.slice A4 X.1.length c4) X.1.length (X.1.flatMap mC) ∧ w6.ownsRow w4.heap.size 23 2 (.slice A5 Y.1.length c5) Y.1.length (Y.1.flatMap mC) ∧ w6.ownsRow w5.heap.size 23 2 (.slice A6 Z.1.length c6) Z.1.length (Z.1.flatMap mC) ∧ Below pa w w6) := Lib.hid (by
    have hpp := K3.out.2.2.2.2
    have b4 := K3.out.2.2.2.1
    have z4 := K4.out.2.2.2.1.size
    have z5 := K5.out.2.2.2.1.size
    refine ⟨RdE.top' (L := (200000, 0)) (K5.out.1.other K5.out.2.1 t6 (by omega)) t6.size, r6, RdE.top' (L := (200000, 0)) (K5.out.2.2.1.other K5.out.2.1 t6 (by omega)) t6.size, ?_, ?_, o6, ?_⟩
    · exact own_touch' (own_touch' K4.out.2.2.2.2 K5.out.2.2.2.1 (fun i hi => by have := (own_base K4.out.2.2.2.2 hi).1; simp; omega)) t6 (fun i hi => by have := (own_base K4.out.2.2.2.2 hi).1; simp; omega)
    · exact own_touch' K5.out.2.2.2.2 t6 (fun i hi => by have := (own_base K5.out.2.2.2.2 hi).1; simp; omega)
    · have hw := HPA.out
      exact ⟨t6.os.trans (K5.out.2.2.2.1.os.trans (K4.out.2.2.2.1.os.trans b4.os)), t6.tape.trans (K5.out.2.2.2.1.tape.trans (K4.out.2.2.2.1.tape.trans b4.tape)), t6.output.trans (K5.out.2.2.2.1.output.trans (K4.out.2.2.2.1.output.trans b4.output)), by have := b4.size; have := t6.size; omega, fun i hi => by
        have h1 := b4.size
        exact (t6.block i (by omega) (by simp; omega)).trans ((K5.out.2.2.2.1.block i (by omega) (by simp; omega)).trans ((K4.out.2.2.2.1.block i (by omega) (by simp; omega)).trans (b4.block i (by omega) (by simp))))⟩)
  have Z34 : Hid (w3.heap.size ≤ w4.heap.size ∧ w4.heap.size ≤ w5.heap.size ∧ w5.heap.size ≤ w6.heap.size) := Lib.hid ⟨K4.out.2.2.2.1.size, K5.out.2.2.2.1.size, t6.size⟩
  clear o6 r6 t6
  have POST : Hid (∀ v7 w7, w7.ownsRow w4.heap.size 23 2 v7 (Y.1.length + Z.1.length) (Y.1.flatMap mC ++ Z.1.flatMap mC) → w6.grownBy w7 (Value.slice A5 Y.1.length c5).ownBlock → (v7.ownBlock = (Value.slice A5 Y.1.length c5).ownBlock ∨ v7.ownBlock = some w6.heap.size) →
      ∃ A7 c7, v7 = .slice A7 X.1.length c7 ∧ PK w w7 pa pb pc X.2 Z.2 A4 X.1 A7 X.1 ∧ PI w7 pc s 0 w7 (.slice none 0 0) [] M0) := Lib.hid (by
    intro v7 w7 o7 g7 _
    have hpp := K3.out.2.2.2.2
    have hz := Z34.out
    have t7 := grown_touch K6.out.2.2.2.2.1 g7
    have hl := own_list K6.out.2.2.2.2.1
    have e1 : Y.1.length + Z.1.length = X.1.length := by rw [HA.out.1, List.length_append]
    have e2 : Y.1.flatMap mC ++ Z.1.flatMap mC = X.1.flatMap mC := by rw [HA.out.1, List.flatMap_append]
    rw [e1, e2] at o7
    obtain ⟨A7, c7, rfl⟩ := own_slice2 o7
    have kept : ∀ {p : Nat} {M : FM}, RdE w6 p M (200000, w6.heap.size) → p < w3.heap.size → RdE w7 p M (200000, w7.heap.size) := fun h hp => RdE.top' (L := (200000, 0)) (h.keptMsg K6.out.2.2.2.2.1 t7 (by omega)) t7.size
    have o4 := own_touch' K6.out.2.2.2.1 t7 (fun i hi hm => by
      have h1 := (own_base K4.out.2.2.2.2 hi).2
      have h2 := (hl i hm).1
      omega)
    refine ⟨A7, c7, rfl, ⟨kept K6.out.1 (by omega), kept K6.out.2.1 (by omega), RowG.of_own (enc := mC) (k := 2) (fun _ => rfl) (by decide) o4, RowG.of_own (enc := mC) (k := 2) (fun _ => rfl) (by decide) o7, fun a ha => by have := own_addr o4 ha; omega, fun a ha => by have := own_addr o7 ha; omega, by omega, by omega, ?_, by have := HPA.out; omega⟩, ⟨World.ownsRow_nil _ _ _ _, kept K6.out.2.2.1 (by omega), Touch.refl _ _, OneI.start s, by have := t7.size; omega⟩⟩
    rw [HPA.out]
    exact K6.out.2.2.2.2.2.2.trans (t7.below (by have := K3.out.2.2.2.1.size; have := HPA.out; omega) (fun i hi => by have := (hl i hi).1; omega)))
  have SRC := Lib.hid (Src.own K6.out.2.2.2.2.2.1)
  go_wp2_with (at_builtin; go_must (refine wpList_append_src _ rfl _ _ 30 rfl w4.heap.size 23 j0 _ 2 24 Try.underlying30 J.out.1 J.out.2.1 J.out.2.2.1 J.out.2.2.2 rfl (by decide) (.slice A5 Y.1.length c5) Y.1.length _ rfl K6.out.2.2.2.2.1 A6 Z.1.length c6 _ rfl SRC.out (mC_one _) (by have := HZ.out; simp [maxLen]; omega) (by have := HZ.out; omega) (by have := Z34.out; omega) ?_); go_must (intro v7 w7 hown7 hg7 hl7; obtain ⟨A7, c7, rfl, pk7, pi7⟩ := POST.out v7 w7 hown7 hg7 hl7; have PK7 := Lib.hid pk7; have PI7 := Lib.hid pi7; clear hown7 hg7 hl7 pk7 pi7))
  clear POST SRC K6 Z34 K5 K4 K3 HA hkq hq2 hkl2 hk0 hkl
  have HE : Hid (X.2.e = 0 → X.2 = Z.2) := HAE
  go_loopw [15, 16, 17] (fun v g i wr => ∃ (k : Nat) (acc : List Msg) (N : FM), i = .int .i64 k ∧ k ≤ s.size ∧ g = .int .i64 N.e ∧ Hid (PI w7 pc s k wr v acc N)) (fun _ _ i _ => s.size - (intOf i).toNat)
  case atStart => exact ⟨0, [], M0, rfl, Nat.zero_le _, rfl, PI7⟩
  case round =>
    obtain ⟨k, acc, N, rfl, hk, rfl, P⟩ := hrel
    by_cases hlt : k < s.size
    · have hkb : (k : Int) < s.size := by omega
      have hkc : (0 : Int) ≤ k := by omega
      have hkd : (k : Int) + 1 ≤ s.size := by omega
      have HLT := Lib.hid hlt
      have HKS := Lib.hid hk
      clear hlt hk
      go_wp2_with fail
      refine (Feed_any P.out.rd (s.extract k (k + 1)) (show N.left.size + (s.extract k (k + 1)).size ≤ 200000 by rw [ByteArray.size_extract]; have := P.out.o.z; omega) (show 200000 ≤ 1000000 by omega)).mono ?_
      rintro e w8 ⟨v8, rfl, o8, r8, t8⟩
      obtain ⟨R, hR⟩ : ∃ R, R = feedF N (s.extract k (k + 1)) := ⟨_, rfl⟩
      rw [← hR] at o8 r8 ⊢
      obtain ⟨A8, c8, rfl⟩ := own_slice2 o8
      obtain ⟨A9, c9, rfl⟩ := own_slice2 P.out.own
      have OWN := Lib.hid (own_touch' P.out.own t8 (fun i hi => by have := (own_base P.out.own hi).1; have := P.out.plt; simp; omega))
      have SRC := Lib.hid (Src.own o8)
      have SZ : Hid (acc.length + R.1.length ≤ 100000 ∧ w7.heap.size ≤ w8.heap.size) := Lib.hid (by
        have a := feedF_len N (s.extract k (k + 1))
        rw [← hR, ByteArray.size_extract] at a
        have b := P.out.len HKS.out
        have c := P.out.o.z
        have d := P.out.t.size
        have e := t8.size
        omega)
      have NEXT : Hid (∀ v9 w9, w9.ownsRow w7.heap.size 23 2 v9 (acc.length + R.1.length) (acc.flatMap mC ++ R.1.flatMap mC) → w8.grownBy w9 (Value.slice A9 acc.length c9).ownBlock → PI w7 pc s (k + 1) w9 v9 (acc ++ R.1) R.2) := Lib.hid (by
        intro v9 w9 o9 g9
        rw [hR] at r8 o9 ⊢
        exact P.out.next HLT.out r8 t8 g9 o9 rfl rfl)
      clear o8 r8 t8 hR
      go_wp2_with (at_builtin; go_must (refine wpList_append_src _ rfl _ _ 30 rfl w7.heap.size 23 j0 _ 2 24 Try.underlying30 J.out.1 J.out.2.1 J.out.2.2.1 J.out.2.2.2 rfl (by decide) (.slice A9 acc.length c9) acc.length _ rfl OWN.out A8 R.1.length c8 _ rfl SRC.out (mC_one _) (by have := SZ.out; simp [maxLen]; omega) (by have := SZ.out; omega) SZ.out.2 ?_); go_must (intro v9 w9 hown9 hg9 hl9; have P9 := Lib.hid (NEXT.out v9 w9 hown9 hg9); clear hown9 hg9 hl9))
      go_roundw
      case rel => exact ⟨k + 1, acc ++ R.1, R.2, by go_num, HLT.out, rfl, P9⟩
      case measure => have := HLT.out; simp [intOf]; omega
    · have hks : k = s.size := by omega
      have HO : Hid (acc = X.1 ∧ N.e = X.2.e ∧ (X.2.e = 0 → N = X.2)) := Lib.hid (by
        have a := P.out.o.a
        have b := P.out.o.e
        have c := P.out.o.n
        rw [hks, extract_all, ← HF.out.1] at a b c
        exact ⟨a, b, fun h => c (b.trans h)⟩)
      have PKr := Lib.hid (PK7.out.loop PI7.out.rd P.out.t)
      have RN := Lib.hid P.out.rd
      obtain ⟨A9, c9, rfl⟩ := own_slice2 P.out.own
      have R9 := Lib.hid (RowG.of_own (enc := mC) (k := 2) (fun _ => rfl) (by decide) P.out.own)
      rw [HO.out.2.1]
      rw [HO.out.1] at R9 ⊢
      clear hks hk
      have hlen : X.1.length ≤ 9000000 := by have := HZ.out; omega
      have same : ∀ (W : World) (A B : Option Addr) (c d : Nat), RowG mC 2 W A X.1.length X.1 → RowG mC 2 W B X.1.length X.1 → Calls Try.prog 15 #[.slice A X.1.length c, .slice B X.1.length d] W fun e w' => e = .returned (.bool true) ∧ Touch [] W w' := fun W A B c d ha hb =>
        (Same_any ha hb ⟨hlen, hlen⟩).mono fun _ _ ⟨he, ht⟩ => ⟨by rw [he]; simp, ht⟩
      have SAME := Lib.hid same
      clear same hlen
      have HLT := Lib.hid hlt
      by_cases he0 : X.2.e = 0
      focus
        have hne : ((X.2.e : Int) != 0) = false := by simp; exact he0
        have hne2 : ((X.2.e : Int) == 0) = true := by simp; exact he0
        have ez := HE.out he0
        have en := HO.out.2.2 he0
        have EN := Lib.hid (And.intro ez en)
        clear he0 ez en
        go_wp2_with fail
      rotate_left 1
      focus
        have hne : ((X.2.e : Int) != 0) = true := by simp; exact he0
        have hne2 : ((X.2.e : Int) == 0) = false := by simp; exact he0
        clear he0
        go_wp2_with fail
      all_goals
        refine (SAME.out _ _ _ _ _ PKr.out.r1 PKr.out.r2).mono ?_
        rintro e wA ⟨rfl, tA⟩
        have PKa := Lib.hid (PKr.out.tw tA)
        have RA := Lib.hid (R9.out.kept0 tA)
        have RNa := Lib.hid (RN.out.kept0 tA)
        clear tA
        go_wp2_with fail
        refine (SAME.out _ _ _ _ _ PKa.out.r1 RA.out).mono ?_
        rintro e wB ⟨rfl, tB⟩
        have PKb := Lib.hid (PKa.out.tw tB)
        have RNb := Lib.hid (RNa.out.kept0 tB)
        clear tB
        go_wp2_with fail
      rotate_left 1
      focus
        refine (Rest_any PKb.out.a).mono ?_
        rintro e wC ⟨rfl, rfl⟩
        go_wp2_with fail
        refine (Rest_any PKb.out.b).mono ?_
        rintro e wC ⟨rfl, rfl⟩
        rw [← EN.out.1]
        go_wp2_with fail
        refine (Rest_any PKb.out.a).mono ?_
        rintro e wC ⟨rfl, rfl⟩
        go_wp2_with fail
        refine (Rest_any RNb.out).mono ?_
        rintro e wC ⟨rfl, rfl⟩
        rw [EN.out.2]
        go_wp2_with fail
      all_goals
        refine (known_any _).mono ?_
        rintro e wD ⟨rfl, bD⟩
        have BD := Lib.hid (PKb.out.bel.trans (bD.mono PKb.out.bel.size))
        clear bD
        go_wp2_with fail
        go_ret
        refine ⟨rfl, ?_⟩
        have := BD.out
        rwa [HPA.out] at this
end Go.Proofs.Ytkaehhldloclhaa
