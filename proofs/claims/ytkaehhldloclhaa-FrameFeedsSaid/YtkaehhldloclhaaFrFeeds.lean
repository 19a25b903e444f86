/- FrameFeeds: whatever bytes are fed, in whatever pieces: what is told is as the document says; a copy goes its own way. -/
import Derived.Test.YtkaehhldloclhaaFrT
import Derived.Test.YtkaehhldloclhaaFrArg
import Derived.Test.YtkaehhldloclhaaQu
namespace Go.Proofs.Ytkaehhldloclhaa
open Go Go.RowKit

theorem RdE.keptX {w w' : World} {p q : Nat} {L : Nat × Nat} {M : FM} {cs : Array Value} {t : TypeId} {fr : Nat × Nat} (h : RdE w p M L) (hq : w.heap[q]? = some (.cells cs t fr)) (hno : ∀ (i : Nat) (x : Int), cs[i]? ≠ some (Value.int .u8 x)) (ht : Touch [q] w w') (hpq : p ≠ q) : RdE w' p M L := by
  obtain ⟨A, n, cp, h⟩ := h
  refine ⟨A, n, cp, h.kept ht (by simpa using hpq) ?_⟩
  by_cases h0 : n = 0
  · exact .inl h0
  · refine .inr fun a ha hm => ?_
    obtain ⟨g, o, x, hA, _, _, _, _, hc⟩ := h.row.at (j := 0) (by omega)
    rw [hA] at ha
    cases ha
    have hc0 := hc 0 _ rfl
    simp only [List.mem_singleton] at hm
    subst hm
    rw [cell_of hq] at hc0
    exact hno _ _ hc0
theorem no_u8_RR (M : FM) : ∀ (i : Nat) (x : Int), (#[.string M.left, .bool M.first, .int .i64 M.e] : Array Value)[i]? ≠ some (Value.int .u8 x) := by
  intro i x
  match i with
  | 0 => simp
  | 1 => simp
  | 2 => simp
  | i + 3 => simp
theorem no_u8_Rd (v : Value) (b : Bool) (e : Int) (hv : ∀ x : Int, v ≠ Value.int .u8 x) : ∀ (i : Nat) (x : Int), (#[v, .bool b, .int .i64 e, .bool true] : Array Value)[i]? ≠ some (Value.int .u8 x) := by
  intro i x
  match i with
  | 0 => simpa using hv x
  | 1 => simp
  | 2 => simp
  | 3 => simp
  | i + 4 => simp
structure FI (w : World) (g p : Nat) (M : FM) (k : Nat) (wr : World) : Prop where
  rd : RdE wr p M (200000, wr.heap.size)
  rr : RR wr g M
  b : Below w.heap.size w wr
  pw : w.heap.size ≤ p
  gw : w.heap.size ≤ g
  ne : p ≠ g
  sz : M.left.size ≤ 5000 * k
theorem FI.copied {w wr w1 w2 : World} {g p c k : Nat} {M M' : FM} (h : FI w g p M k wr) (hc : c = wr.heap.size) (r1 : RdE w1 c M (200000, wr.heap.size)) (t1 : Touch [] wr w1) (t2 : Touch [p] w1 w2) (r0 : RdE w1 p M' (200000, wr.heap.size)) : FI w g c M k w2 := by
  have hg := h.rr.lt
  have hp := h.rd.lt
  obtain ⟨A, n, cp, rb⟩ := r0
  have r2 := r1.keptX rb.blk (no_u8_Rd _ _ _ (by simp)) t2 (by omega)
  have t12 : Touch [p] wr w2 := (t1.mono (by simp)).trans t2 (fun i hi => .inl hi)
  exact ⟨r2.wide (by have := h.sz; have := h.rd; obtain ⟨_, _, _, q⟩ := this; exact q.sz) t12.size, h.rr.kept t12 (by simpa using h.ne.symm), h.b.trans (t12.below h.b.size (fun i hi => by simp at hi; have := h.pw; omega)), by have := h.b.size; omega, h.gw, by omega, h.sz⟩
theorem runF_size (l : ByteArray) (f : Bool) : (runF l f).2.left.size ≤ l.size := (runF_left _ l f (Nat.lt_succ_self _)).1
theorem feedF_size (M : FM) (s : ByteArray) : (feedF M s).2.left.size ≤ M.left.size + s.size := by
  unfold feedF
  split
  · have := runF_size (M.left ++ s) M.first
    rwa [ByteArray.size_append] at this
  · show M.left.size ≤ _; omega
theorem FI.fed {w wr w1 w2 : World} {g p k : Nat} {M : FM} {s : ByteArray} (h : FI w g p M k wr) (hs : s.size ≤ 5000) (r1 : RdE w1 p (feedF M s).2 (200000, w1.heap.size)) (t1 : Touch [p] wr w1) (r2 : RR w2 g (feedF M s).2) (t2 : Touch [g] w1 w2) : FI w g p (feedF M s).2 (k + 1) w2 := by
  have rr1 := h.rr.kept t1 (by simpa using h.ne.symm)
  have r3 := r1.keptX rr1 (no_u8_RR M) t2 h.ne
  have b1 := h.b.trans (t1.below h.b.size (fun i hi => by simp at hi; have := h.pw; omega))
  exact ⟨r3.wide (by obtain ⟨_, _, _, q⟩ := r3; exact q.sz) t2.size, r2, b1.trans (t2.below b1.size (fun i hi => by simp at hi; have := h.gw; omega)), h.pw, h.gw, h.ne, by have := feedF_size M s; have := h.sz; omega⟩
theorem FI.tw {w wr w2 : World} {g p k : Nat} {M : FM} (h : FI w g p M k wr) (t : Touch [] wr w2) : FI w g p M k w2 :=
  ⟨(h.rd.kept0 t).wide (by obtain ⟨_, _, _, q⟩ := h.rd; exact q.sz) t.size, h.rr.kept t (by simp), h.b.trans (t.below h.b.size (by simp)), h.pw, h.gw, h.ne, h.sz⟩
set_option maxRecDepth 100000 in
set_option maxHeartbeats 4000000 in
theorem FrameFeeds_walk (first : Bool) (A : Option Addr) (n cp : Nat) (l : List ByteArray) (cut : UInt8) (w : World) (hrow : RowG strC 1 w A n l) (hn : n ≤ maxLen) :
    Calls Try.prog 6 #[.bool first, .slice A n cp, .int .u8 cut.toNat] w fun e w' => e = .returned (.bool true) ∧ Below w.heap.size w w' := by
  unfold maxLen at hn
  by_cases h30 : 30 < n
  · have h1 : (30 : Int) < n := by omega
    clear hrow
    go_enter Try.func6, Try.ntmps6
    go_wp2_with (go_at_call 12; refine (known_any _).mono ?_; rintro e w1 ⟨rfl, b1⟩)
    go_ret
    exact ⟨rfl, b1⟩
  have h1 : ¬ (30 : Int) < n := by omega
  have HR := Lib.hid hrow
  have hc := cut.toNat_lt
  generalize cut.toNat = q at hc
  clear hrow
  go_enter Try.func6, Try.ntmps6
  go_wp2_with fail
  refine (New_any first w).mono ?_
  rintro e w1 ⟨rfl, r1, t1⟩
  have F0 : Hid (FI w w1.heap.size w.heap.size ⟨ByteArray.empty, first, 0⟩ 0 (w1.alloc (.cells #[.string ⟨#[]⟩, .bool first, .int .i64 0] 42))) := Lib.hid (by
    have hp := r1.lt
    have ta : Touch [] w1 (w1.alloc (.cells #[.string ⟨#[]⟩, .bool first, .int .i64 0] 42)) := (Touch.refl _ _).alloc _
    have tb := t1.trans ta (by simp)
    exact ⟨(r1.kept0 ta).wide (by simp) (by simp), heap_alloc_new w1 _, tb.below (Nat.le_refl _) (by simp), Nat.le_refl _, t1.size, by omega, by simp⟩)
  clear r1 t1
  go_wp2_with fail
  generalize (w1.alloc (.cells #[.string ⟨#[]⟩, .bool first, .int .i64 0] 42)) = W1 at *
  generalize w1.heap.size = g at *
  obtain ⟨p0, hp0⟩ : ∃ p0, w.heap.size = p0 := ⟨_, rfl⟩
  have HP0 : Hid (FI w g p0 ⟨ByteArray.empty, first, 0⟩ 0 W1) := Lib.hid (by rw [← hp0]; exact F0.out)
  rw [hp0]
  clear F0 hp0
  go_loopw [7, 9] (fun a i wr => ∃ (k p : Nat) (M : FM), a = .pointer (some ⟨p, 0, none⟩) ∧ i = .int .i64 k ∧ k ≤ n ∧ Hid (FI w g p M k wr)) (fun _ i _ => n - (intOf i).toNat)
  case atStart => exact ⟨0, p0, _, rfl, rfl, Nat.zero_le _, HP0⟩
  case round =>
    obtain ⟨k, p, M, rfl, rfl, hk, F⟩ := hrel
    by_cases hlt : k < n
    · obtain ⟨gA, oA, s, hA, _, hs, _, _, hcell⟩ := (HR.out.below F.out.b).at hlt
      subst hA
      have c0 := hcell 0 _ rfl
      rw [Nat.add_zero, Nat.mul_one] at c0
      have hbl : (0 : Int) ≤ k := by omega
      have hlt' : (k : Int) < n := by omega
      by_cases h5 : 5000 < s.size
      · have h5' : (5000 : Int) < s.size := by omega
        clear hcell
        go_wp2_with (go_at_call 12; refine (known_any _).mono ?_; rintro e w2 ⟨rfl, b2⟩)
        go_ret
        exact ⟨rfl, F.out.b.trans (b2.mono F.out.b.size)⟩
      · have h5' : ¬ (5000 : Int) < s.size := by omega
        clear hcell
        have hs5 : s.size ≤ 5000 := by omega
        have HS5 := Lib.hid hs5
        have HLT := Lib.hid hlt
        have HSx := Lib.hid hs
        clear hs5 hlt hs
        have kind : ∀ w3, Below w.heap.size w w3 → w3.cell? ⟨gA, oA + k, none⟩ = some (.string s) := fun w3 b3 => by
          obtain ⟨gA', oA', s', hA', _, hs', _, _, hcell'⟩ := (HR.out.below b3).at HLT.out
          cases hA'
          have e : s' = s := by have := hs'.symm.trans HSx.out; simpa using this
          subst e
          have := hcell' 0 _ rfl
          rwa [Nat.add_zero, Nat.mul_one] at this
        have KIND := Lib.hid kind
        clear kind
        have hL : Hid (5000 * k + 5000 ≤ 200000) := Lib.hid (by omega)
        by_cases hq : (k : Int) = (q : Int) % 8
        focus
          have hq' : ((k : Int) == (q : Int) % 8) = true := by simpa using hq
          clear hq
          go_wp2_with fail
          refine (Copy_any F.out.rd).mono ?_
          rintro e w2 ⟨rfl, r2, t2⟩
          go_wp2_with fail
          refine (Feed_any (L := (200000, wr.heap.size)) ((F.out.rd.kept0 t2)) ⟨#[115, 112, 111, 105, 108, 116]⟩ (show M.left.size + 6 ≤ 200000 by have := F.out.sz; have := hL.out; omega) (show 200000 ≤ 1000000 by omega)).mono ?_
          rintro e w3 ⟨v3, rfl, o3, r3, t3⟩
          have F2 : Hid (FI w g wr.heap.size M k w3) := Lib.hid (F.out.copied rfl r2 t2 t3 (F.out.rd.kept0 t2))
          clear r2 t2 o3 r3 t3 F hq' c0
          generalize wr.heap.size = p2 at *
          obtain ⟨w4, rfl⟩ : ∃ w4 : World, w4 = w3 := ⟨_, rfl⟩
          have c0 := KIND.out w4 F2.out.b
          go_wp2_with fail
        rotate_left 1
        focus
          have hq' : ((k : Int) == (q : Int) % 8) = false := by simpa using hq
          clear hq
          have F2 := F
          clear F
          obtain ⟨w4, rfl⟩ : ∃ w4 : World, w4 = wr := ⟨_, rfl⟩
          obtain ⟨p2, rfl⟩ : ∃ p2 : Nat, p2 = p := ⟨_, rfl⟩
          go_wp2_with fail
        all_goals
          refine (Feed_any F2.out.rd s (show M.left.size + s.size ≤ 200000 by have := F2.out.sz; have := hL.out; have := HS5.out; omega) (show 200000 ≤ 1000000 by omega)).mono ?_
          rintro e w5 ⟨v5, rfl, o5, r5, t5⟩
          have hne := F2.out.ne
          have rr5 := F2.out.rr.kept t5 (by simpa using hne.symm)
          have b5 := F2.out.b.trans (t5.below F2.out.b.size (fun i hi => by simp at hi; have := F2.out.pw; omega))
          have c1 := KIND.out w5 b5
          have RR5 := Lib.hid rr5
          have B5 := Lib.hid b5
          have S5 := Lib.hid (And.intro o5 (And.intro r5 t5))
          clear rr5 b5 o5 r5 t5 hne c0
          go_wp2_with fail
          refine (rFeed_any RR5.out s (show M.left.size + s.size ≤ 1000000 by have := F2.out.sz; have := hL.out; have := HS5.out; omega)).mono ?_
          rintro e w6 ⟨v6, rfl, o6, r6, t6⟩
          clear c1
          have F3 : Hid (FI w g p2 (feedF M s).2 (k + 1) w6) := Lib.hid (F2.out.fed HS5.out S5.out.2.1 S5.out.2.2 r6 t6)
          obtain ⟨A5, c5, rfl⟩ := own_slice2 S5.out.1
          obtain ⟨A6, c6, rfl⟩ := own_slice2 o6
          have hlen : (feedF M s).1.length ≤ 1000000 := by
            unfold feedF
            split
            · have := (runF_left _ (M.left ++ s) M.first (Nat.lt_succ_self _)).2.1
              rw [ByteArray.size_append] at this
              have := F2.out.sz; have := hL.out; have := HS5.out
              omega
            · simp
          have R5 := (RowG.of_own (enc := mC) (k := 2) (fun _ => rfl) (by decide) S5.out.1).kept t6 (fun a ha => by have := own_addr S5.out.1 ha; have := F2.out.rr.lt; simp; omega)
          have R6 := RowG.of_own (enc := mC) (k := 2) (fun _ => rfl) (by decide) o6
          generalize feedF M s = X at *
          have SAME : Hid (∀ x : TW w6, Calls Try.prog 15 #[.slice A5 X.1.length c5, .slice A6 X.1.length c6] x.w fun e w' => e = .returned (.bool true) ∧ Touch [] x.w w') := Lib.hid fun x => (Same_any (R5.kept0 x.t) (R6.kept0 x.t) ⟨by omega, by omega⟩).mono fun _ _ ⟨he, ht⟩ => ⟨by rw [he]; simp, ht⟩
          have REST : Hid (∀ x : TW w6, Calls Try.prog 17 #[.pointer (some ⟨p2, 0, none⟩)] x.w fun e w' => e = .returned (.string X.2.left) ∧ x.w = w') := Lib.hid fun x => Rest_any (F3.out.rd.kept0 x.t)
          have BAD : Hid (∀ x : TW w6, Calls Try.prog 16 #[.pointer (some ⟨p2, 0, none⟩)] x.w fun e w' => e = .returned (.int .i64 X.2.e) ∧ x.w = w') := Lib.hid fun x => Bad_any (F3.out.rd.kept0 x.t)
          have d0 := TW.cell F3.out.rr.cells.1
          have d2 := TW.cell F3.out.rr.cells.2.2.1
          clear S5 R5 R6 o6 r6 t6 hlen RR5 B5 F2
          go_upto_region 20 with fail
          refine wp_region_tw (by kernel_rfl) (by kernel_rfl) ?_
          repeat (go_big_quiet_step ((first | (go_at_call 15; exact TW.call (SAME.out _)) | (go_at_call 17; exact TW.call_same (REST.out _)) | (go_at_call 16; exact TW.call_same (BAD.out _)))))
          refine wpQuiet_nil ?_
          rintro _ ⟨x, rfl⟩
          have F4 := Lib.hid (F3.out.tw x.t)
          clear d0 d2 SAME REST BAD F3
          go_wp2_with fail
          go_roundw
          case rel => exact ⟨k + 1, p2, X.2, rfl, by go_num, HLT.out, F4⟩
          case measure => have := HLT.out; simp [intOf]; omega
    · have hkn : ¬ (k : Int) < n := by omega
      go_wp2_with (go_at_call 12; refine (known_any _).mono ?_; rintro e w2 ⟨rfl, b2⟩)
      go_ret
      exact ⟨rfl, F.out.b.trans (b2.mono F.out.b.size)⟩
end Go.Proofs.Ytkaehhldloclhaa
