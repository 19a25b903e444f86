/- vers: Take. -/
import Derived.Test.YtjmgookpmngmaacVe5
import Derived.Test.YtjmgookpmngmaacApp
import Derived.Deep.Onto
namespace Go.Proofs.Ytjmgookpmngmaac
open Go Go.RowKit Go.Maps

def strsV (l : List ByteArray) : List Value := l.map strV
def numsV (l : List Int) : List Value := l.map intV
theorem NamesI.src {w : World} {A : Option Addr} {N : Nat} {l : List ByteArray} (h : NamesI w A N l) : Src w A N 1 (strsV l) := by
  obtain ⟨h1, h2⟩ := h
  rcases h2 with h0 | ⟨g, o, rfl, _, h2⟩
  · subst h0
    have hl := List.eq_nil_of_length_eq_zero h1.symm
    subst hl
    cases A with
    | none => exact .inl ⟨rfl, rfl, rfl⟩
    | some a => exact .inr ⟨a, rfl, rfl, fun j u hu => by simp [strsV] at hu⟩
  · refine .inr ⟨_, rfl, by simp [strsV, h1], fun j u hu => ?_⟩
    have hadd : (⟨g, o, none⟩ : Addr).add j = ⟨g, o + j, none⟩ := by unfold Addr.add; split <;> simp_all
    simp only [strsV, List.getElem?_map, Option.map_eq_some_iff] at hu
    obtain ⟨s, hs, rfl⟩ := hu
    have hj := (List.getElem?_eq_some_iff.1 hs).1
    rw [hadd, h2 j (by omega), List.getD_eq_getElem?_getD, hs]
    rfl
theorem NamesI.of_own {w : World} {base N cp : Nat} {A : Option Addr} {l : List ByteArray} (h : w.ownsRow base 9 1 (.slice A N cp) N (strsV l)) : NamesI w A N l := by
  have hl : N = l.length := by have := h.1; simp [strsV] at this; omega
  refine ⟨hl, ?_⟩
  have hc := fun g => h.cells (g := g)
  rcases h.2 with ⟨h0, h1⟩ | ⟨g, cap, cur, hv, _, hh, _⟩
  · cases h0; exact .inl h1
  · cases hv
    refine .inr ⟨g, 0, rfl, heap_lt hh, fun j hj => ?_⟩
    have hadd : (⟨g, 0, none⟩ : Addr).add j = ⟨g, 0 + j, none⟩ := by unfold Addr.add; split <;> simp_all
    have := hc g rfl j (strV (l.getD j ⟨#[]⟩)) (by simp only [strsV, List.getElem?_map]; rw [List.getD_eq_getElem?_getD, List.getElem?_eq_getElem (by omega)]; rfl)
    rw [hadd] at this
    exact this
theorem infoI : (Try.prog.info? 3).map (fun i => (i.zero, i.size, i.bytes)) = some (some (.int .i64 0), 1, 8) := by kernel_rfl

/-- While a stamp is taken. -/
structure TakeK (w wr : World) (g5 : Nat) (ep : Int) (rs : List (ByteArray × Tab)) (A1 : Option Addr) (N c1 : Nat) (l : List ByteArray) (k : Nat) (v2 : Value) : Prop where
  cells : wr.heap[g5]? = some (.cells #[.int .i64 ep, .slice A1 N c1, v2] 33 (0, 0))
  g5n : w.heap.size ≤ g5
  own1 : wr.ownsRow w.heap.size 9 1 (.slice A1 N c1) N (strsV l)
  own2 : wr.ownsRow w.heap.size 3 1 v2 k (numsV ((l.take k).map (numOf rs)))
  apart : ∀ i, v2.ownBlock = some i → i ≠ g5 ∧ (Value.slice A1 N c1).ownBlock ≠ some i
  apart1 : (Value.slice A1 N c1).ownBlock ≠ some g5
  touch : Touch [] w wr

theorem TakeK.next {w wr w5 : World} {g5 : Nat} {ep : Int} {rs : List (ByteArray × Tab)} {A1 : Option Addr} {N c1 : Nat} {l : List ByteArray} {k : Nat} {v2 v5 : Value} {s : ByteArray} {x : Int} (h : TakeK w wr g5 ep rs A1 N c1 l k v2) (hs : l.take (k + 1) = l.take k ++ [s]) (hx : numOf rs s = x)
    (hown : w5.ownsRow w.heap.size 3 1 v5 (k + 1) (numsV ((l.take k).map (numOf rs)) ++ [.int .i64 x])) (hg : (wr.alloc (.cells #[.int .i64 x] 3)).grownBy w5 v2.ownBlock) (hloc : v5.ownBlock = v2.ownBlock ∨ v5.ownBlock = some (wr.heap.size + 1)) (n : Nat) :
    TakeK w ((w5.setCell ⟨g5, 2, none⟩ v5).drewN n) g5 ep rs A1 N c1 l (k + 1) v5 := by
  have hg5 := heap_lt h.cells
  have ta : Touch [] wr (wr.alloc (.cells #[.int .i64 x] 3)) := (Touch.refl _ _).alloc _
  have tg : Touch v2.ownBlock.toList wr w5 := (ta.mono (by simp)).grownBy hg (fun i hi => .inl (by simp [hi]))
  have hv2 : ∀ i ∈ v2.ownBlock.toList, w.heap.size ≤ i := fun i hi => (h.own2.lt i (by simpa using hi)).1
  have tS : Touch [g5] w5 ((w5.setCell ⟨g5, 2, none⟩ v5).drewN n) := ((Touch.refl [g5] w5).setCell _ (by simp)).drewN n
  have h1lt := fun i hi => (h.own1.lt i hi).2
  have hwr := h.touch.size
  have T1 : Touch [] w w5 := (h.touch.trans (S := []) (S' := v2.ownBlock.toList) tg (fun i hi => .inr (hv2 i hi)))
  have T2 : Touch [] w ((w5.setCell ⟨g5, 2, none⟩ v5).drewN n) := T1.trans tS (fun i hi => by simp at hi; exact .inr (hi ▸ h.g5n))
  have hv5 : ∀ i, v5.ownBlock = some i → i ≠ g5 ∧ (Value.slice A1 N c1).ownBlock ≠ some i := fun i hi => by
    rcases hloc with q | q
    · exact h.apart i (by rw [← q, hi])
    · rw [hi] at q
      cases q
      exact ⟨by omega, fun e => by have := h1lt _ e; omega⟩
  refine ⟨?_, h.g5n, own_touch' (own_touch' h.own1 tg (fun i hi => ?_)) tS (fun i hi => ?_), ?_, hv5, h.apart1, T2⟩
  · have := block_set ((tg.block g5 hg5 (by simpa using fun e => (h.apart g5 e).1 rfl)).trans h.cells) (i := 2) v5
    simpa using this
  · simpa using fun e => (h.apart i e).2 hi
  · simp; exact fun e => h.apart1 (e ▸ hi)
  · rw [hs, List.map_append]
    have : w5.ownsRow w.heap.size 3 1 v5 (k + 1) (numsV ((l.take k).map (numOf rs) ++ [s].map (numOf rs))) := by simpa [numsV, intV, hx] using hown
    exact own_touch' this tS (fun i hi => by simpa using (hv5 i hi).1)

set_option maxHeartbeats 1600000 in
theorem Take_any {w : World} {pv bm : Nat} {ep : Int} {rs : List (ByteArray × Tab)} (h : VerC w pv bm ep rs) {A : Option Addr} {N cp : Nat} {l : List ByteArray} (hN : NamesI w A N l) (hg : ∀ s ∈ l, goodS s) (hn : N < 1000000) :
    Calls Try.prog 13 #[.pointer (some ⟨pv, 0, none⟩), .slice A N cp] w fun e w' => ∃ A1 c1 A2 c2, e = .returned (.agg #[.int .i64 ep, .slice A1 N c1, .slice A2 N c2]) ∧ w'.ownsRow w.heap.size 9 1 (.slice A1 N c1) N (strsV l) ∧
      w'.ownsRow w.heap.size 3 1 (.slice A2 N c2) N (numsV (l.map (numOf rs))) ∧ (∀ i, (Value.slice A2 N c2).ownBlock = some i → (Value.slice A1 N c1).ownBlock ≠ some i) ∧ Touch [] w w' := by
  have t0 : Touch [] w (w.alloc (.cells #[.int .i64 0, .slice none 0 0, .slice none 0 0] 33)) := (Touch.refl _ _).alloc _
  have h0 := h.kept0 t0
  have hN0 := hN.kept0 t0
  have HN := Lib.hid hN
  have HG := Lib.hid hg
  have c0 := h0.c0
  have hz0 : (w.alloc (.cells #[.int .i64 0, .slice none 0 0, .slice none 0 0] 33)).heap.size = w.heap.size + 1 := by simp
  have Hz0 := Lib.hid hz0
  have hb4 : (w.alloc (.cells #[.int .i64 0, .slice none 0 0, .slice none 0 0] 33)).heap[w.heap.size]? = some (.cells #[.int .i64 0, .slice none 0 0, .slice none 0 0] 33 (0, 0)) := heap_alloc_new w _
  obtain ⟨i0, hi0, hz00, hz1, hz2⟩ := info_parts infoS
  have H := Lib.hid h
  clear hg hN hz0 h
  go_enter Try.func13, Try.ntmps13
  go_wp2_with fail
  generalize w.alloc (.cells #[.int .i64 0, .slice none 0 0, .slice none 0 0] 33) = w0 at *
  generalize hg4 : w.heap.size = g4 at *
  refine (there_any h0).mono ?_
  rintro e w1 ⟨rfl, rfl⟩
  go_wp2_with fail
  refine (loadAt c0).mono ?_
  rintro e w1 ⟨rfl, rfl⟩
  go_wp2_with (at_builtin; go_must (refine wpList_append_src _ rfl _ _ 23 rfl w0.heap.size 9 i0 (.string ⟨#[]⟩) 1 16 Try.underlying23 hi0 hz00 hz1 hz2 rfl (by decide) (.slice none 0 0) 0 [] rfl (World.ownsRow_nil _ _ _ _) A N cp (strsV l) rfl hN0.src (by simp [strsV, strV, Value.oneCell']) (by simp [maxLen]; omega) (by omega) (Nat.le_refl _) ?_); intro v1 w2 hown1 hg1 hloc1; simp only [Nat.zero_add, List.nil_append] at hown1; obtain ⟨A1, c1, rfl⟩ := own_slice2 hown1)
  subst hg4
  have K0 : TakeK w0 (w2.alloc (.cells #[.int .i64 ep, .slice A1 N c1, .slice none 0 0] 33)) w2.heap.size ep rs A1 N c1 l 0 (.slice none 0 0) := by
    have tg : Touch [] w0 w2 := (Touch.refl _ _).grownBy hg1 (fun i hi => by simp [Value.ownBlock] at hi)
    have ta : Touch [] w2 (w2.alloc (.cells #[.int .i64 ep, .slice A1 N c1, .slice none 0 0] 33)) := (Touch.refl _ _).alloc _
    exact ⟨heap_alloc_new w2 _, tg.size, own_touch' hown1 ta (by simp), World.ownsRow_nil _ _ _ _, by simp [Value.ownBlock], fun e => by have := (hown1.lt _ e).2; omega, tg.trans ta (by simp)⟩
  clear hown1 hg1 hloc1
  generalize w2.alloc (.cells #[.int .i64 ep, .slice A1 N c1, .slice none 0 0] 33) = w3 at *
  generalize w2.heap.size = g5 at *
  obtain ⟨j0, hj0, hjz, hj1, hj2⟩ := info_parts infoI
  go_loopw [21] (fun i wr => ∃ (k : Nat) (v2 : Value), k ≤ N ∧ i = .int .i64 k ∧ Hid (TakeK w0 wr g5 ep rs A1 N c1 l k v2)) (fun i _ => N - (intOf i).toNat)
  case atStart => exact ⟨0, _, Nat.zero_le _, rfl, Lib.hid K0⟩
  case round =>
    obtain ⟨k, v2, hk, rfl, hK⟩ := hrel
    by_cases hlt : k < N
    · obtain ⟨g, o, rfl, hadd, d0, hs, hmem⟩ := HN.out.cell (t0.trans hK.out.touch (by simp)) (by simp) hlt
      have hgs : goodS (l.getD k ⟨#[]⟩) := HG.out _ hmem
      generalize l.getD k ⟨#[]⟩ = s at *
      have Hs := Lib.hid hs
      clear hs hmem
      have e2 : wr.cell? ⟨g5, 2, none⟩ = some v2 := by rw [cell_of hK.out.cells]; rfl
      have hv := h0.kept0 hK.out.touch
      have hx : Hid (numOf rs s = numOf rs s) := Lib.hid rfl
      have hown2 := Lib.hid (hK.out.own2.alloc (.cells #[.int .i64 (numOf rs s)] 3))
      have hsrc : Hid (Src (wr.alloc (.cells #[.int .i64 (numOf rs s)] 3)) (some ⟨wr.heap.size, 0, none⟩) 1 1 [.int .i64 (numOf rs s)]) := Lib.hid (.inr ⟨_, rfl, rfl, cell_one_new wr _ _⟩)
      have hwr := hK.out.touch.size
      have hg5 := heap_lt hK.out.cells
      go_wp2_with fail
      have e2d : wr.drew.cell? ⟨g5, 2, none⟩ = some v2 := e2
      go_region_law (first
          | (refine step_append_src rfl _ _ 31 rfl w0.heap.size 3 j0 (.int .i64 0) 1 8 Try.underlying31 hj0 hjz hj1 hj2 rfl (by decide) v2 k _ rfl hown2.out (some ⟨wr.heap.size, 0, none⟩) 1 1 [.int .i64 (numOf rs s)] rfl hsrc.out (by simp [Value.oneCell']) (by simp [maxLen]; omega) (by omega) (by simp; omega) ?_; intro v5 w5 hown5 hg5' hloc5; obtain ⟨A5, c5, rfl⟩ := own_slice2 hown5; (have hgr : (wr.alloc (.cells #[.int .i64 (numOf rs s)] 3)).grownBy w5 v2.ownBlock := ⟨hg5'.os, hg5'.tape, hg5'.output, hg5'.size, hg5'.block⟩); (have b5 := (hgr.block g5 (by simp; omega) (fun e => (hK.out.apart g5 e.symm).1 rfl)).trans ((RowKit.Below.heap_alloc _ _ _ hg5).trans hK.out.cells)); (have d5 : w5.cell? ⟨g5, 2, none⟩ = some v2 := (by rw [cell_of b5]; rfl)); have f5 := frozen_of b5 2)
          | (go_simp; go_at_call 19; refine (Num_any (hv.kept0 ((Touch.refl [] wr).drew)) s hgs).mono ?_; rintro e w4 ⟨rfl, rfl⟩))
      all_goals
        have K5 := hK.out.next Hs.out rfl hown5 hgr (by simpa using hloc5)
        clear hgr hg5' hown5 hloc5 d5 f5 b5
        go_wp2_with fail
        go_roundw
        case rel => exact ⟨k + 1, _, by omega, by go_num, Lib.hid (K5 0)⟩
        case measure => simp [intOf]; omega
    · have hkN : k = N := by omega
      subst hkN
      have hl' : l.take k = l := by rw [HN.out.1]; exact List.take_length
      obtain ⟨A2, c2, rfl⟩ := own_slice2 hK.out.own2
      have K := hK.out
      have o2 := K.own2
      rw [hl'] at o2
      have e0 : wr.cell? ⟨g5, 0, none⟩ = some (.int .i64 ep) := by rw [cell_of K.cells]; rfl
      have e1 : wr.cell? ⟨g5, 1, none⟩ = some (.slice A1 k c1) := by rw [cell_of K.cells]; rfl
      have e2 : wr.cell? ⟨g5, 2, none⟩ = some (.slice A2 k c2) := by rw [cell_of K.cells]; rfl
      have hwr := K.touch.size
      have hz0 := Hz0.out
      have b4 : wr.heap[w.heap.size]? = some (.cells #[.int .i64 0, .slice none 0 0, .slice none 0 0] 33 (0, 0)) := (K.touch.block _ (by omega) (by simp)).trans hb4
      have p0 : wr.cell? ⟨w.heap.size, 0, none⟩ = some (.int .i64 0) := by rw [cell_of b4]; rfl
      have p1 : wr.cell? ⟨w.heap.size, 1, none⟩ = some (.slice none 0 0) := by rw [cell_of b4]; rfl
      have p2 : wr.cell? ⟨w.heap.size, 2, none⟩ = some (.slice none 0 0) := by rw [cell_of b4]; rfl
      have f0 := frozen_of b4 0
      have f1 := frozen_of b4 1
      have f2 := frozen_of b4 2
      have hap := K.apart
      have tw := t0.trans K.touch (by simp)
      have o1' := K.own1
      have hne : ∀ i, (Value.slice A1 k c1).ownBlock = some i ∨ (Value.slice A2 k c2).ownBlock = some i → i ≠ w.heap.size := fun i hi => by
        rcases hi with q | q
        · have := (K.own1.lt i q).1; omega
        · have := (K.own2.lt i q).1; omega
      have Hfin := Lib.hid (And.intro o1' (And.intro o2 (And.intro hap (And.intro tw hne))))
      clear K hK o1' o2 hap tw hne b4
      go_wp2_with fail
      have tS : Touch [w.heap.size] wr (((wr.setCell ⟨w.heap.size, 0, none⟩ (.int .i64 ep)).setCell ⟨w.heap.size, 1, none⟩ (.slice A1 k c1)).setCell ⟨w.heap.size, 2, none⟩ (.slice A2 k c2)) := (((Touch.refl _ _).setCell _ (by simp)).setCell _ (by simp)).setCell _ (by simp)
      refine bodyPost_ret (v := .agg #[.int .i64 ep, .slice A1 k c1, .slice A2 k c2]) (by simp [results, Try.results13, go_sem, p0, p1, p2]) rfl ⟨A1, c1, A2, c2, rfl, ?_, ?_, fun i hi => (Hfin.out.2.2.1 i hi).2, Hfin.out.2.2.2.1.trans tS (by simp)⟩
      · exact (own_touch' Hfin.out.1 tS (fun i hi => by simpa using Hfin.out.2.2.2.2 i (.inl hi))).mono (by omega)
      · exact (own_touch' Hfin.out.2.1 tS (fun i hi => by simpa using Hfin.out.2.2.2.2 i (.inr hi))).mono (by omega)
end Go.Proofs.Ytjmgookpmngmaac
