/- ref13: Bump. -/
import Derived.Test.YtjmgookpmngmaacVr2
namespace Go.Proofs.Ytjmgookpmngmaac
open Go Go.RowKit Go.Maps

theorem NamesI.takeK {w : World} {A : Option Addr} {N : Nat} {l : List ByteArray} (h : NamesI w A N l) {k : Nat} (hk : k ≤ N) : NamesI w A k (l.take k) := by
  obtain ⟨h1, h2⟩ := h
  refine ⟨by simp; omega, ?_⟩
  rcases h2 with h0 | ⟨g, o, rfl, hg, h2⟩
  · exact .inl (by omega)
  · refine .inr ⟨g, o, rfl, hg, fun j hj => ?_⟩
    rw [h2 j (by omega)]
    simp [List.getD_eq_getElem?_getD, hj]

structure RBK (w wr : World) (pr : Nat) (v1 v2 : Value) (ep : Int) (bumps : List ByteArray) (marks : List (Int × ByteArray)) (v : Value) : Prop where
  st : RVC wr pr v v2 ep bumps marks
  new : ∀ i ∈ rblocks pr v v2, i ∈ rblocks pr v1 v2 ∨ w.heap.size ≤ i
  touch : Touch (rblocks pr v1 v2) w wr
theorem RBK.app {w wr w5 : World} {pr : Nat} {v1 v2 v v5 : Value} {ep : Int} {bumps : List ByteArray} {marks : List (Int × ByteArray)} {s : ByteArray} (h : RBK w wr pr v1 v2 ep bumps marks v) (hown : w5.ownsRow 0 9 1 v5 (bumps.length + 1) (strsV bumps ++ [.string s]))
    (hg : (wr.alloc (.cells #[.string s] 9)).grownBy w5 v.ownBlock) (hloc : v5.ownBlock = v.ownBlock ∨ v5.ownBlock = some (wr.heap.size + 1)) : RBK w (w5.setCell ⟨pr, 0, none⟩ v5) pr v1 v2 ep (bumps ++ [s]) marks v5 := by
  have hpr := heap_lt h.st.cells
  have ta : Touch [] wr (wr.alloc (.cells #[.string s] 9)) := (Touch.refl _ _).alloc _
  have tg : Touch v.ownBlock.toList wr w5 := (ta.mono (by simp)).grownBy hg (fun i hi => .inl (by simp [hi]))
  have tS : Touch [pr] w5 (w5.setCell ⟨pr, 0, none⟩ v5) := (Touch.refl _ _).setCell _ (by simp)
  have hwr := h.touch.size
  have hlt := h.st.lt
  have hv5 : ∀ i, v5.ownBlock = some i → i ≠ pr ∧ v2.ownBlock ≠ some i := fun i hi => by
    rcases hloc with q | q
    · exact h.st.ap1 i (by rw [← q, hi])
    · rw [hi] at q; cases q
      exact ⟨by omega, fun e => by have := hlt (wr.heap.size + 1) (by simp [rblocks, e]); omega⟩
  have hup : ∀ i ∈ rblocks pr v v2, i ∈ rblocks pr v1 v2 ∨ w.heap.size ≤ i := h.new
  have hvb : ∀ i ∈ v.ownBlock.toList, i ∈ rblocks pr v v2 := fun i hi => by simp at hi; simp [rblocks, hi]
  refine ⟨⟨?_, ?_, own_touch' (own_touch' h.st.own2 tg fun i hi => ?_) tS fun i hi => ?_, hv5, h.st.ap2⟩, fun i hi => ?_, ?_⟩
  · have := block_set ((tg.block pr hpr (by simpa using fun e => (h.st.ap1 pr e).1 rfl)).trans h.st.cells) (i := 0) v5
    simpa using this
  · have : w5.ownsRow 0 9 1 v5 (bumps ++ [s]).length (strsV (bumps ++ [s])) := by simpa [strsV, strV] using hown
    exact own_touch' this tS fun i hi => by simpa using (hv5 i hi).1
  · simpa using fun e => (h.st.ap1 i e).2 hi
  · simpa using h.st.ap2 i hi
  · simp only [rblocks, List.mem_cons, List.mem_append, Option.mem_toList] at hi
    rcases hi with rfl | hi | hi
    · exact .inl (by simp [rblocks])
    · rcases hloc with q | q
      · exact hup i (by simp [rblocks, ← q, hi])
      · rw [hi] at q; cases q; exact .inr (by omega)
    · exact .inl (by simp [rblocks, hi])
  · refine (h.touch.trans tg fun i hi => hup i (hvb i hi)).trans tS fun i hi => ?_
    simp at hi; subst hi; exact .inl (by simp [rblocks])

set_option maxHeartbeats 1600000 in
theorem rBump_any {w : World} {pr : Nat} {v1 v2 : Value} {ep : Int} {bumps : List ByteArray} {marks : List (Int × ByteArray)} (h : RVC w pr v1 v2 ep bumps marks) {A : Option Addr} {N cp : Nat} {l : List ByteArray} (hN : NamesI w A N l) (hA : N = 0 ∨ ∀ a, A = some a → a.block ∉ rblocks pr v1 v2) (hn : bumps.length + N < 1000000) (hcp : N ≤ cp) (hcp2 : cp ≤ maxLen) :
    Calls Try.prog 21 #[.pointer (some ⟨pr, 0, none⟩), .slice A N cp] w fun e w' => e = .returned (.tuple #[]) ∧ RVM w w' pr v1 v2 ep (bumpTo bumps l N) marks := by
  have HN := Lib.hid hN
  have HA := Lib.hid hA
  obtain ⟨i0, hi0, hiz, hi1, hi2⟩ := info_parts infoS
  have K0 : RBK w w pr v1 v2 ep (bumpTo bumps l 0) marks v1 := ⟨by simpa [bumpTo, bumpL] using h, fun i hi => .inl hi, Touch.refl _ _⟩
  unfold maxLen at hcp2
  clear hA hN h
  go_enter Try.func21, Try.ntmps21
  go_wp2_with fail
  go_loopw [4] (fun i wr => ∃ (k : Nat) (v : Value), k ≤ N ∧ i = .int .i64 k ∧ Hid (RBK w wr pr v1 v2 ep (bumpTo bumps l k) marks v)) (fun i _ => N - (intOf i).toNat)
  case atStart => exact ⟨0, v1, Nat.zero_le _, rfl, Lib.hid K0⟩
  clear K0
  case round =>
    obtain ⟨k, v, hk, rfl, hK⟩ := hrel
    by_cases hlt : k < N
    · obtain ⟨g, o, rfl, hadd, c0, hs, hmem⟩ := HN.out.cell hK.out.touch HA.out hlt
      have hNk : NamesI wr (some ⟨g, o, none⟩) k (l.take k) := (HN.out.kept hK.out.touch (fun a ha => by cases ha; exact (HA.out.resolve_left (by omega)) _ rfl)).takeK (by omega)
      generalize l.getD k ⟨#[]⟩ = s at *
      have Hs := Lib.hid hs
      have hk0 : (0 : Int) ≤ k := by omega
      have hk1 : (k : Int) ≤ (cp : Int) := by omega
      have hkN : (k : Int) < (N : Int) := by omega
      clear hs hmem
      go_wp2_with fail
      go_quiet ((go_at_call 35; exact quietS (rin_any (hNk.kept0 ((Touch.refl _ _).drewN _)) (by omega) s)))
      have hK2 := Lib.hid (show RBK w (wr.drewN nq) pr v1 v2 ep (bumpTo bumps l k) marks v from ⟨hK.out.st.kept0 ((Touch.refl _ _).drewN nq), hK.out.new, hK.out.touch.drewN nq⟩)
      have c0' : (wr.drewN nq).cell? ⟨g, o + k, none⟩ = some (.string s) := c0
      clear hK c0 hNk
      generalize wr.drewN nq = W at *
      cases hb : hasB (l.take k) s with
      | true =>
        have Hnx : Hid (bumpTo bumps l (k + 1) = bumpTo bumps l k) := Lib.hid (by rw [bumpTo_next Hs.out, hb]; rfl)
        clear hb
        go_wp2_with fail
        go_roundw
        case rel => exact ⟨k + 1, v, by omega, by go_num, by rw [Hnx.out]; exact hK2⟩
        case measure => simp [intOf]; omega
      | false =>
        have Hnx : Hid (bumpTo bumps l (k + 1) = bumpTo bumps l k ++ [s]) := Lib.hid (by rw [bumpTo_next Hs.out, hb]; rfl)
        have hbl : (bumpTo bumps l k).length ≤ bumps.length + k := bumpTo_length k (by have := HN.out.1; omega)
        generalize bumpTo bumps l k = bs at *
        clear hb
        have e2 : W.cell? ⟨pr, 0, none⟩ = some v := hK2.out.st.c0
        have e2d : W.drew.cell? ⟨pr, 0, none⟩ = some v := e2
        have c0d : W.drew.cell? ⟨g, o + k, none⟩ = some (.string s) := c0'
        have hown2 := Lib.hid (hK2.out.st.own1.alloc (.cells #[.string s] 9))
        have hsrc : Hid (Src (W.alloc (.cells #[.string s] 9)) (some ⟨W.heap.size, 0, none⟩) 1 1 [.string s]) := Lib.hid (.inr ⟨_, rfl, rfl, cell_one_new W _ _⟩)
        have hpr := heap_lt hK2.out.st.cells
        go_wp2_with fail
        go_region_law (refine step_append_src rfl _ _ 23 rfl 0 9 i0 (.string ⟨#[]⟩) 1 16 Try.underlying23 hi0 hiz hi1 hi2 rfl (by decide) v bs.length _ rfl hown2.out (some ⟨W.heap.size, 0, none⟩) 1 1 [.string s] rfl hsrc.out (by simp [Value.oneCell']) (by simp [maxLen]; omega) (by omega) (Nat.zero_le _) ?_; intro v5 w5 hown5 hg5' hloc5; obtain ⟨A5, c5, rfl⟩ := own_slice2 hown5; (have hgr : (W.alloc (.cells #[.string s] 9)).grownBy w5 v.ownBlock := ⟨hg5'.os, hg5'.tape, hg5'.output, hg5'.size, hg5'.block⟩); (have b5 := (hgr.block pr (by simp; omega) (fun e => (hK2.out.st.ap1 pr e.symm).1 rfl)).trans ((RowKit.Below.heap_alloc _ _ _ hpr).trans hK2.out.st.cells)); (have d5 : w5.cell? ⟨pr, 0, none⟩ = some v := (by rw [cell_of b5]; rfl)); have f5 := frozen_of b5 0)
        all_goals
          have K5 := Lib.hid (hK2.out.app hown5 hgr (by simpa using hloc5))
          clear hgr hg5' hown5 hloc5 d5 f5 b5
          go_wp2_with fail
          go_roundw
          case rel => exact ⟨k + 1, _, by omega, by go_num, by rw [Hnx.out]; exact K5⟩
          case measure => simp [intOf]; omega
    · have hkN : k = N := by omega
      subst hkN
      go_wp2
      go_end0
      exact ⟨rfl, ⟨v, v2, hK.out.st, hK.out.new⟩, hK.out.touch⟩
end Go.Proofs.Ytjmgookpmngmaac
