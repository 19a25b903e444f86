/- ref13: Dirty, Clean. -/
import Derived.Test.YtjmgookpmngmaacVr3
namespace Go.Proofs.Ytjmgookpmngmaac
open Go Go.RowKit Go.Maps

theorem infoM : (Try.prog.info? 70).map (fun i => (i.zero, i.size, i.bytes)) = some (some (.agg #[.int .i64 0, .string ⟨#[]⟩]), 2, 24) := by kernel_rfl
theorem RBK.app2 {w wr w5 : World} {pr : Nat} {v1 v2 v v5 : Value} {ep : Int} {bumps : List ByteArray} {marks : List (Int × ByteArray)} {m : Int × ByteArray} (h : RVM w wr pr v1 v2 ep bumps marks) (hst : RVC wr pr v1 v ep bumps marks) (hnew : ∀ i ∈ rblocks pr v1 v, i ∈ rblocks pr v1 v2 ∨ w.heap.size ≤ i) (hown : w5.ownsRow 0 70 2 v5 (marks.length + 1) (marks.flatMap mkC ++ mkC m))
    (hg : (wr.alloc (.cells #[.int .i64 m.1, .string m.2] 70)).grownBy w5 v.ownBlock) (hloc : v5.ownBlock = v.ownBlock ∨ v5.ownBlock = some (wr.heap.size + 1)) :
    RVC (w5.setCell ⟨pr, 2, none⟩ v5) pr v1 v5 ep bumps (marks ++ [m]) ∧ (∀ i ∈ rblocks pr v1 v5, i ∈ rblocks pr v1 v2 ∨ w.heap.size ≤ i) ∧ Touch (rblocks pr v1 v2) w (w5.setCell ⟨pr, 2, none⟩ v5) := by
  have hpr := heap_lt hst.cells
  have ta : Touch [] wr (wr.alloc (.cells #[.int .i64 m.1, .string m.2] 70)) := (Touch.refl _ _).alloc _
  have tg : Touch v.ownBlock.toList wr w5 := (ta.mono (by simp)).grownBy hg (fun i hi => .inl (by simp [hi]))
  have tS : Touch [pr] w5 (w5.setCell ⟨pr, 2, none⟩ v5) := (Touch.refl _ _).setCell _ (by simp)
  have hwr := h.touch.size
  have hlt := hst.lt
  have hv5 : ∀ i, v5.ownBlock = some i → i ≠ pr ∧ v1.ownBlock ≠ some i := fun i hi => by
    rcases hloc with q | q
    · exact ⟨hst.ap2 i (by rw [← q, hi]), fun e => (hst.ap1 i e).2 (by rw [← q, hi])⟩
    · rw [hi] at q; cases q
      exact ⟨by omega, fun e => by have := hlt (wr.heap.size + 1) (by simp [rblocks, e]); omega⟩
  refine ⟨⟨?_, own_touch' (own_touch' hst.own1 tg fun i hi => ?_) tS fun i hi => ?_, ?_, fun i hi => ⟨(hst.ap1 i hi).1, fun e => (hv5 i e).2 hi⟩, fun i hi => (hv5 i hi).1⟩, fun i hi => ?_, ?_⟩
  · have := block_set ((tg.block pr hpr (by simpa using fun e => hst.ap2 pr e rfl)).trans hst.cells) (i := 2) v5
    simpa using this
  · simpa using (hst.ap1 i hi).2
  · simpa using (hst.ap1 i hi).1
  · have : w5.ownsRow 0 70 2 v5 (marks ++ [m]).length ((marks ++ [m]).flatMap mkC) := by simpa using hown
    exact own_touch' this tS fun i hi => by simpa using (hv5 i hi).1
  · simp only [rblocks, List.mem_cons, List.mem_append, Option.mem_toList] at hi
    rcases hi with rfl | hi | hi
    · exact .inl (by simp [rblocks])
    · exact hnew i (by simp [rblocks, hi])
    · rcases hloc with q | q
      · exact hnew i (by simp [rblocks, ← q, hi])
      · rw [hi] at q; cases q; exact .inr (by omega)
  · refine (h.touch.trans tg fun i hi => hnew i (by simp at hi; simp [rblocks, hi])).trans tS fun i hi => ?_
    simp at hi; subst hi; exact .inl (by simp [rblocks])

def markTo (marks : List (Int × ByteArray)) (c : Int) (l : List ByteArray) : List (Int × ByteArray) := marks ++ l.map fun s => (c, s)
set_option maxHeartbeats 1600000 in
theorem rDirty_any {w : World} {pr : Nat} {v1 v2 : Value} {ep : Int} {bumps : List ByteArray} {marks : List (Int × ByteArray)} (h : RVC w pr v1 v2 ep bumps marks) (c : Int) {A : Option Addr} {N cp : Nat} {l : List ByteArray} (hN : NamesI w A N l) (hA : N = 0 ∨ ∀ a, A = some a → a.block ∉ rblocks pr v1 v2) (hn : marks.length + N < 1000000) :
    Calls Try.prog 22 #[.pointer (some ⟨pr, 0, none⟩), .int .i64 c, .slice A N cp] w fun e w' => e = .returned (.tuple #[]) ∧ RVM w w' pr v1 v2 ep bumps (markTo marks c l) := by
  have HN := Lib.hid hN
  have HA := Lib.hid hA
  obtain ⟨i0, hi0, hiz, hi1, hi2⟩ := info_parts infoM
  have K0 : RVC w pr v1 v2 ep bumps (markTo marks c (l.take 0)) ∧ (∀ i ∈ rblocks pr v1 v2, i ∈ rblocks pr v1 v2 ∨ w.heap.size ≤ i) ∧ Touch (rblocks pr v1 v2) w w := ⟨by simpa [markTo] using h, fun i hi => .inl hi, Touch.refl _ _⟩
  clear hA hN h
  go_enter Try.func22, Try.ntmps22
  go_wp2_with fail
  go_loopw [6] (fun i wr => ∃ (k : Nat) (v : Value), k ≤ N ∧ i = .int .i64 k ∧ Hid (RVC wr pr v1 v ep bumps (markTo marks c (l.take k)) ∧ (∀ i ∈ rblocks pr v1 v, i ∈ rblocks pr v1 v2 ∨ w.heap.size ≤ i) ∧ Touch (rblocks pr v1 v2) w wr)) (fun i _ => N - (intOf i).toNat)
  case atStart => exact ⟨0, v2, Nat.zero_le _, rfl, Lib.hid K0⟩
  clear K0
  case round =>
    obtain ⟨k, v, hk, rfl, hK⟩ := hrel
    by_cases hlt : k < N
    · obtain ⟨g, o, rfl, hadd, c0, hs, hmem⟩ := HN.out.cell hK.out.2.2 HA.out hlt
      generalize l.getD k ⟨#[]⟩ = s at *
      have hml : (markTo marks c (l.take k)).length ≤ marks.length + k := by
        have := List.length_take_le k l
        simp only [markTo, List.length_append, List.length_map]; omega
      have Hnx : Hid (markTo marks c (l.take (k + 1)) = markTo marks c (l.take k) ++ [(c, s)]) := Lib.hid (by rw [hs]; simp [markTo])
      generalize hms : markTo marks c (l.take k) = ms at *
      clear hs hmem hms
      have e2 : wr.cell? ⟨pr, 2, none⟩ = some v := hK.out.1.c2
      have e2d : wr.drew.cell? ⟨pr, 2, none⟩ = some v := e2
      have c0d : wr.drew.cell? ⟨g, o + k, none⟩ = some (.string s) := c0
      have hown2 := Lib.hid (hK.out.1.own2.alloc (.cells #[.int .i64 c, .string s] 70))
      have hsrc : Hid (Src (wr.alloc (.cells #[.int .i64 c, .string s] 70)) (some ⟨wr.heap.size, 0, none⟩) 1 2 [.int .i64 c, .string s]) := Lib.hid (.inr ⟨_, rfl, rfl, news_of (cs := #[.int .i64 c, .string s]) (heap_alloc_new wr _)⟩)
      have hpr := heap_lt hK.out.1.cells
      go_wp2_with fail
      go_region_law (refine step_append_src rfl _ _ 46 rfl 0 70 i0 _ 2 24 Try.underlying46 hi0 hiz hi1 hi2 rfl (by decide) v ms.length _ rfl hown2.out (some ⟨wr.heap.size, 0, none⟩) 1 1 [.int .i64 c, .string s] rfl hsrc.out (by simp [Value.oneCell']) (by simp [maxLen]; omega) (by omega) (Nat.zero_le _) ?_; intro v5 w5 hown5 hg5' hloc5; obtain ⟨A5, c5, rfl⟩ := own_slice2 hown5; (have hgr : (wr.alloc (.cells #[.int .i64 c, .string s] 70)).grownBy w5 v.ownBlock := ⟨hg5'.os, hg5'.tape, hg5'.output, hg5'.size, hg5'.block⟩); (have b5 := (hgr.block pr (by simp; omega) (fun e => hK.out.1.ap2 pr e.symm rfl)).trans ((RowKit.Below.heap_alloc _ _ _ hpr).trans hK.out.1.cells)); (have d5 : w5.cell? ⟨pr, 2, none⟩ = some v := (by rw [cell_of b5]; rfl)); have f5 := frozen_of b5 2)
      all_goals
        have K5 := Lib.hid (RBK.app2 (m := (c, s)) ⟨⟨v1, v, hK.out.1, hK.out.2.1⟩, hK.out.2.2⟩ hK.out.1 hK.out.2.1 hown5 hgr (by simpa using hloc5))
        clear hgr hg5' hown5 hloc5 d5 f5 b5
        go_wp2_with fail
        go_roundw
        case rel => exact ⟨k + 1, _, by omega, by go_num, by rw [Hnx.out]; exact K5⟩
        case measure => simp [intOf]; omega
    · have hkN : k = N := by omega
      subst hkN
      have Hf : Hid (l.take k = l) := Lib.hid (by rw [HN.out.1]; exact List.take_length)
      rw [Hf.out] at hK
      go_wp2
      go_end0
      exact ⟨rfl, ⟨v1, v, hK.out.1, hK.out.2.1⟩, hK.out.2.2⟩

def unmark (marks : List (Int × ByteArray)) (c : Int) : List (Int × ByteArray) := marks.filter fun m => decide (m.1 ≠ c)
set_option maxHeartbeats 1600000 in
theorem rClean_any {w : World} {pr : Nat} {v1 v2 : Value} {ep : Int} {bumps : List ByteArray} {marks : List (Int × ByteArray)} (h : RVC w pr v1 v2 ep bumps marks) (c : Int) (hn : marks.length < 1000000) :
    Calls Try.prog 23 #[.pointer (some ⟨pr, 0, none⟩), .int .i64 c] w fun e w' => e = .returned (.tuple #[]) ∧ RVM w w' pr v1 v2 ep bumps (unmark marks c) := by
  obtain ⟨i0, hi0, hiz, hi1, hi2⟩ := info_parts infoM
  obtain ⟨A2, cp2, e⟩ := own_slice2 h.own2
  have HE := Lib.hid e
  have H := Lib.hid h
  generalize hL : marks.length = L at *
  have HL := Lib.hid hL
  clear e hL h
  go_enter Try.func23, Try.ntmps23
  go_wp2_with fail
  go_loopw [4, 5] (fun v i wr => ∃ (k : Nat), k ≤ L ∧ i = .int .i64 k ∧ Hid (wr.ownsRow w.heap.size 70 2 v (unmark (marks.take k) c).length ((unmark (marks.take k) c).flatMap mkC)) ∧ Hid (Touch [] w wr)) (fun _ i _ => L - (intOf i).toNat)
  case atStart => exact ⟨0, Nat.zero_le _, rfl, Lib.hid (World.ownsRow_nil _ _ _ _), Lib.hid (Touch.refl _ _)⟩
  case round =>
    obtain ⟨k, hk, rfl, hK, hT⟩ := hrel
    obtain ⟨B, cB, rfl⟩ := own_slice2 hK.out
    have hr := H.out.kept0 hT.out
    have c2 := hr.c2
    rw [HE.out] at c2
    by_cases hlt : k < L
    · obtain ⟨m, hm⟩ : ∃ m, marks[k]? = some m := ⟨_, List.getElem?_eq_getElem (by rw [HL.out]; exact hlt)⟩
      obtain ⟨g, cp', hv, hc0, hc1, hadd⟩ := hr.mark hm
      rw [HE.out] at hv
      injection hv with hA _ _
      subst hA
      have Hm : Hid (marks.take (k + 1) = marks.take k ++ [m]) := Lib.hid (by
        obtain ⟨h1, h2⟩ := List.getElem?_eq_some_iff.1 hm
        rw [List.take_succ_eq_append_getElem h1, h2])
      have hul : (unmark (marks.take k) c).length ≤ k := Nat.le_trans (List.length_filter_le _ _) (List.length_take_le _ _)
      clear hm
      obtain ⟨mc, ms⟩ := m
      simp only at hc0 hc1
      by_cases hmc : mc = c
      · have e1 : (mc != c) = false := by simp [hmc]
        have Hnx : Hid (unmark (marks.take (k + 1)) c = unmark (marks.take k) c) := Lib.hid (by rw [Hm.out]; simp [unmark, hmc])
        clear hmc hr
        go_wp2_with fail
        go_roundw
        case rel => exact ⟨k + 1, by omega, by go_num, by rw [Hnx.out]; exact hK, hT⟩
        case measure => simp [intOf]; omega
      · have e1 : (mc != c) = true := by simpa using hmc
        have Hnx : Hid (unmark (marks.take (k + 1)) c = unmark (marks.take k) c ++ [(mc, ms)]) := Lib.hid (by rw [Hm.out]; simp [unmark, hmc])
        clear hmc hr
        generalize hus : unmark (marks.take k) c = us at *
        have hown2 := Lib.hid (hK.out.alloc (.cells #[.int .i64 mc, .string ms] 70))
        have hsrc : Hid (Src (wr.alloc (.cells #[.int .i64 mc, .string ms] 70)) (some ⟨wr.heap.size, 0, none⟩) 1 2 [.int .i64 mc, .string ms]) := Lib.hid (.inr ⟨_, rfl, rfl, news_of (cs := #[.int .i64 mc, .string ms]) (heap_alloc_new wr _)⟩)
        have hwr := hT.out.size
        clear hus
        go_wp2_with (at_builtin; go_must (refine wpList_append_src _ rfl _ _ 46 rfl w.heap.size 70 i0 _ 2 24 Try.underlying46 hi0 hiz hi1 hi2 rfl (by decide) (.slice B us.length cB) us.length _ rfl hown2.out (some ⟨wr.heap.size, 0, none⟩) 1 1 [.int .i64 mc, .string ms] rfl hsrc.out (by simp [Value.oneCell']) (by simp [maxLen]; omega) (by omega) (by simp; omega) ?_); intro v5 w5 hown5 hg5 hloc5)
        have T5 : Hid (Touch [] w w5) := Lib.hid ((hT.out.trans ((Touch.refl [] wr).alloc (.cells #[.int .i64 mc, .string ms] 70)) (by simp)).grownBy hg5 (fun i hi => .inr (hK.out.lt i hi).1))
        have H5 : Hid (w5.ownsRow w.heap.size 70 2 v5 (us ++ [(mc, ms)]).length ((us ++ [(mc, ms)]).flatMap mkC)) := Lib.hid (by simpa [mkC] using hown5)
        clear hown5 hg5 hloc5 hown2 hsrc
        go_wp2_with fail
        go_roundw
        case rel => exact ⟨k + 1, by omega, by go_num, by rw [Hnx.out]; exact H5, T5⟩
        case measure => simp [intOf]; omega
    · have hkL : k = L := by omega
      subst hkL
      have Hf : Hid (marks.take k = marks) := Lib.hid (by rw [← HL.out]; exact List.take_length)
      rw [Hf.out] at hK ⊢
      have f2 := frozen_of hr.cells 2
      have hpr := heap_lt H.out.cells
      have tS : Touch [pr] wr (wr.setCell ⟨pr, 2, none⟩ (.slice B (unmark marks c).length cB)) := (Touch.refl _ _).setCell _ (by simp)
      have hlt := H.out.lt
      have hnb : ∀ i, (Value.slice B (unmark marks c).length cB).ownBlock = some i → i ≠ pr ∧ v1.ownBlock ≠ some i := fun i hi => by
        have h1 := (hK.out.lt i hi).1
        exact ⟨by omega, fun e => by have := hlt i (by simp [rblocks, e]); omega⟩
      have Hfin : Hid (RVM w (wr.setCell ⟨pr, 2, none⟩ (.slice B (unmark marks c).length cB)) pr v1 v2 ep bumps (unmark marks c)) := Lib.hid ⟨⟨v1, .slice B (unmark marks c).length cB, ⟨?_, own_touch' hr.own1 tS fun i hi => by simpa using (hr.ap1 i hi).1, ?_, fun i hi => ⟨(hr.ap1 i hi).1, fun e => (hnb i e).2 hi⟩, fun i hi => (hnb i hi).1⟩, fun i hi => ?_⟩, (hT.out.mono (by simp)).trans tS fun i hi => by simp at hi; subst hi; exact .inl (by simp [rblocks])⟩
      · clear hr tS hnb hK
        go_wp2
        go_end0
        exact ⟨rfl, Hfin.out⟩
      · have := block_set hr.cells (i := 2) (.slice B (unmark marks c).length cB)
        simpa using this
      · exact (own_touch' hK.out tS fun i hi => by simpa using (hnb i hi).1).mono (Nat.zero_le _)
      · simp only [rblocks, List.mem_cons, List.mem_append, Option.mem_toList] at hi
        rcases hi with rfl | hi | hi
        · exact .inl (by simp [rblocks])
        · exact .inl (by simp [rblocks, hi])
        · exact .inr (hK.out.lt i hi).1
end Go.Proofs.Ytjmgookpmngmaac
