/- The document's vers (ref13): what it stands for, and what is asked of it. -/
import Derived.Test.YtjmgookpmngmaacVeArg
namespace Go.Proofs.Ytjmgookpmngmaac
open Go Go.RowKit Go.Maps

def mkC (m : Int × ByteArray) : List Value := [.int .i64 m.1, .string m.2]
structure RVC (w : World) (pr : Nat) (v1 v2 : Value) (ep : Int) (bumps : List ByteArray) (marks : List (Int × ByteArray)) : Prop where
  cells : w.heap[pr]? = some (.cells #[v1, .int .i64 ep, v2] 48 (0, 0))
  own1 : w.ownsRow 0 9 1 v1 bumps.length (strsV bumps)
  own2 : w.ownsRow 0 70 2 v2 marks.length (marks.flatMap mkC)
  ap1 : ∀ i, v1.ownBlock = some i → i ≠ pr ∧ v2.ownBlock ≠ some i
  ap2 : ∀ i, v2.ownBlock = some i → i ≠ pr
def rblocks (pr : Nat) (v1 v2 : Value) : List Nat := pr :: (v1.ownBlock.toList ++ v2.ownBlock.toList)
section
variable {w w' : World} {pr : Nat} {v1 v2 : Value} {ep : Int} {bumps : List ByteArray} {marks : List (Int × ByteArray)}
theorem RVC.lt (h : RVC w pr v1 v2 ep bumps marks) : ∀ i ∈ rblocks pr v1 v2, i < w.heap.size := by
  intro i hi
  simp only [rblocks, List.mem_cons, List.mem_append, Option.mem_toList] at hi
  rcases hi with rfl | hi | hi
  · exact heap_lt h.cells
  · exact (h.own1.lt i hi).2
  · exact (h.own2.lt i hi).2
theorem RVC.kept {S : List Nat} (h : RVC w pr v1 v2 ep bumps marks) (t : Touch S w w') (hs : ∀ i ∈ rblocks pr v1 v2, i ∉ S) : RVC w' pr v1 v2 ep bumps marks :=
  ⟨(t.block pr (heap_lt h.cells) (hs pr (by simp [rblocks]))).trans h.cells, own_touch' h.own1 t (fun i hi => hs i (by simp [rblocks, hi])), own_touch' h.own2 t (fun i hi => hs i (by simp [rblocks, hi])), h.ap1, h.ap2⟩
theorem RVC.kept0 (h : RVC w pr v1 v2 ep bumps marks) (t : Touch [] w w') : RVC w' pr v1 v2 ep bumps marks := h.kept t (by simp)
theorem RVC.c0 (h : RVC w pr v1 v2 ep bumps marks) : w.cell? ⟨pr, 0, none⟩ = some v1 := by rw [cell_of h.cells]; rfl
theorem RVC.c1 (h : RVC w pr v1 v2 ep bumps marks) : w.cell? ⟨pr, 1, none⟩ = some (.int .i64 ep) := by rw [cell_of h.cells]; rfl
theorem RVC.c2 (h : RVC w pr v1 v2 ep bumps marks) : w.cell? ⟨pr, 2, none⟩ = some v2 := by rw [cell_of h.cells]; rfl
/-- A bump, read. -/
theorem RVC.bump (h : RVC w pr v1 v2 ep bumps marks) {k : Nat} (hk : k < bumps.length) : ∃ g cp, v1 = .slice (some ⟨g, 0, none⟩) bumps.length cp ∧ w.cell? ⟨g, k, none⟩ = some (.string (bumps.getD k ⟨#[]⟩)) ∧ bumps.take (k + 1) = bumps.take k ++ [bumps.getD k ⟨#[]⟩] := by
  obtain ⟨A, cp, e⟩ := own_slice2 h.own1
  subst e
  have hN := NamesI.of_own h.own1
  rcases hN.2 with h0 | ⟨g, o, rfl, _, hc⟩
  · omega
  · have ho : o = 0 := by
      rcases h.own1.2 with ⟨h1, _⟩ | ⟨g', cap, cur, hv, _⟩
      · cases h1
      · injection hv with hv _ _; injection hv with hv; injection hv with _ h2 _
    subst ho
    refine ⟨g, cp, rfl, by have := hc k hk; simpa using this, take_succ' bumps k hk _⟩
theorem mk_flat {marks : List (Int × ByteArray)} {k : Nat} {m : Int × ByteArray} (hm : marks[k]? = some m) : (marks.flatMap mkC)[k * 2]? = some (.int .i64 m.1) ∧ (marks.flatMap mkC)[k * 2 + 1]? = some (.string m.2) := by
  induction marks generalizing k with
  | nil => simp at hm
  | cons x xs ih =>
    cases k with
    | zero => simp at hm; subst hm; simp [mkC]
    | succ k =>
      simp at hm
      obtain ⟨h1, h2⟩ := ih hm
      have e1 : (k + 1) * 2 = k * 2 + 2 := by omega
      simp only [List.flatMap_cons, e1]
      constructor
      · rw [List.getElem?_append_right (by simp [mkC])]; simpa [mkC] using h1
      · rw [List.getElem?_append_right (by simp [mkC])]; simpa [mkC] using h2
theorem mk_length (marks : List (Int × ByteArray)) : (marks.flatMap mkC).length = marks.length * 2 := by
  induction marks with
  | nil => rfl
  | cons x xs ih => simp [mkC] at ih ⊢; omega
/-- A mark, read. -/
theorem RVC.mark (h : RVC w pr v1 v2 ep bumps marks) {k : Nat} {m : Int × ByteArray} (hm : marks[k]? = some m) : ∃ g cp, v2 = .slice (some ⟨g, 0, none⟩) marks.length cp ∧ w.cell? ⟨g, k * 2, none⟩ = some (.int .i64 m.1) ∧ w.cell? ⟨g, k * 2 + 1, none⟩ = some (.string m.2) ∧ (⟨g, 0, none⟩ : Addr).add (k * 2) = ⟨g, k * 2, none⟩ := by
  have hk := (List.getElem?_eq_some_iff.1 hm).1
  obtain ⟨e1, e2⟩ := mk_flat hm
  have hc := fun g => h.own2.cells (g := g)
  rcases h.own2.2 with ⟨_, h0⟩ | ⟨g, cap, cur, hv, _⟩
  · omega
  · have hadd : ∀ j, (⟨g, 0, none⟩ : Addr).add j = ⟨g, j, none⟩ := fun j => by unfold Addr.add; split <;> simp_all
    refine ⟨g, cap, hv, ?_, ?_, hadd _⟩
    · have := hc g (by rw [hv]; rfl) _ _ e1; rwa [hadd] at this
    · have := hc g (by rw [hv]; rfl) _ _ e2; rwa [hadd] at this
end

set_option maxHeartbeats 800000 in
theorem rin_any {w : World} {A : Option Addr} {N cp : Nat} {l : List ByteArray} (hN : NamesI w A N l) (hn : N < 1000000) (s : ByteArray) :
    Calls Try.prog 35 #[.slice A N cp, .string s] w fun e w' => e = .returned (.bool (hasB l s)) ∧ w = w' := by
  have HN := Lib.hid hN
  clear hN
  go_enter Try.func35, Try.ntmps35
  go_wp2_with fail
  go_loop [5] (fun i => ∃ k : Nat, k ≤ N ∧ i = .int .i64 k ∧ Hid (hasB (l.take k) s = false)) (fun i => N - (intOf i).toNat)
  case atStart => exact ⟨0, Nat.zero_le _, rfl, Lib.hid rfl⟩
  case round =>
    obtain ⟨k, hk, rfl, hK⟩ := hrel
    by_cases hlt : k < N
    · obtain ⟨g, o, rfl, hadd, c0, hs, hmem⟩ := HN.out.cell (Touch.refl [] w) (by simp) hlt
      generalize l.getD k ⟨#[]⟩ = t at *
      have Hs := Lib.hid hs
      have Hm := Lib.hid hmem
      clear hs hmem
      by_cases e : t = s
      · obtain ⟨e1, e2⟩ := str_eq e
        have Hf : Hid (hasB l s = true) := Lib.hid (hasB_iff.2 (e ▸ Hm.out))
        clear e
        go_wp2
        go_ret
        exact ⟨by rw [Hf.out]; rfl, rfl⟩
      · obtain ⟨e1, e2⟩ := str_ne e
        have He := Lib.hid e
        clear e
        go_wp2
        go_round
        case rel => exact ⟨k + 1, by omega, by go_num, Lib.hid (by rw [Hs.out, hasB_append, hK.out, hasB_one]; simpa using He.out)⟩
        case measure => simp [intOf]; omega
    · have hkN : k = N := by omega
      subst hkN
      have Hf : Hid (hasB l s = false) := Lib.hid (by have := hK.out; rwa [show l.take k = l by rw [HN.out.1]; exact List.take_length] at this)
      go_wp2
      go_ret
      exact ⟨by rw [Hf.out]; rfl, rfl⟩

theorem cnt_next {l : List ByteArray} {k : Nat} {t s : ByteArray} (h : l.take (k + 1) = l.take k ++ [t]) : cntB (l.take (k + 1)) s = cntB (l.take k) s + if t = s then 1 else 0 := by
  rw [h, cntB_append]
  by_cases e : t = s <;> simp [cntB, e]
set_option maxHeartbeats 800000 in
theorem rNum_any {w : World} {pr : Nat} {v1 v2 : Value} {ep : Int} {bumps : List ByteArray} {marks : List (Int × ByteArray)} (h : RVC w pr v1 v2 ep bumps marks) (hn : bumps.length < 1000000) (s : ByteArray) :
    Calls Try.prog 29 #[.pointer (some ⟨pr, 0, none⟩), .string s] w fun e w' => e = .returned (.int .i64 (cntB bumps s)) ∧ w = w' := by
  obtain ⟨A, cp, e⟩ := own_slice2 h.own1
  have c0 := h.c0
  rw [e] at c0
  have HE := Lib.hid e
  have H := Lib.hid h
  generalize hL : bumps.length = L at *
  have HL := Lib.hid hL
  clear e hL h
  go_enter Try.func29, Try.ntmps29
  go_wp2_with fail
  go_loop [5, 6] (fun c i => ∃ k : Nat, k ≤ L ∧ i = .int .i64 k ∧ c = .int .i64 (cntB (bumps.take k) s)) (fun _ i => L - (intOf i).toNat)
  case atStart => exact ⟨0, Nat.zero_le _, rfl, rfl⟩
  case round =>
    obtain ⟨k, hk, rfl, rfl⟩ := hrel
    by_cases hlt : k < L
    · obtain ⟨g, cp', hv, hc, hs⟩ := H.out.bump (k := k) (by rw [HL.out]; exact hlt)
      rw [HE.out] at hv
      injection hv with hA _ _
      subst hA
      generalize bumps.getD k ⟨#[]⟩ = t at *
      have hadd : (⟨g, 0, none⟩ : Addr).add k = ⟨g, k, none⟩ := by unfold Addr.add; split <;> simp_all
      have hle : cntB (bumps.take k) s ≤ k := Nat.le_trans (cntB_le _ _) (List.length_take_le _ _)
      have Hnx := Lib.hid (cnt_next (s := s) hs)
      clear hs
      generalize cntB (bumps.take k) s = c at *
      by_cases e : t = s
      · obtain ⟨e1, e2⟩ := str_eq e
        have Hn2 : Hid (cntB (bumps.take (k + 1)) s = c + 1) := Lib.hid (by rw [Hnx.out, if_pos e])
        clear e
        go_wp2
        go_round
        case rel => exact ⟨k + 1, by omega, by go_num, by rw [Hn2.out]; go_num⟩
        case measure => simp [intOf]; omega
      · obtain ⟨e1, e2⟩ := str_ne e
        have Hn2 : Hid (cntB (bumps.take (k + 1)) s = c) := Lib.hid (by rw [Hnx.out, if_neg e]; rfl)
        clear e
        go_wp2
        go_round
        case rel => exact ⟨k + 1, by omega, by go_num, by rw [Hn2.out]⟩
        case measure => simp [intOf]; omega
    · have hkL : k = L := by omega
      subst hkL
      have Hf : Hid (bumps.take k = bumps) := Lib.hid (by rw [← HL.out]; exact List.take_length)
      rw [Hf.out]
      go_wp2
      go_ret
      exact ⟨rfl, rfl⟩

def rbusyB (marks : List (Int × ByteArray)) (l : List ByteArray) : Bool := marks.any fun m => hasB l m.2
set_option maxHeartbeats 800000 in
theorem rBusy_any {w : World} {pr : Nat} {v1 v2 : Value} {ep : Int} {bumps : List ByteArray} {marks : List (Int × ByteArray)} (h : RVC w pr v1 v2 ep bumps marks) (hn : marks.length < 1000000) {A : Option Addr} {N cp : Nat} {l : List ByteArray} (hN : NamesI w A N l) (hn2 : N < 1000000) :
    Calls Try.prog 27 #[.pointer (some ⟨pr, 0, none⟩), .slice A N cp] w fun e w' => e = .returned (.bool (rbusyB marks l)) ∧ w = w' := by
  obtain ⟨A2, cp2, e⟩ := own_slice2 h.own2
  have c2 := h.c2
  rw [e] at c2
  have HE := Lib.hid e
  have H := Lib.hid h
  generalize hL : marks.length = L at *
  have HL := Lib.hid hL
  clear e hL h
  go_enter Try.func27, Try.ntmps27
  go_wp2_with fail
  go_loop [5] (fun i => ∃ k : Nat, k ≤ L ∧ i = .int .i64 k ∧ Hid (rbusyB (marks.take k) l = false)) (fun i => L - (intOf i).toNat)
  case atStart => exact ⟨0, Nat.zero_le _, rfl, Lib.hid rfl⟩
  case round =>
    obtain ⟨k, hk, rfl, hK⟩ := hrel
    by_cases hlt : k < L
    · obtain ⟨m, hm⟩ : ∃ m, marks[k]? = some m := ⟨_, List.getElem?_eq_getElem (by rw [HL.out]; exact hlt)⟩
      obtain ⟨g, cp', hv, hc0, hc1, hadd⟩ := H.out.mark hm
      rw [HE.out] at hv
      injection hv with hA _ _
      subst hA
      have Hm : Hid (m ∈ marks ∧ marks.take (k + 1) = marks.take k ++ [m]) := Lib.hid ⟨List.mem_of_getElem? hm, by
        obtain ⟨h1, h2⟩ := List.getElem?_eq_some_iff.1 hm
        rw [List.take_succ_eq_append_getElem h1, h2]⟩
      clear hm
      go_wp2_with fail
      refine (rin_any hN hn2 m.2).mono ?_
      rintro e w1 ⟨rfl, rfl⟩
      cases hb : hasB l m.2 with
      | true =>
        have Hf : Hid (rbusyB marks l = true) := Lib.hid (List.any_eq_true.2 ⟨m, Hm.out.1, hb⟩)
        clear hb
        go_wp2
        go_ret
        exact ⟨by rw [Hf.out]; rfl, rfl⟩
      | false =>
        have Hf : Hid (rbusyB (marks.take (k + 1)) l = false) := Lib.hid (by
          have := hK.out
          unfold rbusyB at this ⊢
          rw [Hm.out.2, List.any_append, this]; simp [hb])
        clear hb
        go_wp2
        go_round
        case rel => exact ⟨k + 1, by omega, by go_num, Hf⟩
        case measure => simp [intOf]; omega
    · have hkL : k = L := by omega
      subst hkL
      have Hf : Hid (rbusyB marks l = false) := Lib.hid (by have := hK.out; rwa [show marks.take k = marks by rw [← HL.out]; exact List.take_length] at this)
      go_wp2
      go_ret
      exact ⟨by rw [Hf.out]; rfl, rfl⟩
end Go.Proofs.Ytjmgookpmngmaac
