/- ref13: Nums, Fresh. -/
import Derived.Test.YtjmgookpmngmaacVr1
namespace Go.Proofs.Ytjmgookpmngmaac
open Go Go.RowKit Go.Maps

def cntI (bumps : List ByteArray) (s : ByteArray) : Int := cntB bumps s
set_option maxHeartbeats 1600000 in
theorem rNums_any {w : World} {pr : Nat} {v1 v2 : Value} {ep : Int} {bumps : List ByteArray} {marks : List (Int × ByteArray)} (h : RVC w pr v1 v2 ep bumps marks) (hn : bumps.length < 1000000) {A : Option Addr} {N cp : Nat} {l : List ByteArray} (hN : NamesI w A N l) (hn2 : N < 1000000) :
    Calls Try.prog 25 #[.pointer (some ⟨pr, 0, none⟩), .slice A N cp] w fun e w' => ∃ A2 c2, e = .returned (.slice A2 N c2) ∧ w'.ownsRow w.heap.size 3 1 (.slice A2 N c2) N (numsV (l.map (cntI bumps))) ∧ Touch [] w w' := by
  have HN := Lib.hid hN
  have H := Lib.hid h
  obtain ⟨j0, hj0, hjz, hj1, hj2⟩ := info_parts infoI
  clear hN h
  go_enter Try.func25, Try.ntmps25
  go_wp2_with fail
  have K0 : w.ownsRow w.heap.size 3 1 (.slice none 0 0) 0 (numsV ((l.take 0).map (cntI bumps))) := World.ownsRow_nil _ _ _ _
  go_loopw [5, 6] (fun v i wr => ∃ (k : Nat), k ≤ N ∧ i = .int .i64 k ∧ Hid (wr.ownsRow w.heap.size 3 1 v k (numsV ((l.take k).map (cntI bumps)))) ∧ Touch [] w wr) (fun _ i _ => N - (intOf i).toNat)
  case atStart => exact ⟨0, Nat.zero_le _, rfl, Lib.hid K0, Touch.refl _ _⟩
  clear K0
  case round =>
    obtain ⟨k, hk, rfl, hK, hT⟩ := hrel
    obtain ⟨B, cB, rfl⟩ := own_slice2 hK.out
    by_cases hlt : k < N
    · obtain ⟨g, o, rfl, hadd, c0, hs, hmem⟩ := HN.out.cell hT (by simp) hlt
      generalize l.getD k ⟨#[]⟩ = s at *
      have Hs := Lib.hid hs
      have hr := H.out.kept0 hT
      have hown2 := Lib.hid (hK.out.alloc (.cells #[.int .i64 (cntB bumps s)] 3))
      have hsrc : Hid (Src (wr.alloc (.cells #[.int .i64 (cntB bumps s)] 3)) (some ⟨wr.heap.size, 0, none⟩) 1 1 [.int .i64 (cntB bumps s)]) := Lib.hid (.inr ⟨_, rfl, rfl, cell_one_new wr _ _⟩)
      have hwr := hT.size
      clear hs hmem
      go_wp2_with fail
      refine (rNum_any hr hn s).mono ?_
      rintro e w4 ⟨rfl, rfl⟩
      go_wp2_with (at_builtin; go_must (refine wpList_append_src _ rfl _ _ 31 rfl w.heap.size 3 j0 (.int .i64 0) 1 8 Try.underlying31 hj0 hjz hj1 hj2 rfl (by decide) (.slice B k cB) k _ rfl hown2.out (some ⟨wr.heap.size, 0, none⟩) 1 1 [.int .i64 (cntB bumps s)] rfl hsrc.out (by simp [Value.oneCell']) (by simp [maxLen]; omega) (by omega) (by simp; omega) ?_); intro v5 w5 hown5 hg5 hloc5)
      have T5 : Touch [] w w5 := (hT.trans ((Touch.refl [] wr).alloc (.cells #[.int .i64 (cntB bumps s)] 3)) (by simp)).grownBy hg5 (fun i hi => .inr (hK.out.lt i hi).1)
      have H5 : Hid (w5.ownsRow w.heap.size 3 1 v5 (k + 1) (numsV ((l.take (k + 1)).map (cntI bumps)))) := Lib.hid (by rw [Hs.out, List.map_append]; simpa [numsV, intV, cntI] using hown5)
      clear hown5 hg5 hloc5 hown2 hsrc hr
      go_wp2_with fail
      go_roundw
      case rel => exact ⟨k + 1, by omega, by go_num, H5, T5⟩
      case measure => simp [intOf]; omega
    · have hkN : k = N := by omega
      subst hkN
      have Hf : Hid (l.take k = l) := Lib.hid (by rw [HN.out.1]; exact List.take_length)
      rw [Hf.out] at hK
      go_wp2
      go_ret
      exact ⟨B, cB, rfl, hK.out, hT⟩
theorem rFresh_any {w : World} {pr : Nat} {v1 v2 : Value} {ep : Int} {bumps : List ByteArray} {marks : List (Int × ByteArray)} (h : RVC w pr v1 v2 ep bumps marks) (hn : bumps.length < 1000000) (E : Int) {A : Option Addr} {N cp : Nat} {l : List ByteArray} (hN : NamesI w A N l) (hn2 : N < 1000000) {A2 : Option Addr} {n2 c2 : Nat} {nums : List Int} (hM : NumsI w A2 n2 nums) :
    Calls Try.prog 28 #[.pointer (some ⟨pr, 0, none⟩), .int .i64 E, .slice A N cp, .slice A2 n2 c2] w fun e w' => e = .returned (.bool (decide (E = ep) && decide (l.map (cntI bumps) = nums))) ∧ Touch [] w w' := by
  have c1 := h.c1
  by_cases hE : E = ep
  · have hE1 : (E == ep) = true := by simp [hE]
    have Hf : Hid ((decide (E = ep) && decide (l.map (cntI bumps) = nums)) = decide (l.map (cntI bumps) = nums)) := Lib.hid (by simp [hE])
    clear hE
    go_enter Try.func28, Try.ntmps28
    go_wp2_with fail
    refine (rNums_any h hn hN hn2).mono ?_
    rintro e w1 ⟨A3, c3, rfl, o3, t3⟩
    go_wp2_with fail
    refine (Ints_any (NumsI.of_own o3) (hM.kept0 t3) hn2).mono ?_
    rintro e w4 ⟨rfl, t4⟩
    go_wp2
    go_ret
    exact ⟨by rw [Hf.out]; rfl, t3.trans t4 (by simp)⟩
  · have hE1 : (E == ep) = false := by simpa using hE
    have Hf : Hid ((decide (E = ep) && decide (l.map (cntI bumps) = nums)) = false) := Lib.hid (by simp [hE])
    clear hE
    go_enter Try.func28, Try.ntmps28
    go_wp2
    go_ret
    exact ⟨by rw [Hf.out]; rfl, Touch.refl _ _⟩

/-- What a call has made of it. -/
structure RVM (w w' : World) (pr : Nat) (v1 v2 : Value) (ep : Int) (bumps' : List ByteArray) (marks' : List (Int × ByteArray)) : Prop where
  st : ∃ v1' v2', RVC w' pr v1' v2' ep bumps' marks' ∧ ∀ i ∈ rblocks pr v1' v2', i ∈ rblocks pr v1 v2 ∨ w.heap.size ≤ i
  touch : Touch (rblocks pr v1 v2) w w'

/-- The bumps behind k names. -/
def bumpL (bumps : List ByteArray) : List ByteArray → List ByteArray → List ByteArray
  | _, [] => bumps
  | seen, s :: l => bumpL (if hasB seen s then bumps else bumps ++ [s]) (seen ++ [s]) l
def bumpTo (bumps l : List ByteArray) (k : Nat) : List ByteArray := bumpL bumps [] (l.take k)
theorem bumpL_snoc (bumps seen l : List ByteArray) (s : ByteArray) : bumpL bumps seen (l ++ [s]) = if hasB (seen ++ l) s then bumpL bumps seen l else bumpL bumps seen l ++ [s] := by
  induction l generalizing bumps seen with
  | nil => simp [bumpL]
  | cons x l ih =>
    simp only [List.cons_append, bumpL]
    rw [ih]
    simp
theorem bumpTo_next {bumps l : List ByteArray} {k : Nat} {s : ByteArray} (h : l.take (k + 1) = l.take k ++ [s]) : bumpTo bumps l (k + 1) = if hasB (l.take k) s then bumpTo bumps l k else bumpTo bumps l k ++ [s] := by
  unfold bumpTo
  rw [h, bumpL_snoc]; simp
theorem bumpTo_cnt {bumps l : List ByteArray} (s : ByteArray) : ∀ k, k ≤ l.length → cntB (bumpTo bumps l k) s = cntB bumps s + if hasB (l.take k) s then 1 else 0
  | 0, _ => by simp [bumpTo, bumpL, hasB]
  | k + 1, hk => by
    have hs := take_succ' l k hk (⟨#[]⟩ : ByteArray)
    generalize l.getD k ⟨#[]⟩ = t at hs
    rw [bumpTo_next hs, hs, hasB_append, hasB_one]
    have ih := bumpTo_cnt (bumps := bumps) (l := l) s k (by omega)
    by_cases e : t = s
    · subst e
      cases hb : hasB (l.take k) t with
      | true => simp [hb, ih]
      | false => simp [hb, ih, cntB_append]; simp [cntB]
    · cases hb : hasB (l.take k) t with
      | true => simp [ih, e]
      | false => simp [ih, cntB_append, e]; simp [cntB, e]
theorem bumpTo_length {bumps l : List ByteArray} : ∀ k, k ≤ l.length → (bumpTo bumps l k).length ≤ bumps.length + k
  | 0, _ => by simp [bumpTo, bumpL]
  | k + 1, hk => by
    have hs := take_succ' l k hk (⟨#[]⟩ : ByteArray)
    rw [bumpTo_next hs]
    have ih := bumpTo_length (bumps := bumps) (l := l) k (by omega)
    split <;> simp <;> omega
end Go.Proofs.Ytjmgookpmngmaac
