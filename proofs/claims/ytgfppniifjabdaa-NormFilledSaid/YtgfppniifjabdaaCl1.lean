/- class: a text in small letters. -/
import Derived.Test.YtgfppniifjabdaaProg
import Derived.Test.YtgfppniifjabdaaOwnB
import Derived.Test.YtgfppniifjabdaaOctPlain
import Derived.Test.YtgfppniifjabdaaHeap
import Derived.WalkKit
import Derived.WalkSpells
import Derived.Outline
import Derived.KernelRfl
import Derived.RowKit3
import Derived.Deep.LoopGhost
import Derived.Laws.BytesArg
import Derived.Lib.Hide
import Derived.IntWalk
namespace Go.Proofs.Ytgfppniifjabdaa
open Go Go.RowKit

theorem OwnB_read {w : World} {base g n cap i : Nat} {e : TypeId} {xs : List Value} (h : OwnB w base e (.slice (some ⟨g, 0, none⟩) n cap) xs) {u : Value} (hi : xs[i]? = some u) : w.cell? ⟨g, i, none⟩ = some u ∧ w.frozen? ⟨g, i, none⟩ = false ∧ base ≤ g := by
  obtain ⟨g', cap', cur, fr, he, hb, hg, hf, h1, h2, h3, h4⟩ := h
  cases he
  have hl := (List.getElem?_eq_some_iff.1 hi).1
  have hlc : i < cur.size := by omega
  refine ⟨?_, ?_, hb⟩
  · rw [cell_of hg, ← Array.getElem?_toList]
    have hi2 : (cur.toList.take xs.length)[i]? = some u := by rw [h4]; exact hi
    rwa [List.getElem?_take_of_lt hl] at hi2
  · simp only [World.frozen?, hg]
    rcases hf with hf | hf
    · simp [hf]
    · have : ¬ fr.1 ≤ i := by omega
      simp [this]
theorem OwnB_set {w : World} {base g n cap i : Nat} {e : TypeId} {xs : List Value} (h : OwnB w base e (.slice (some ⟨g, 0, none⟩) n cap) xs) (u : Value) (_hi : i < xs.length) : OwnB (w.setCell ⟨g, i, none⟩ u) base e (.slice (some ⟨g, 0, none⟩) n cap) (xs.set i u) := by
  obtain ⟨g', cap', cur, fr, he, hb, hg, hf, h1, h2, h3, h4⟩ := h
  cases he
  refine ⟨g, cap, cur.setIfInBounds i u, fr, by rw [List.length_set], hb, block_set hg u, ?_, by rw [List.length_set]; exact h1, h2, by simp [h3], ?_⟩
  · rcases hf with hf | hf
    · exact .inl hf
    · exact .inr (by simpa using hf)
  · rw [List.length_set, Array.toList_setIfInBounds, List.take_set, h4]
def smB (b : UInt8) : UInt8 := if 65 ≤ b.toNat ∧ b.toNat ≤ 90 then b + 32 else b
def smallF (s : ByteArray) : ByteArray := ⟨(s.data.toList.map smB).toArray⟩
def u8L (l : List UInt8) : List Value := l.map fun b => Value.int .u8 b.toNat
def midL (s : ByteArray) (k : Nat) : List UInt8 := (s.data.toList.take k).map smB ++ s.data.toList.drop k
theorem midL_len (s : ByteArray) (k : Nat) : (midL s k).length = s.size := by
  have h : s.data.toList.length = s.size := by simp
  unfold midL
  simp
  omega
theorem midL_at (s : ByteArray) (k : Nat) (hk : k < s.size) : (midL s k)[k]? = some s[k] ∧ midL s (k + 1) = (midL s k).set k (smB s[k]) := by
  have h : s.data.toList.length = s.size := by simp
  have hl : k < s.data.toList.length := by omega
  have hx : s[k] = s.data.toList[k] := by simp [ByteArray.getElem_eq_getElem_data]
  have h1 : ((s.data.toList.take k).map smB).length = k := by simp; omega
  unfold midL
  constructor
  · rw [List.getElem?_append_right (by omega), h1, Nat.sub_self, List.getElem?_drop, Nat.add_zero, List.getElem?_eq_getElem hl, hx]
  · rw [List.take_succ_eq_append_getElem hl, List.map_append, List.append_assoc, List.set_append_right _ _ (by omega), h1, Nat.sub_self, List.drop_eq_getElem_cons hl, List.set_cons_zero, hx]
    rfl
set_option maxHeartbeats 1000000 in
theorem small_any (s : ByteArray) (w : World) (hs : s.size ≤ 140737488351232) : Calls Try.prog 45 #[.string s] w fun e w' => e = .returned (.string (smallF s)) ∧ Below w.heap.size w w' := by
  have hcv := fun (W : World) => Lib.run_convert_string_bytes (P := Try.prog) W 9 67 5 s Try.underlying9 Try.underlying67 Try.underlying5
  go_enter Try.func45, Try.ntmps45
  go_wp2
  have hstart := OwnB_bytes w w.heap.size 5 s (Nat.le_refl _) (by unfold maxLen; omega)
  have hbel : Below w.heap.size w (Lib.bytesWorld w 5 s) := (Below.refl _ _).grown (grownBy_bytes w 5 s none) (Nat.le_refl _) (by simp)
  have S0 : Hid (OwnB (Lib.bytesWorld w 5 s) w.heap.size 5 (.slice (some ⟨w.heap.size, 0, none⟩) s.size (grownCap w s.size 0 5)) (u8L (midL s 0)) ∧ Below w.heap.size w (Lib.bytesWorld w 5 s)) := Lib.hid ⟨hstart, hbel⟩
  generalize Lib.bytesWorld w 5 s = w1 at *
  generalize grownCap w s.size 0 5 = cap at *
  obtain ⟨g, hg⟩ : ∃ g, w.heap.size = g := ⟨_, rfl⟩
  have HG := Lib.hid hg
  rw [hg] at S0 ⊢
  clear hstart hbel hcv hg
  go_loopw [4] (fun i wr => ∃ k : Nat, i = .int .i64 k ∧ k ≤ s.size ∧ Hid (OwnB wr g 5 (.slice (some ⟨g, 0, none⟩) s.size cap) (u8L (midL s k)) ∧ Below g w wr)) (fun i _ => s.size - (intOf i).toNat)
  case atStart => exact ⟨0, rfl, Nat.zero_le _, S0⟩
  case round =>
    obtain ⟨k, rfl, hk, H⟩ := hrel
    by_cases hlt : k < s.size
    · have hlt' : (k : Int) < s.size := by omega
      have hk0 : (0 : Int) ≤ k := by omega
      obtain ⟨ha, hnx⟩ := midL_at s k hlt
      have hu : (u8L (midL s k))[k]? = some (.int .u8 (s[k]'hlt).toNat) := by unfold u8L; rw [List.getElem?_map, ha]; rfl
      obtain ⟨c0, f0, _⟩ := OwnB_read H.out.1 hu
      have hset := OwnB_set H.out.1 (.int .u8 (smB (s[k]'hlt)).toNat) (i := k) (by unfold u8L; rw [List.length_map, midL_len]; exact hlt)
      have hx : (u8L (midL s k)).set k (.int .u8 (smB (s[k]'hlt)).toNat) = u8L (midL s (k + 1)) := by
        rw [hnx]
        unfold u8L
        rw [List.map_set]
      rw [hx] at hset
      have HLT := Lib.hid hlt
      have HS := Lib.hid hset
      have hb2 := (s[k]'hlt).toNat_lt
      have hmeas : Hid (k + 1 ≤ s.size) := Lib.hid hlt
      by_cases hc : 65 ≤ (s[k]'hlt).toNat ∧ (s[k]'hlt).toNat ≤ 90
      · have e1 : ((smB (s[k]'hlt)).toNat : Int) = ((s[k]'hlt).toNat : Int) + 32 := by
          unfold smB
          rw [if_pos hc, UInt8.toNat_add]
          simp
          omega
        rw [e1] at HS
        have h65 : (65 : Int) ≤ ((s[k]'hlt).toNat : Int) := by omega
        have h90 : ((s[k]'hlt).toNat : Int) ≤ 90 := by omega
        clear ha hnx hu hset hx e1 hc HLT hb2
        generalize ((s[k]'hlt).toNat : Int) = c at *
        clear hlt
        have K : Hid (Below g w (wr.setCell ⟨g, k, none⟩ (.int .u8 (c + 32)))) := Lib.hid (H.out.2.setCell (Nat.le_refl _) _)
        go_wp2_with fail
        go_roundw
        case rel => exact ⟨k + 1, by go_num, hmeas.out, Lib.hid ⟨HS.out, K.out⟩⟩
        case measure => have := hmeas.out; simp [intOf]; omega
      · have e1 : smB (s[k]'hlt) = s[k]'hlt := if_neg hc
        have hsame : Hid (OwnB wr g 5 (.slice (some ⟨g, 0, none⟩) s.size cap) (u8L (midL s (k + 1)))) := Lib.hid (by
          have h1 : u8L (midL s (k + 1)) = u8L (midL s k) := by
            rw [hnx, e1]
            congr 1
            apply List.ext_getElem?
            intro j
            rw [List.getElem?_set]
            split
            · rename_i hj
              subst hj
              split
              · exact ha.symm
              · rename_i h9
                rw [List.getElem?_eq_none (by omega)]
            · rfl
          rw [h1]
          exact H.out.1)
        have hcc : ¬ (65 : Int) ≤ ((s[k]'hlt).toNat : Int) ∨ ((65 : Int) ≤ ((s[k]'hlt).toNat : Int) ∧ ¬ ((s[k]'hlt).toNat : Int) ≤ 90) := by omega
        clear ha hnx hu hset hx e1 hc HLT HS hb2
        generalize ((s[k]'hlt).toNat : Int) = c at *
        clear hlt
        rcases hcc with hcc | ⟨hcc, hcd⟩
        · go_wp2_with fail
          go_roundw
          case rel => exact ⟨k + 1, by go_num, hmeas.out, Lib.hid ⟨hsame.out, H.out.2⟩⟩
          case measure => have := hmeas.out; simp [intOf]; omega
        · go_wp2_with fail
          go_roundw
          case rel => exact ⟨k + 1, by go_num, hmeas.out, Lib.hid ⟨hsame.out, H.out.2⟩⟩
          case measure => have := hmeas.out; simp [intOf]; omega
    · have hks : k = s.size := by omega
      have hm : midL s k = s.data.toList.map smB := by
        have h : s.data.toList.length = s.size := by simp
        unfold midL
        rw [List.take_of_length_le (by omega), List.drop_of_length_le (by omega), List.append_nil]
      have hcv := run_convert_bytes_arg (P := Try.prog) wr 67 5 Try.underlying67 Try.underlying5 g 0 s.size cap ((s.data.toList.map smB).map fun b => (b.toNat : Int)) (by simp) (fun i hi => by
        have hu : (u8L (midL s k))[i]? = some (.int .u8 (((s.data.toList.map smB).map fun b => (b.toNat : Int)).getD i 0)) := by
          rw [hm]
          unfold u8L
          have hl : i < s.data.toList.length := by simpa using hi
          rw [List.getElem?_map, List.getElem?_map, List.getElem?_eq_getElem hl, List.getD_eq_getElem?_getD, List.getElem?_map, List.getElem?_map, List.getElem?_eq_getElem hl]
          rfl
        have := (OwnB_read H.out.1 hu).1
        simpa using this) 9 Try.underlying9
      have hst : strOfNums ((s.data.toList.map smB).map fun b => (b.toNat : Int)) = smallF s := by
        unfold strOfNums smallF
        congr 2
        rw [List.map_map]
        conv => rhs; rw [← List.map_id (s.data.toList.map smB)]
        apply List.map_congr_left
        intro b _
        simp
      rw [hst] at hcv
      have HB := Lib.hid H.out.2
      clear hks hm hst H
      go_wp2_with fail
      go_ret
      refine ⟨rfl, ?_⟩
      rw [HG.out]
      exact HB.out
def signS : ByteArray := ⟨#[40, 41, 44, 59, 46, 61, 60, 62, 43, 45, 42, 47, 37, 38, 124, 94, 126, 33, 64, 35, 63, 58, 91, 93]⟩
def signF (c : Int) : Bool := signS.data.toList.any fun b => (b.toNat : Int) == c
theorem sign_at (c : Int) (k : Nat) (hk : k < 24) : (signS.data.toList.drop k).any (fun b => (b.toNat : Int) == c) = (((signS[k]'hk).toNat : Int) == c || (signS.data.toList.drop (k + 1)).any fun b => (b.toNat : Int) == c) := by
  have hl : k < signS.data.toList.length := hk
  rw [List.drop_eq_getElem_cons hl, List.any_cons]
  rfl
set_option maxHeartbeats 1000000 in
theorem sign_any (c : Int) (w : World) : Calls Try.prog 50 #[.int .u8 c] w fun e w' => e = .returned (.bool (signF c)) ∧ Below w.heap.size w w' := by
  go_enter Try.func50, Try.ntmps50
  go_wp2
  have e : (⟨#[40, 41, 44, 59, 46, 61, 60, 62, 43, 45, 42, 47, 37, 38, 124, 94, 126, 33, 64, 35, 63, 58, 91, 93]⟩ : ByteArray) = signS := rfl
  rw [e]
  clear e
  obtain ⟨S, hS⟩ : ∃ S, S = signS := ⟨_, rfl⟩
  rw [← hS]
  have hz1 : S.size ≤ 24 := by rw [hS]; decide
  have hz2 : 24 ≤ S.size := by rw [hS]; decide
  have HS := Lib.hid hS
  clear hS
  go_loop [4] (fun i => ∃ k : Nat, i = .int .i64 k ∧ k ≤ 24 ∧ Hid ((signS.data.toList.drop k).any (fun b => (b.toNat : Int) == c) = signF c)) (fun i => 24 - (intOf i).toNat)
  case atStart => exact ⟨0, rfl, Nat.zero_le _, Lib.hid rfl⟩
  case round =>
    obtain ⟨k, rfl, hk, H⟩ := hrel
    by_cases hlt : k < 24
    · have hlt' : k < S.size := by omega
      have hb := sign_at c k hlt
      have hx : S[k]'hlt' = signS[k]'hlt := by
        have h := HS.out
        subst h
        rfl
      rw [← hx] at hb
      have hn := (S[k]'hlt').toNat_lt
      cases hc : (((S[k]'hlt').toNat : Int) == c) with
      | true =>
        have HF : Hid (signF c = true) := Lib.hid (by rw [← H.out, hb, hc]; rfl)
        clear hb hx
        go_wp2
        go_ret
        exact ⟨by rw [HF.out]; rfl, Below.refl _ _⟩
      | false =>
        have HF : Hid ((signS.data.toList.drop (k + 1)).any (fun b => (b.toNat : Int) == c) = signF c) := Lib.hid (by rw [← H.out, hb, hc]; rfl)
        clear hb hx
        go_wp2
        exact ⟨⟨k + 1, by go_num, hlt, HF⟩, by simp [intOf]; omega⟩
    · have hge : S.size ≤ k := by omega
      have HF : Hid (signF c = false) := Lib.hid (by
        rw [← H.out, show k = 24 by omega]
        rfl)
      go_wp2
      go_ret
      exact ⟨by rw [HF.out]; rfl, Below.refl _ _⟩
end Go.Proofs.Ytgfppniifjabdaa
