/- lexer: a text in small letters. -/
import Derived.Test.YtgfppniifjabdaaCl1
namespace Go.Proofs.Ytgfppniifjabdaa
open Go Go.RowKit

set_option maxHeartbeats 1000000 in
theorem lsmall_any (s : ByteArray) (w : World) (hs : s.size ≤ 140737488351232) : Calls Try.prog 54 #[.string s] w fun e w' => e = .returned (.string (smallF s)) ∧ Below w.heap.size w w' := by
  have hcv := fun (W : World) => Lib.run_convert_string_bytes (P := Try.prog) W 9 67 5 s Try.underlying9 Try.underlying67 Try.underlying5
  go_enter Try.func54, Try.ntmps54
  go_wp2
  have hstart := OwnB_bytes w w.heap.size 5 s (Nat.le_refl _) (by unfold maxLen; omega)
  have hbel : Below w.heap.size w (Lib.bytesWorld w 5 s) := (Below.refl _ _).grown (grownBy_bytes w 5 s none) (Nat.le_refl _) (by simp)
  have S0 : Hid (OwnB (Lib.bytesWorld w 5 s) w.heap.size 5 (.slice (some ⟨w.heap.size, 0, none⟩) s.size (grownCap w s.size 0 5)) (u8L (midL s 0)) ∧ Below w.heap.size w (Lib.bytesWorld w 5 s)) := Lib.hid ⟨hstart, hbel⟩
  generalize Lib.bytesWorld w 5 s = w1 at *
  generalize grownCap w s.size 0 5 = cap at *
  obtain ⟨g, hg⟩ : ∃ g, w.heap.size = g := ⟨_, rfl⟩
  have HG := Lib.hid hg
  rw [hg] at S0 ⊢
  clear hstart hbel hcv hg
  go_loopw [10] (fun i wr => ∃ k : Nat, i = .int .i64 k ∧ k ≤ s.size ∧ Hid (OwnB wr g 5 (.slice (some ⟨g, 0, none⟩) s.size cap) (u8L (midL s k)) ∧ Below g w wr)) (fun i _ => s.size - (intOf i).toNat)
  case atStart => exact ⟨0, rfl, Nat.zero_le _, S0⟩
  case round =>
    obtain ⟨k, rfl, hk, H⟩ := hrel
    by_cases hlt : k < s.size
    · have hlt' : (k : Int) < s.size := by omega
      have hk0 : (0 : Int) ≤ k := by omega
      obtain ⟨ha, hnx⟩ := midL_at s k hlt
      have hu : (u8L (midL s k))[k]? = some (.int .u8 (s[k]'hlt).toNat) := by unfold u8L; rw [List.getElem?_map, ha]; rfl
      obtain ⟨c0, f0, _⟩ := OwnB_read H.out.1 hu
      have hset := OwnB_set H.out.1 (.int .u8 (smB (s[k]'hlt)).toNat) (i := k) (by unfold u8L; rw [List.length_map, midL_len]; exact hlt)
      have hx : (u8L (midL s k)).set k (.int .u8 (smB (s[k]'hlt)).toNat) = u8L (midL s (k + 1)) := by
        rw [hnx]
        unfold u8L
        rw [List.map_set]
      rw [hx] at hset
      have HLT := Lib.hid hlt
      have HS := Lib.hid hset
      have hb2 := (s[k]'hlt).toNat_lt
      have hmeas : Hid (k + 1 ≤ s.size) := Lib.hid hlt
      by_cases hc : 65 ≤ (s[k]'hlt).toNat ∧ (s[k]'hlt).toNat ≤ 90
      · have e1 : ((smB (s[k]'hlt)).toNat : Int) = ((s[k]'hlt).toNat : Int) + 97 - 65 := by
          unfold smB
          rw [if_pos hc, UInt8.toNat_add]
          simp
          omega
        rw [e1] at HS
        have h65 : (65 : Int) ≤ ((s[k]'hlt).toNat : Int) := by omega
        have h90 : ((s[k]'hlt).toNat : Int) ≤ 90 := by omega
        clear ha hnx hu hset hx e1 hc HLT hb2
        generalize ((s[k]'hlt).toNat : Int) = c at *
        clear hlt
        have K : Hid (Below g w (wr.setCell ⟨g, k, none⟩ (.int .u8 (c + 97 - 65)))) := Lib.hid (H.out.2.setCell (Nat.le_refl _) _)
        go_wp2_with fail
        go_roundw
        case rel => exact ⟨k + 1, by go_num, hmeas.out, Lib.hid ⟨HS.out, K.out⟩⟩
        case measure => have := hmeas.out; simp [intOf]; omega
      · have e1 : smB (s[k]'hlt) = s[k]'hlt := if_neg hc
        have hsame : Hid (OwnB wr g 5 (.slice (some ⟨g, 0, none⟩) s.size cap) (u8L (midL s (k + 1)))) := Lib.hid (by
          have h1 : u8L (midL s (k + 1)) = u8L (midL s k) := by
            rw [hnx, e1]
            congr 1
            apply List.ext_getElem?
            intro j
            rw [List.getElem?_set]
            split
            · rename_i hj
              subst hj
              split
              · exact ha.symm
              · rename_i h9
                rw [List.getElem?_eq_none (by omega)]
            · rfl
          rw [h1]
          exact H.out.1)
        have hcc : ¬ (65 : Int) ≤ ((s[k]'hlt).toNat : Int) ∨ ((65 : Int) ≤ ((s[k]'hlt).toNat : Int) ∧ ¬ ((s[k]'hlt).toNat : Int) ≤ 90) := by omega
        clear ha hnx hu hset hx e1 hc HLT HS hb2
        generalize ((s[k]'hlt).toNat : Int) = c at *
        clear hlt
        rcases hcc with hcc | ⟨hcc, hcd⟩
        · go_wp2_with fail
          go_roundw
          case rel => exact ⟨k + 1, by go_num, hmeas.out, Lib.hid ⟨hsame.out, H.out.2⟩⟩
          case measure => have := hmeas.out; simp [intOf]; omega
        · go_wp2_with fail
          go_roundw
          case rel => exact ⟨k + 1, by go_num, hmeas.out, Lib.hid ⟨hsame.out, H.out.2⟩⟩
          case measure => have := hmeas.out; simp [intOf]; omega
    · have hks : k = s.size := by omega
      have hm : midL s k = s.data.toList.map smB := by
        have h : s.data.toList.length = s.size := by simp
        unfold midL
        rw [List.take_of_length_le (by omega), List.drop_of_length_le (by omega), List.append_nil]
      have hcv := run_convert_bytes_arg (P := Try.prog) wr 67 5 Try.underlying67 Try.underlying5 g 0 s.size cap ((s.data.toList.map smB).map fun b => (b.toNat : Int)) (by simp) (fun i hi => by
        have hu : (u8L (midL s k))[i]? = some (.int .u8 (((s.data.toList.map smB).map fun b => (b.toNat : Int)).getD i 0)) := by
          rw [hm]
          unfold u8L
          have hl : i < s.data.toList.length := by simpa using hi
          rw [List.getElem?_map, List.getElem?_map, List.getElem?_eq_getElem hl, List.getD_eq_getElem?_getD, List.getElem?_map, List.getElem?_map, List.getElem?_eq_getElem hl]
          rfl
        have := (OwnB_read H.out.1 hu).1
        simpa using this) 9 Try.underlying9
      have hst : strOfNums ((s.data.toList.map smB).map fun b => (b.toNat : Int)) = smallF s := by
        unfold strOfNums smallF
        congr 2
        rw [List.map_map]
        conv => rhs; rw [← List.map_id (s.data.toList.map smB)]
        apply List.map_congr_left
        intro b _
        simp
      rw [hst] at hcv
      have HB := Lib.hid H.out.2
      clear hks hm hst H
      go_wp2_with fail
      go_ret
      refine ⟨rfl, ?_⟩
      rw [HG.out]
      exact HB.out
end Go.Proofs.Ytgfppniifjabdaa
