/- octet.put: the bytes of a number, the highest first, behind a text. -/
import Derived.Test.YtkaehhldloclhaaProg
import Derived.Test.YtkaehhldloclhaaOwnB
import Derived.Test.YtkaehhldloclhaaOctPlain
import Derived.WalkKit
import Derived.WalkSpells
import Derived.Outline
import Derived.KernelRfl
import Derived.RowKit3
import Derived.Deep.LoopGhost
import Derived.Laws.BytesArg
import Derived.Lib.Hide
namespace Go.Proofs.Ytkaehhldloclhaa
open Go.RowKit

theorem infoU8 : (Try.prog.info? 5).map (fun i => (i.zero, i.size, i.bytes)) = some (some (.int .u8 0), 1, 1) := by kernel_rfl
set_option maxHeartbeats 400000 in
theorem put_any (s : ByteArray) (n : Int) (k : Nat) (w : World) (hk : k ≤ 4) (hs : s.size + 4 ≤ 140737488355328) :
    Calls Try.prog 26 #[.string s, .int .i64 n, .int .i64 k] w fun e w' => e = .returned (.string (putF s n k)) ∧ Below w.heap.size w w' := by
  obtain ⟨i0, hi, hzz⟩ := Option.map_eq_some_iff.1 infoU8
  simp only [Prod.mk.injEq] at hzz
  obtain ⟨hz0, hz1, hz2⟩ := hzz
  have hcv := fun (W : World) => Lib.run_convert_string_bytes (P := Try.prog) W 9 45 5 s Try.underlying9 Try.underlying45 Try.underlying5
  go_enter Try.func26, Try.ntmps26
  go_wp2
  have hstart := OwnB_bytes w w.heap.size 5 s (Nat.le_refl _) (by unfold maxLen; omega)
  have hbel : Below w.heap.size w (Lib.bytesWorld w 5 s) := (Below.refl _ _).grown (grownBy_bytes w 5 s none) (Nat.le_refl _) (by simp)
  generalize Lib.bytesWorld w 5 s = w1 at hstart hbel ⊢
  have hs0 := hstart; clear hstart
  clear hcv
  go_loopw [7, 8] (fun v i wr => ∃ (r : Nat) (xs : List Int), i = .int .i64 ((r : Int) - 1) ∧ r ≤ k ∧ Hid (xs ++ beBytes n r = startNums s ++ beBytes n k) ∧ OwnB wr w.heap.size 5 v (nums8 xs) ∧ Below w.heap.size w wr) (fun _ i _ => (intOf i + 1).toNat)
  case atStart => exact ⟨k, startNums s, rfl, Nat.le_refl _, Lib.hid rfl, by simpa [nums8, startNums, Function.comp_def] using hs0, hbel⟩
  case round =>
    obtain ⟨r, xs, rfl, hr, hx, hown, hb⟩ := hrel
    cases r with
    | zero =>
      have hc : decide (0 ≤ ((0 : Nat) : Int) - 1) = false := by decide
      have hxe : xs = startNums s ++ beBytes n k := by have := hx.out; simpa [beBytes] using this
      clear hx
      obtain ⟨g, cap, rfl, hcells, hlen⟩ : ∃ g cap, u7 = .slice (some ⟨g, 0, none⟩) xs.length cap ∧ (∀ i, i < xs.length → wr.cell? ⟨g, 0 + i, none⟩ = some (.int .u8 (xs.getD i 0))) ∧ True := by
        have hc := fun g => hown.cells (g := g)
        obtain ⟨g, cap, cur, fr, rfl, _⟩ := hown
        refine ⟨g, cap, by simp [nums8], fun i hi => ?_, trivial⟩
        have h := hc g rfl i (.int .u8 (xs.getD i 0)) (by simp [nums8, hi])
        have ha : (⟨g, 0, none⟩ : Addr).add i = ⟨g, 0 + i, none⟩ := by unfold Addr.add; split <;> simp_all
        rwa [ha] at h
      have hcv := run_convert_bytes_arg (P := Try.prog) wr 45 5 Try.underlying45 Try.underlying5 g 0 xs.length cap xs rfl hcells 9 Try.underlying9
      have Hxe := Lib.hid hxe; clear hxe hcells hown
      go_wp2
      go_ret
      exact ⟨by show Ending.returned (.string (strOfNums xs)) = _; rw [Hxe.out, putF_nums], hb⟩
    | succ m =>
      have e1 : ((m + 1 : Nat) : Int) - 1 = (m : Int) := by omega
      rw [e1]
      have hxl : xs.length + (m + 1) ≤ 140737488355328 := by
        have h1 := congrArg List.length hx.out
        simp only [List.length_append, beBytes_length, startNums, List.length_map, Array.length_toList] at h1
        have h2 : s.data.size = s.size := rfl
        omega
      have hx2 : Hid ((xs ++ [n / 2 ^ (8 * m) % 256]) ++ beBytes n m = startNums s ++ beBytes n k) := Lib.hid (by rw [← hx.out]; simp [beBytes])
      clear hx
      have H1 : Hid ((wr.alloc (.cells #[.int .u8 (n / 2 ^ (8 * m) % 256)] 5)).cell? ⟨wr.heap.size, 0, none⟩ = some (.int .u8 (n / 2 ^ (8 * m) % 256))) := Lib.hid (by simp [World.cell?_alloc_mark])
      have H2 : Hid (((nums8 xs).length + 1) * 1 ≤ 140737488355328) := Lib.hid (by simp [nums8]; omega)
      have H3 : Hid (w.heap.size ≤ (wr.alloc (.cells #[.int .u8 (n / 2 ^ (8 * m) % 256)] 5)).heap.size) := Lib.hid (by have := hb.size; simp; omega)
      go_wp2_with (at_builtin; go_loud (refine wpList_append_ownB _ rfl _ _ 45 rfl w.heap.size 5 i0 (.int .u8 0) 1 Try.underlying45 hi hz0 hz1 hz2 rfl _ _ rfl (hown.alloc _) ⟨wr.heap.size, 0, none⟩ 1 (.int .u8 (n / 2 ^ (8 * m) % 256)) rfl H1.out rfl H2.out (by omega) H3.out ?_); intro v' w2 hown2 hg2 _)
      have hb2 : Below w.heap.size w w2 := (hb.alloc hb.size _).grown hg2 (by have := hb.size; simp; omega) (fun k' hk' => (hown.lt k' hk').1)
      go_roundw
      case rel => exact ⟨m, xs ++ [n / 2 ^ (8 * m) % 256], rfl, by omega, hx2, by simpa [nums8] using hown2, hb2⟩
      case measure => simp [intOf]
end Go.Proofs.Ytkaehhldloclhaa
