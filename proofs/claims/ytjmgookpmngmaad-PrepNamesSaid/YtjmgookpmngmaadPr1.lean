/- A book in memory: what is told of it, and its blocks. -/
import Derived.Test.YtjmgookpmngmaadProg
import Derived.Test.YtjmgookpmngmaadMapIt
import Derived.Test.YtjmgookpmngmaadRow
import Derived.Test.YtjmgookpmngmaadPrF
import Derived.WalkKit
import Derived.WalkSpells
import Derived.KernelRfl
import Derived.RowKit3
import Derived.Lib.Hide
import Derived.Outline
import Derived.BigQuiet
import Derived.Deep.QuietTactic
import Derived.Deep.OwnRows
import Derived.StillTailTactics
import Derived.Deep.LoopGhost
import Derived.Deep.RegionHeld3
import Derived.Deep.DeepCutAuto
import Derived.Deep.CutBlock
import Derived.Maps.AppendAt
import Derived.StringKeys
import Derived.Deep.Onto
import Derived.IntWalk
import Derived.Laws.BytesArg
import Derived.Deep.RegionWith
namespace Go.Proofs.Ytjmgookpmngmaad
open Go Go.RowKit Go.Maps

def strV (s : ByteArray) : Value := .string s
def goodS (s : ByteArray) : Prop := s.size ≤ maxLen
def intV (n : Int) : Value := .int .i64 n
def goodI (n : Int) : Prop := (Lit.int .i64 n).wf = true
theorem encI : KeyEnc Try.prog 3 intV goodI := ⟨int_keyed Try.underlying3, fun h => by simpa [intV] using h, fun {x} hx => ⟨_, keyOf_int_mk Try.underlying3 hx⟩⟩
theorem encS : KeyEnc Try.prog 9 strV goodS := ⟨string_keyed Try.underlying9, fun h => by simpa [strV] using h, fun {x} hx => ⟨_, WideMaps.keyOf_string_mk Try.underlying9 hx⟩⟩

theorem conv1 (w : World) (g : Nat) (v : Int) (h : w.cell? ⟨g, 0, none⟩ = some (.int .u8 v)) : (convert 23 9 (.slice (some ⟨g, 0, none⟩) 1 1)).run Try.prog w = .ok (.string ⟨#[UInt8.ofNat v.toNat]⟩) w := by
  have := run_convert_bytes_arg (P := Try.prog) w 23 5 Try.underlying23 Try.underlying5 g 0 1 1 [v] rfl (fun i hi => by
    have : i = 0 := by omega
    subst this
    simpa using h) 9 Try.underlying9
  exact this
set_option maxHeartbeats 1000000 in
theorem decimal_any (n : Nat) (hn : n < 1000000000) (w : World) : Calls Try.prog 27 #[.int .i64 n] w fun e w' => e = .returned (.string (digB n)) ∧ Touch [] w w' := by
  induction n using Nat.strongRecOn generalizing w with
  | _ n ih =>
    by_cases h : n < 10
    · have e := digB_small h
      have h10 : (n : Int) < 10 := by omega
      have h0 : (0 : Int) ≤ n := by omega
      rw [e]
      have hc := conv1 (w.alloc (.cells #[.int .u8 (48 + n)] 5)) w.heap.size (48 + n) (by rw [cell_of (heap_alloc_new w _)]; rfl)
      have e2 : (48 + (n : Int)).toNat = 48 + n := by omega
      rw [e2] at hc
      generalize UInt8.ofNat (48 + n) = c at *
      clear ih e h e2
      go_enter Try.func27, Try.ntmps27
      go_wp2
      go_ret
      exact ⟨rfl, (Touch.refl _ _).alloc _⟩
    · have e := digB_big h
      have h10 : ¬ (n : Int) < 10 := by omega
      have h0 : (0 : Int) ≤ n := by omega
      have hm : 0 ≤ (n : Int) % 10 ∧ (n : Int) % 10 ≤ 9 := by omega
      obtain ⟨hm0, hm1⟩ := hm
      obtain ⟨r, hr⟩ : ∃ r : Int, (n : Int) % 10 = r := ⟨_, rfl⟩
      have hdv : (n : Int) / 10 = ((n / 10 : Nat) : Int) := by omega
      have HI := Lib.hid (ih (n / 10) (by omega) (by omega))
      have hsz := digB_size (n / 10)
      have er : UInt8.ofNat (48 + n % 10) = UInt8.ofNat (48 + r).toNat := by congr 1; omega
      rw [e, er]
      have hcv : ∀ (W : World) (g : Nat), W.cell? ⟨g, 0, none⟩ = some (.int .u8 (48 + r)) → (convert 23 9 (.slice (some ⟨g, 0, none⟩) 1 1)).run Try.prog W = .ok (.string ⟨#[UInt8.ofNat (48 + r).toNat]⟩) W := fun W g h => conv1 W g _ h
      generalize UInt8.ofNat (48 + r).toNat = c at *
      generalize hq : n / 10 = q at *
      have hq2 : q < 1000000000 := by omega
      have htm : (n : Int).tmod 10 = r := by rw [IntWalk.rem_in _ _ (by omega)]; exact hr
      have HCA : Hid ((w.drew.alloc (.cells #[.int .u8 (48 + r)] 5)).cell? ⟨w.heap.size, 0, none⟩ = some (.int .u8 (48 + r))) := Lib.hid (by have e : (⟨w.heap.size, 0, none⟩ : Addr) = ⟨w.drew.heap.size, 0, none⟩ := rfl; rw [e, cell_of (heap_alloc_new w.drew _)]; rfl)
      have hr0 : 0 ≤ r := by omega
      have hr9 : r ≤ 9 := by omega
      have hwq : IntKind.i64.wrap (q : Int) = q := IntWalk.i64_in _ (by omega)
      have hw1 : IntKind.i64.wrap (48 + r) = 48 + r := IntWalk.i64_in _ (by omega)
      have hw2 : IntKind.u8.wrap (48 + r) = 48 + r := IntWalk.u8_in _ (by omega)
      have T0 : Touch [] w w.drew := (Touch.refl _ _).drew
      have TD := Lib.hid T0
      clear ih e h er hq T0 hr hm0 hm1 hn
      go_enter Try.func27, Try.ntmps27
      go_wp2_with fail
      go_region_with
        (first | (go_at_call 27; (with_reducible refine (HI.out _).mono ?_); rintro e w5 ⟨rfl, t5⟩; try (have u0 := t5.cell HCA.out (by simp))))
      all_goals
        go_wp2
        go_ret
        exact ⟨rfl, by first | exact (TD.out.trans t5 (by simp)).alloc _ | exact (TD.out.alloc _).trans t5 (by simp)⟩
set_option maxHeartbeats 1000000 in
theorem Digits_any (n : Nat) (hn : n < 1000000000) (w : World) : Calls Try.prog 28 #[.int .i64 n] w fun e w' => e = .returned (.string (digB n)) ∧ Touch [] w w' := by
  induction n using Nat.strongRecOn generalizing w with
  | _ n ih =>
    by_cases h : n < 10
    · have e := digB_small h
      have h10 : (n : Int) < 10 := by omega
      have h0 : (0 : Int) ≤ n := by omega
      rw [e]
      have hc := conv1 (w.alloc (.cells #[.int .u8 (48 + n)] 5)) w.heap.size (48 + n) (by rw [cell_of (heap_alloc_new w _)]; rfl)
      have e2 : (48 + (n : Int)).toNat = 48 + n := by omega
      rw [e2] at hc
      generalize UInt8.ofNat (48 + n) = c at *
      clear ih e h e2
      go_enter Try.func28, Try.ntmps28
      go_wp2
      go_ret
      exact ⟨rfl, (Touch.refl _ _).alloc _⟩
    · have e := digB_big h
      have h10 : ¬ (n : Int) < 10 := by omega
      have h0 : (0 : Int) ≤ n := by omega
      have hm : 0 ≤ (n : Int) % 10 ∧ (n : Int) % 10 ≤ 9 := by omega
      obtain ⟨hm0, hm1⟩ := hm
      obtain ⟨r, hr⟩ : ∃ r : Int, (n : Int) % 10 = r := ⟨_, rfl⟩
      have hdv : (n : Int) / 10 = ((n / 10 : Nat) : Int) := by omega
      have HI := Lib.hid (ih (n / 10) (by omega) (by omega))
      have hsz := digB_size (n / 10)
      have er : UInt8.ofNat (48 + n % 10) = UInt8.ofNat (48 + r).toNat := by congr 1; omega
      rw [e, er]
      have hcv : ∀ (W : World) (g : Nat), W.cell? ⟨g, 0, none⟩ = some (.int .u8 (48 + r)) → (convert 23 9 (.slice (some ⟨g, 0, none⟩) 1 1)).run Try.prog W = .ok (.string ⟨#[UInt8.ofNat (48 + r).toNat]⟩) W := fun W g h => conv1 W g _ h
      generalize UInt8.ofNat (48 + r).toNat = c at *
      generalize hq : n / 10 = q at *
      have hq2 : q < 1000000000 := by omega
      have htm : (n : Int).tmod 10 = r := by rw [IntWalk.rem_in _ _ (by omega)]; exact hr
      have HCA : Hid ((w.drew.alloc (.cells #[.int .u8 (48 + r)] 5)).cell? ⟨w.heap.size, 0, none⟩ = some (.int .u8 (48 + r))) := Lib.hid (by have e : (⟨w.heap.size, 0, none⟩ : Addr) = ⟨w.drew.heap.size, 0, none⟩ := rfl; rw [e, cell_of (heap_alloc_new w.drew _)]; rfl)
      have hr0 : 0 ≤ r := by omega
      have hr9 : r ≤ 9 := by omega
      have hwq : IntKind.i64.wrap (q : Int) = q := IntWalk.i64_in _ (by omega)
      have hw1 : IntKind.i64.wrap (48 + r) = 48 + r := IntWalk.i64_in _ (by omega)
      have hw2 : IntKind.u8.wrap (48 + r) = 48 + r := IntWalk.u8_in _ (by omega)
      have T0 : Touch [] w w.drew := (Touch.refl _ _).drew
      have TD := Lib.hid T0
      clear ih e h er hq T0 hr hm0 hm1 hn
      go_enter Try.func28, Try.ntmps28
      go_wp2_with fail
      go_region_with
        (first | (go_at_call 28; (with_reducible refine (HI.out _).mono ?_); rintro e w5 ⟨rfl, t5⟩; try (have u0 := t5.cell HCA.out (by simp))))
      all_goals
        go_wp2
        go_ret
        exact ⟨rfl, by first | exact (TD.out.trans t5 (by simp)).alloc _ | exact (TD.out.alloc _).trans t5 (by simp)⟩
end Go.Proofs.Ytjmgookpmngmaad
