/- A session in memory; the table of moves. -/
import Derived.Test.YthommlfigdjehaaProg
import Derived.Test.YthommlfigdjehaaMapLit
import Derived.Test.YthommlfigdjehaaSeF
import Derived.WalkKit
import Derived.WalkSpells
import Derived.KernelRfl
import Derived.RowKit3
import Derived.Lib.Hide
import Derived.Outline
import Derived.BigQuiet
import Derived.Deep.QuietTactic
import Derived.Deep.OwnRows
import Derived.StillTailTactics
import Derived.Deep.LoopGhost
import Derived.Deep.RegionHeld3
import Derived.WideKeyArr
namespace Go.Proofs.Ythommlfigdjehaa
open Go Go.RowKit Go.Maps

def intV (n : Int) : Value := .int .i64 n
def goodI (n : Int) : Prop := (Lit.int .i64 n).wf = true
def keyV (x : Int × Int) : Value := .agg #[.int .i64 x.1, .int .i64 x.2]
def goodK (x : Int × Int) : Prop := goodI x.1 ∧ goodI x.2
theorem arrK : WideMaps.ArrKey Try.prog 58 3 2 := ⟨Try.underlying58, by kernel_rfl, by kernel_rfl, by kernel_rfl⟩
theorem lawK : Maps.Keyed Try.prog 58 := Keyed.of_law arrK.law
theorem keyOf_K {x : Int × Int} (h : goodK x) : ∃ kl, keyOf Try.prog 58 (keyV x) = some kl := by
  obtain ⟨h1, h2⟩ := h
  obtain ⟨m, hm⟩ : ∃ m, Try.prog.types.size = m + 1 := ⟨Try.prog.types.size - 1, by have : 0 < Try.prog.types.size := of_decide_eq_true (by kernel_rfl); omega⟩
  have e1 : Try.prog.keyType 58 = true := by kernel_rfl
  have c4 : Try.prog.cellsOf 58 = 2 := by kernel_rfl
  have c2 : Try.prog.cellsOf 3 = 1 := by kernel_rfl
  unfold goodI at h1 h2
  refine ⟨.string (keyBytes [.int .i64 x.1, .int .i64 x.2]), ?_⟩
  unfold keyOf
  rw [Try.underlying58]
  simp only [e1, Value.formed, keyV, Try.underlying58, c4, hm]
  have r2 : List.range 2 = [0, 1] := by decide
  simp [Program.keyLits, Try.underlying58, Try.underlying3, Value.cells, c4, c2, h1, h2, r2]
theorem encK : KeyEnc Try.prog 58 keyV goodK := ⟨lawK, fun {x y} h => by
  unfold keyV at h
  simp only [Value.agg.injEq, Array.mk.injEq, List.cons.injEq, Value.int.injEq, true_and, and_true] at h
  exact Prod.ext h.1 h.2, fun {x} hx => keyOf_K hx⟩

/-- They have the same values at all keys. -/
def Like (l l' : List ((Int × Int) × Value)) : Prop := ∀ y, mget l y = mget l' y
def mvV (x : Int × Int × Int) : Value := .agg #[.int .i64 x.1, .int .i64 x.2.1, .int .i64 x.2.2]
def mvRows : List (Nat × (Int × Int) × (Int × Int × Int)) := [(3, (2, 112), (2, 2, 0)), (6, (2, 0), (9, 7, 10)), (9, (3, 81), (3, 4, 0)), (12, (3, 80), (4, 5, 0)), (15, (3, 83), (5, 3, 0)), (18, (3, 88), (9, 7, 0)), (21, (3, 0), (9, 7, 10)), (24, (5, 81), (3, 4, 0)), (27, (5, 80), (4, 5, 0)), (30, (5, 83), (5, 3, 0)), (33, (5, 88), (9, 7, 0)), (36, (5, 0), (9, 7, 10)), (39, (4, 88), (9, 7, 0)), (42, (4, 0), (6, 4, 0)), (45, (6, 83), (5, 3, 0)), (48, (6, 88), (9, 7, 0)), (51, (6, 0), (7, 6, 0)), (54, (7, 0), (0, 7, 10))]
def mvTbl : List (LitRow (Int × Int)) := [(3, (2, 112), mvV (2, 2, 0)), (6, (2, 0), mvV (9, 7, 10)), (9, (3, 81), mvV (3, 4, 0)), (12, (3, 80), mvV (4, 5, 0)), (15, (3, 83), mvV (5, 3, 0)), (18, (3, 88), mvV (9, 7, 0)), (21, (3, 0), mvV (9, 7, 10)), (24, (5, 81), mvV (3, 4, 0)), (27, (5, 80), mvV (4, 5, 0)), (30, (5, 83), mvV (5, 3, 0)), (33, (5, 88), mvV (9, 7, 0)), (36, (5, 0), mvV (9, 7, 10)), (39, (4, 88), mvV (9, 7, 0)), (42, (4, 0), mvV (6, 4, 0)), (45, (6, 83), mvV (5, 3, 0)), (48, (6, 88), mvV (9, 7, 0)), (51, (6, 0), mvV (7, 6, 0)), (54, (7, 0), mvV (0, 7, 10))]
set_option maxRecDepth 100000 in
set_option maxHeartbeats 4000000 in
theorem moves_any (w : World) : Calls Try.prog 26 #[] w fun e w' => ∃ b, e = .returned (.map (some b)) ∧ w.heap.size ≤ b ∧ ∃ l, MapT w' b keyV goodK l ∧ Like l (litKv mvTbl) ∧ Touch [] w w' := by
  have T1 : Touch [] w ((w.alloc (Obj.cells #[.int .i64 9, .int .i64 7, .int .i64 10] 52)).alloc (Obj.cells #[.int .i64 9, .int .i64 7, .int .i64 0] 52)) := ((Touch.refl _ _).alloc _).alloc _
  have hb1 : ((w.alloc (Obj.cells #[.int .i64 9, .int .i64 7, .int .i64 10] 52)).alloc (Obj.cells #[.int .i64 9, .int .i64 7, .int .i64 0] 52)).heap[w.heap.size]? = some (.cells #[.int .i64 9, .int .i64 7, .int .i64 10] 52 (0, 0)) := (RowKit.Below.heap_alloc _ _ _ (by simp)).trans (heap_alloc_new w _)
  have hb2 : ((w.alloc (Obj.cells #[.int .i64 9, .int .i64 7, .int .i64 10] 52)).alloc (Obj.cells #[.int .i64 9, .int .i64 7, .int .i64 0] 52)).heap[w.heap.size + 1]? = some (.cells #[.int .i64 9, .int .i64 7, .int .i64 0] 52 (0, 0)) := by
    have := heap_alloc_new (w.alloc (Obj.cells #[.int .i64 9, .int .i64 7, .int .i64 10] 52)) (Obj.cells #[.int .i64 9, .int .i64 7, .int .i64 0] 52)
    simpa using this
  have hlt1 := heap_lt hb1
  have hlt2 := heap_lt hb2
  have H := Lib.hid (And.intro T1 (And.intro hb1 (And.intro hb2 (And.intro hlt1 hlt2))))
  clear T1 hb1 hb2 hlt1 hlt2
  go_enter Try.func26, Try.ntmps26
  go_wp2_with fail
  generalize (w.alloc (Obj.cells #[.int .i64 9, .int .i64 7, .int .i64 10] 52)).alloc (Obj.cells #[.int .i64 9, .int .i64 7, .int .i64 0] 52) = W at *
  obtain ⟨g1, hg1⟩ : ∃ g, g = w.heap.size := ⟨_, rfl⟩
  obtain ⟨g2, hg2⟩ : ∃ g, g = w.heap.size + 1 := ⟨_, rfl⟩
  have HS := Lib.hid (And.intro hg1 hg2)
  rw [← hg2, ← hg1] at H
  rw [← hg2, ← hg1]
  clear hg1 hg2
  refine wp_region_held (S := fun w' => w'.cell? ⟨g1, 0, none⟩ = some (.int .i64 9) ∧ w'.cell? ⟨g1, 1, none⟩ = some (.int .i64 7) ∧ w'.cell? ⟨g1, 2, none⟩ = some (.int .i64 10) ∧ w'.cell? ⟨g2, 0, none⟩ = some (.int .i64 9) ∧ w'.cell? ⟨g2, 1, none⟩ = some (.int .i64 7) ∧ w'.cell? ⟨g2, 2, none⟩ = some (.int .i64 0)) (by kernel_rfl) ?_
  have hHeld : W.drew.cell? ⟨g1, 0, none⟩ = some (.int .i64 9) ∧ W.drew.cell? ⟨g1, 1, none⟩ = some (.int .i64 7) ∧ W.drew.cell? ⟨g1, 2, none⟩ = some (.int .i64 10) ∧ W.drew.cell? ⟨g2, 0, none⟩ = some (.int .i64 9) ∧ W.drew.cell? ⟨g2, 1, none⟩ = some (.int .i64 7) ∧ W.drew.cell? ⟨g2, 2, none⟩ = some (.int .i64 0) := by
    have e1 : W.drew.heap[g1]? = _ := H.out.2.1
    have e2 : W.drew.heap[g2]? = _ := H.out.2.2.1
    have h1 := cell_of e1
    have h2 := cell_of e2
    exact ⟨by rw [h1]; rfl, by rw [h1]; rfl, by rw [h1]; rfl, by rw [h2]; rfl, by rw [h2]; rfl, by rw [h2]; rfl⟩
  change wpAnyH _ _ _ _ _ 57 _ _ W.drew
  refine wpAnyH_take (i := 1) (v := .agg #[.int .i64 2, .int .i64 112]) rfl (by kernel_rfl) (by kernel_rfl) (by kernel_rfl) (fun _ _ _ h => h) (Or.inl ⟨by rfl, by intro w hSw; (try dsimp only at hSw); go_simp⟩) (by assumption) ?_
  change wpAnyH _ _ _ _ _ _ _ (Act.put _ (some 6) _) _
  refine wpAnyH_take (i := 2) (v := .agg #[.int .i64 2, .int .i64 2, .int .i64 0]) rfl (by kernel_rfl) (by kernel_rfl) (by kernel_rfl) (fun _ _ _ h => h) (Or.inl ⟨by rfl, by intro w hSw; (try dsimp only at hSw); go_simp⟩) (by assumption) ?_
  change wpAnyH _ _ _ _ _ _ _ (Act.put _ (some 7) _) _
  refine wpAnyH_take (i := 4) (v := .agg #[.int .i64 2, .int .i64 0]) rfl (by kernel_rfl) (by kernel_rfl) (by kernel_rfl) (fun _ _ _ h => h) (Or.inl ⟨by rfl, by intro w hSw; (try dsimp only at hSw); go_simp⟩) (by assumption) ?_
  change wpAnyH _ _ _ _ _ _ _ (Act.put _ (some 8) _) _
  refine wpAnyH_take (i := 5) (v := .agg #[.int .i64 9, .int .i64 7, .int .i64 10]) rfl (by kernel_rfl) (by kernel_rfl) (by kernel_rfl) (fun _ _ _ h => h) (Or.inl ⟨by rfl, by intro w hSw; (try dsimp only at hSw); go_simp⟩) (by assumption) ?_
  change wpAnyH _ _ _ _ _ _ _ (Act.put _ (some 9) _) _
  refine wpAnyH_take (i := 7) (v := .agg #[.int .i64 3, .int .i64 81]) rfl (by kernel_rfl) (by kernel_rfl) (by kernel_rfl) (fun _ _ _ h => h) (Or.inl ⟨by rfl, by intro w hSw; (try dsimp only at hSw); go_simp⟩) (by assumption) ?_
  change wpAnyH _ _ _ _ _ _ _ (Act.put _ (some 10) _) _
  refine wpAnyH_take (i := 8) (v := .agg #[.int .i64 3, .int .i64 4, .int .i64 0]) rfl (by kernel_rfl) (by kernel_rfl) (by kernel_rfl) (fun _ _ _ h => h) (Or.inl ⟨by rfl, by intro w hSw; (try dsimp only at hSw); go_simp⟩) (by assumption) ?_
  change wpAnyH _ _ _ _ _ _ _ (Act.put _ (some 11) _) _
  refine wpAnyH_take (i := 10) (v := .agg #[.int .i64 3, .int .i64 80]) rfl (by kernel_rfl) (by kernel_rfl) (by kernel_rfl) (fun _ _ _ h => h) (Or.inl ⟨by rfl, by intro w hSw; (try dsimp only at hSw); go_simp⟩) (by assumption) ?_
  change wpAnyH _ _ _ _ _ _ _ (Act.put _ (some 12) _) _
  refine wpAnyH_take (i := 11) (v := .agg #[.int .i64 4, .int .i64 5, .int .i64 0]) rfl (by kernel_rfl) (by kernel_rfl) (by kernel_rfl) (fun _ _ _ h => h) (Or.inl ⟨by rfl, by intro w hSw; (try dsimp only at hSw); go_simp⟩) (by assumption) ?_
  change wpAnyH _ _ _ _ _ _ _ (Act.put _ (some 13) _) _
  refine wpAnyH_take (i := 13) (v := .agg #[.int .i64 3, .int .i64 83]) rfl (by kernel_rfl) (by kernel_rfl) (by kernel_rfl) (fun _ _ _ h => h) (Or.inl ⟨by rfl, by intro w hSw; (try dsimp only at hSw); go_simp⟩) (by assumption) ?_
  change wpAnyH _ _ _ _ _ _ _ (Act.put _ (some 14) _) _
  refine wpAnyH_take (i := 14) (v := .agg #[.int .i64 5, .int .i64 3, .int .i64 0]) rfl (by kernel_rfl) (by kernel_rfl) (by kernel_rfl) (fun _ _ _ h => h) (Or.inl ⟨by rfl, by intro w hSw; (try dsimp only at hSw); go_simp⟩) (by assumption) ?_
  change wpAnyH _ _ _ _ _ _ _ (Act.put _ (some 15) _) _
  refine wpAnyH_take (i := 16) (v := .agg #[.int .i64 3, .int .i64 88]) rfl (by kernel_rfl) (by kernel_rfl) (by kernel_rfl) (fun _ _ _ h => h) (Or.inl ⟨by rfl, by intro w hSw; (try dsimp only at hSw); go_simp⟩) (by assumption) ?_
  change wpAnyH _ _ _ _ _ _ _ (Act.put _ (some 16) _) _
  refine wpAnyH_take (i := 17) (v := .agg #[.int .i64 9, .int .i64 7, .int .i64 0]) rfl (by kernel_rfl) (by kernel_rfl) (by kernel_rfl) (fun _ _ _ h => h) (Or.inl ⟨by rfl, by intro w hSw; (try dsimp only at hSw); go_simp⟩) (by assumption) ?_
  change wpAnyH _ _ _ _ _ _ _ (Act.put _ (some 17) _) _
  refine wpAnyH_take (i := 19) (v := .agg #[.int .i64 3, .int .i64 0]) rfl (by kernel_rfl) (by kernel_rfl) (by kernel_rfl) (fun _ _ _ h => h) (Or.inl ⟨by rfl, by intro w hSw; (try dsimp only at hSw); go_simp⟩) (by assumption) ?_
  change wpAnyH _ _ _ _ _ _ _ (Act.put _ (some 18) _) _
  refine wpAnyH_take (i := 20) (v := .agg #[.int .i64 9, .int .i64 7, .int .i64 10]) rfl (by kernel_rfl) (by kernel_rfl) (by kernel_rfl) (fun _ _ _ h => h) (Or.inl ⟨by rfl, by intro w hSw; (try dsimp only at hSw); go_simp⟩) (by assumption) ?_
  change wpAnyH _ _ _ _ _ _ _ (Act.put _ (some 19) _) _
  refine wpAnyH_take (i := 22) (v := .agg #[.int .i64 5, .int .i64 81]) rfl (by kernel_rfl) (by kernel_rfl) (by kernel_rfl) (fun _ _ _ h => h) (Or.inl ⟨by rfl, by intro w hSw; (try dsimp only at hSw); go_simp⟩) (by assumption) ?_
  change wpAnyH _ _ _ _ _ _ _ (Act.put _ (some 20) _) _
  refine wpAnyH_take (i := 23) (v := .agg #[.int .i64 3, .int .i64 4, .int .i64 0]) rfl (by kernel_rfl) (by kernel_rfl) (by kernel_rfl) (fun _ _ _ h => h) (Or.inl ⟨by rfl, by intro w hSw; (try dsimp only at hSw); go_simp⟩) (by assumption) ?_
  change wpAnyH _ _ _ _ _ _ _ (Act.put _ (some 21) _) _
  refine wpAnyH_take (i := 25) (v := .agg #[.int .i64 5, .int .i64 80]) rfl (by kernel_rfl) (by kernel_rfl) (by kernel_rfl) (fun _ _ _ h => h) (Or.inl ⟨by rfl, by intro w hSw; (try dsimp only at hSw); go_simp⟩) (by assumption) ?_
  change wpAnyH _ _ _ _ _ _ _ (Act.put _ (some 22) _) _
  refine wpAnyH_take (i := 26) (v := .agg #[.int .i64 4, .int .i64 5, .int .i64 0]) rfl (by kernel_rfl) (by kernel_rfl) (by kernel_rfl) (fun _ _ _ h => h) (Or.inl ⟨by rfl, by intro w hSw; (try dsimp only at hSw); go_simp⟩) (by assumption) ?_
  change wpAnyH _ _ _ _ _ _ _ (Act.put _ (some 23) _) _
  refine wpAnyH_take (i := 28) (v := .agg #[.int .i64 5, .int .i64 83]) rfl (by kernel_rfl) (by kernel_rfl) (by kernel_rfl) (fun _ _ _ h => h) (Or.inl ⟨by rfl, by intro w hSw; (try dsimp only at hSw); go_simp⟩) (by assumption) ?_
  change wpAnyH _ _ _ _ _ _ _ (Act.put _ (some 24) _) _
  refine wpAnyH_take (i := 29) (v := .agg #[.int .i64 5, .int .i64 3, .int .i64 0]) rfl (by kernel_rfl) (by kernel_rfl) (by kernel_rfl) (fun _ _ _ h => h) (Or.inl ⟨by rfl, by intro w hSw; (try dsimp only at hSw); go_simp⟩) (by assumption) ?_
  change wpAnyH _ _ _ _ _ _ _ (Act.put _ (some 25) _) _
  refine wpAnyH_take (i := 31) (v := .agg #[.int .i64 5, .int .i64 88]) rfl (by kernel_rfl) (by kernel_rfl) (by kernel_rfl) (fun _ _ _ h => h) (Or.inl ⟨by rfl, by intro w hSw; (try dsimp only at hSw); go_simp⟩) (by assumption) ?_
  change wpAnyH _ _ _ _ _ _ _ (Act.put _ (some 26) _) _
  refine wpAnyH_take (i := 32) (v := .agg #[.int .i64 9, .int .i64 7, .int .i64 0]) rfl (by kernel_rfl) (by kernel_rfl) (by kernel_rfl) (fun _ _ _ h => h) (Or.inl ⟨by rfl, by intro w hSw; (try dsimp only at hSw); go_simp⟩) (by assumption) ?_
  change wpAnyH _ _ _ _ _ _ _ (Act.put _ (some 27) _) _
  refine wpAnyH_take (i := 34) (v := .agg #[.int .i64 5, .int .i64 0]) rfl (by kernel_rfl) (by kernel_rfl) (by kernel_rfl) (fun _ _ _ h => h) (Or.inl ⟨by rfl, by intro w hSw; (try dsimp only at hSw); go_simp⟩) (by assumption) ?_
  change wpAnyH _ _ _ _ _ _ _ (Act.put _ (some 28) _) _
  refine wpAnyH_take (i := 35) (v := .agg #[.int .i64 9, .int .i64 7, .int .i64 10]) rfl (by kernel_rfl) (by kernel_rfl) (by kernel_rfl) (fun _ _ _ h => h) (Or.inl ⟨by rfl, by intro w hSw; (try dsimp only at hSw); go_simp⟩) (by assumption) ?_
  change wpAnyH _ _ _ _ _ _ _ (Act.put _ (some 29) _) _
  refine wpAnyH_take (i := 37) (v := .agg #[.int .i64 4, .int .i64 88]) rfl (by kernel_rfl) (by kernel_rfl) (by kernel_rfl) (fun _ _ _ h => h) (Or.inl ⟨by rfl, by intro w hSw; (try dsimp only at hSw); go_simp⟩) (by assumption) ?_
  change wpAnyH _ _ _ _ _ _ _ (Act.put _ (some 30) _) _
  refine wpAnyH_take (i := 38) (v := .agg #[.int .i64 9, .int .i64 7, .int .i64 0]) rfl (by kernel_rfl) (by kernel_rfl) (by kernel_rfl) (fun _ _ _ h => h) (Or.inl ⟨by rfl, by intro w hSw; (try dsimp only at hSw); go_simp⟩) (by assumption) ?_
  change wpAnyH _ _ _ _ _ _ _ (Act.put _ (some 31) _) _
  refine wpAnyH_take (i := 40) (v := .agg #[.int .i64 4, .int .i64 0]) rfl (by kernel_rfl) (by kernel_rfl) (by kernel_rfl) (fun _ _ _ h => h) (Or.inl ⟨by rfl, by intro w hSw; (try dsimp only at hSw); go_simp⟩) (by assumption) ?_
  change wpAnyH _ _ _ _ _ _ _ (Act.put _ (some 32) _) _
  refine wpAnyH_take (i := 41) (v := .agg #[.int .i64 6, .int .i64 4, .int .i64 0]) rfl (by kernel_rfl) (by kernel_rfl) (by kernel_rfl) (fun _ _ _ h => h) (Or.inl ⟨by rfl, by intro w hSw; (try dsimp only at hSw); go_simp⟩) (by assumption) ?_
  change wpAnyH _ _ _ _ _ _ _ (Act.put _ (some 33) _) _
  refine wpAnyH_take (i := 43) (v := .agg #[.int .i64 6, .int .i64 83]) rfl (by kernel_rfl) (by kernel_rfl) (by kernel_rfl) (fun _ _ _ h => h) (Or.inl ⟨by rfl, by intro w hSw; (try dsimp only at hSw); go_simp⟩) (by assumption) ?_
  change wpAnyH _ _ _ _ _ _ _ (Act.put _ (some 34) _) _
  refine wpAnyH_take (i := 44) (v := .agg #[.int .i64 5, .int .i64 3, .int .i64 0]) rfl (by kernel_rfl) (by kernel_rfl) (by kernel_rfl) (fun _ _ _ h => h) (Or.inl ⟨by rfl, by intro w hSw; (try dsimp only at hSw); go_simp⟩) (by assumption) ?_
  change wpAnyH _ _ _ _ _ _ _ (Act.put _ (some 35) _) _
  refine wpAnyH_take (i := 46) (v := .agg #[.int .i64 6, .int .i64 88]) rfl (by kernel_rfl) (by kernel_rfl) (by kernel_rfl) (fun _ _ _ h => h) (Or.inl ⟨by rfl, by intro w hSw; (try dsimp only at hSw); go_simp⟩) (by assumption) ?_
  change wpAnyH _ _ _ _ _ _ _ (Act.put _ (some 36) _) _
  refine wpAnyH_take (i := 47) (v := .agg #[.int .i64 9, .int .i64 7, .int .i64 0]) rfl (by kernel_rfl) (by kernel_rfl) (by kernel_rfl) (fun _ _ _ h => h) (Or.inl ⟨by rfl, by intro w hSw; (try dsimp only at hSw); go_simp⟩) (by assumption) ?_
  change wpAnyH _ _ _ _ _ _ _ (Act.put _ (some 37) _) _
  refine wpAnyH_take (i := 49) (v := .agg #[.int .i64 6, .int .i64 0]) rfl (by kernel_rfl) (by kernel_rfl) (by kernel_rfl) (fun _ _ _ h => h) (Or.inl ⟨by rfl, by intro w hSw; (try dsimp only at hSw); go_simp⟩) (by assumption) ?_
  change wpAnyH _ _ _ _ _ _ _ (Act.put _ (some 38) _) _
  refine wpAnyH_take (i := 50) (v := .agg #[.int .i64 7, .int .i64 6, .int .i64 0]) rfl (by kernel_rfl) (by kernel_rfl) (by kernel_rfl) (fun _ _ _ h => h) (Or.inl ⟨by rfl, by intro w hSw; (try dsimp only at hSw); go_simp⟩) (by assumption) ?_
  change wpAnyH _ _ _ _ _ _ _ (Act.put _ (some 39) _) _
  refine wpAnyH_take (i := 52) (v := .agg #[.int .i64 7, .int .i64 0]) rfl (by kernel_rfl) (by kernel_rfl) (by kernel_rfl) (fun _ _ _ h => h) (Or.inl ⟨by rfl, by intro w hSw; (try dsimp only at hSw); go_simp⟩) (by assumption) ?_
  change wpAnyH _ _ _ _ _ _ _ (Act.put _ (some 40) _) _
  refine wpAnyH_take (i := 53) (v := .agg #[.int .i64 0, .int .i64 7, .int .i64 10]) rfl (by kernel_rfl) (by kernel_rfl) (by kernel_rfl) (fun _ _ _ h => h) (Or.inl ⟨by rfl, by intro w hSw; (try dsimp only at hSw); go_simp⟩) (by assumption) ?_
  change wpAnyH _ _ _ _ _ _ _ (Act.put _ (some 41) _) _
  simp only [Act.put, List.setIfInBounds_toArray, List.set_cons_zero, List.set_cons_succ]
  refine wpAnyH_ready (rs := [0]) (by kernel_rfl) (by simp) ?_
  refine AllReadyH.cons rfl (fun K hK => ?_) ?_
  · go_simp
    change K _ (W.drew.alloc (.map #[] 0))
    have ta : Touch [] W.drew (W.drew.alloc (.map #[] 0)) := (Touch.refl _ _).alloc _
    have hS1 := hHeld
    refine hK.out _ _ ?_ (fun hHeld => ?_)
    · obtain ⟨c1, c2, c3, c4, c5, c6⟩ := hHeld
      exact ⟨ta.cell c1 (by simp), ta.cell c2 (by simp), ta.cell c3 (by simp), ta.cell c4 (by simp), ta.cell c5 (by simp), ta.cell c6 (by simp)⟩
    have hM : MapT (W.drew.alloc (.map #[] 0)) W.drew.heap.size keyV goodK [] := MapT.made _
    have hne1 : g1 ≠ W.drew.heap.size := Nat.ne_of_lt H.out.2.2.2.1
    have hne2 : g2 ≠ W.drew.heap.size := Nat.ne_of_lt H.out.2.2.2.2
    have hlow : w.heap.size ≤ W.drew.heap.size := H.out.1.size
    have HT : Hid (Touch [] w (W.drew.alloc (.map #[] 0))) := Lib.hid (H.out.1.drew.trans ta (by simp))
    clear hS1 ta
    change wpAnyH _ _ _ _ _ (mvTbl.length + 2) _ _ _
    generalize W.drew.alloc (.map #[] 0) = W1 at *
    generalize W.drew.heap.size = b at *
    refine wpAnyH_inserts encK Try.underlying54 mvTbl _ _ (by decide) (by decide) (by simp only [mvTbl, List.forall_mem_cons]; refine ⟨?_, ?_, ?_, ?_, ?_, ?_, ?_, ?_, ?_, ?_, ?_, ?_, ?_, ?_, ?_, ?_, ?_, ?_, ?_⟩; (all_goals first | exact ⟨rfl, rfl⟩ | (intro x hx; cases hx))) (by decide) ?_ (fun v v' hv t => ⟨t.cell hv.1 (by simpa using hne1), t.cell hv.2.1 (by simpa using hne1), t.cell hv.2.2.1 (by simpa using hne1), t.cell hv.2.2.2.1 (by simpa using hne2), t.cell hv.2.2.2.2.1 (by simpa using hne2), t.cell hv.2.2.2.2.2 (by simpa using hne2)⟩) (by kernel_rfl) (by kernel_rfl) _ hHeld hM 2 ?_
    · simp only [mvTbl, List.forall_mem_cons]
      refine ⟨?_, ?_, ?_, ?_, ?_, ?_, ?_, ?_, ?_, ?_, ?_, ?_, ?_, ?_, ?_, ?_, ?_, ?_, ?_⟩
      all_goals first | exact ⟨_, _, _, _, _, _, rfl, rfl, rfl, rfl⟩ | (intro x hx; cases hx)
    · intro w2 l hM2 hl hT2 hS2
      refine wpAnyH_take (i := 55) (v := .map (some b)) rfl (by kernel_rfl) (by kernel_rfl) (by kernel_rfl) (fun _ _ _ h => h) (Or.inl ⟨by rfl, by intro w hSw; (try dsimp only at hSw); go_simp⟩) hS2 ?_
      change wpAnyH _ _ _ _ _ _ _ (Act.put _ (some 42) _) _
      refine wpAnyH_take (i := 56) (v := .map (some b)) rfl (by kernel_rfl) (by kernel_rfl) (by kernel_rfl) (fun _ _ _ h => h) (Or.inl ⟨by rfl, by intro w hSw; (try dsimp only at hSw); go_simp⟩) hS2 ?_
      change wpAnyH _ _ _ _ _ _ _ (Act.put _ (some 0) _) _
      refine wpAnyH_done (by kernel_rfl) ?_ _
      have hl' : Like l (litKv mvTbl) := hl
      have HF := Lib.hid (And.intro hM2 (And.intro hl' (HT.out.trans hT2 (by simp [hlow]))))
      have HL := Lib.hid hlow
      clear hM2 hl hl' hT2 hS2 hM hHeld hlow hne1 hne2 HT
      simp only [Act.put, List.setIfInBounds_toArray, List.set_cons_zero, List.set_cons_succ]
      go_wp2
      go_ret
      exact ⟨b, rfl, HL.out, l, HF.out.1, HF.out.2.1, HF.out.2.2⟩
  · exact AllReadyH.nil
end Go.Proofs.Ythommlfigdjehaa
