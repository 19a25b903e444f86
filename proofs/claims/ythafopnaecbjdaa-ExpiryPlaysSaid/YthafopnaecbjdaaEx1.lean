/- A queue in memory: its block, its heap of items, and where each key stands in it. -/
import Derived.Test.YthafopnaecbjdaaExP
import Derived.Test.YthafopnaecbjdaaProg
import Derived.Test.YthafopnaecbjdaaQu
import Derived.Test.YthafopnaecbjdaaMapOps
import Derived.Test.YthafopnaecbjdaaWWords
import Derived.Test.YthafopnaecbjdaaWLast
import Derived.Lib.Hide
import Derived.Below
import Derived.Tactics
import Derived.WalkKit
import Derived.WalkSpells
import Derived.BigQuiet
import Derived.RowKit
import Derived.RowKit3
import Derived.Deep.LoopGhost
import Derived.KernelRfl
import Derived.StringKeys
import Derived.Laws.LoneSync
namespace Go.Proofs.Ythafopnaecbjdaa
open Go Go.RowKit Go.Maps Go.Proofs.YthafopnaecbjdaaW.PrintWords Go.Proofs.YthafopnaecbjdaaW.PrintLast

def strV (s : ByteArray) : Value := .string s
def goodS (s : ByteArray) : Prop := s.size ≤ maxLen
theorem encS : KeyEnc Try.prog 9 strV goodS := ⟨string_keyed Try.underlying9, fun h => by simpa [strV] using h, fun {x} hx => ⟨_, WideMaps.keyOf_string_mk Try.underlying9 hx⟩⟩
/-- The heap's row: none, or a block of its own. -/
def RowI (w : World) (hv : Value) (H : List It) : Prop :=
  (hv = .slice none 0 0 ∧ H = []) ∨ ∃ (hb cp : Nat) (C : Array Value), hv = .slice (some ⟨hb, 0, none⟩) H.length cp ∧ w.heap[hb]? = some (.cells C 52 (0, 0)) ∧ C.size = cp * 3 ∧ H.length ≤ cp ∧ cp ≤ maxLen ∧
    ∀ (j : Nat) (x : It), H[j]? = some x → C[j * 3]? = some (.string x.key) ∧ C[j * 3 + 1]? = some (.int .i64 x.at_) ∧ C[j * 3 + 2]? = some (.int .i64 x.num)
/-- The places: each key's, and no other's. -/
structure Places (P : List (ByteArray × Value)) (H : List It) : Prop where
  nodup : (H.map (·.key)).Nodup
  hit : ∀ (j : Nat) (x : It), H[j]? = some x → mget P x.key = some (.int .i64 j)
  miss : ∀ k : ByteArray, (∀ x ∈ H, x.key ≠ k) → mget P k = none
structure QA (w : World) (p mb : Nat) (hv : Value) (H : List It) (P : List (ByteArray × Value)) (sets : Int) : Prop where
  blk : w.heap[p]? = some (.cells #[hv, .map (some mb), .int .i64 sets] 49 (0, 0))
  row : RowI w hv H
  map : MapT w mb strV goodS P
  keys : ∀ x ∈ H, goodS x.key
theorem RowI.touch {w w' : World} {hv : Value} {H : List It} {S : List Nat} (h : RowI w hv H) (t : Touch S w w') (hs : ∀ i, hv.ownBlock = some i → i ∉ S) : RowI w' hv H := by
  rcases h with h | ⟨hb, cp, C, rfl, hh, r⟩
  · exact .inl h
  · exact .inr ⟨hb, cp, C, rfl, (t.block hb (heap_lt hh) (hs hb (by simp [Value.ownBlock]))).trans hh, r⟩
theorem neqNilM (b : Nat) (W : World) : (binOp .neq 47 (.map (some b)) (.map none)).run Try.prog W = .ok (.bool true) W :=
  run_neq_map_nil W 47 9 3 (some b) Try.underlying47
theorem neqNilM' (W : World) : (binOp .neq 47 (.map none) (.map none)).run Try.prog W = .ok (.bool false) W :=
  run_neq_map_nil W 47 9 3 none Try.underlying47
section
variable {w w' : World} {p mb : Nat} {hv : Value} {H : List It} {P : List (ByteArray × Value)} {sets : Int}
theorem QA.below (h : QA w p mb hv H P sets) (k : Below w.heap.size w w') : QA w' p mb hv H P sets :=
  ⟨(k.block p (heap_lt h.blk)).trans h.blk, h.row.touch (Touch.of_below k) (by simp), h.map.of_block (k.block mb h.map.lt), h.keys⟩
theorem QA.cells (h : QA w p mb hv H P sets) : w.cell? ⟨p, 0, none⟩ = some hv ∧ w.cell? ⟨p, 1, none⟩ = some (.map (some mb)) ∧ w.cell? ⟨p, 2, none⟩ = some (.int .i64 sets) ∧ w.frozen? ⟨p, 0, none⟩ = false ∧ w.frozen? ⟨p, 2, none⟩ = false :=
  ⟨by rw [cell_of h.blk]; rfl, by rw [cell_of h.blk]; rfl, by rw [cell_of h.blk]; rfl, frozen_of h.blk 0, frozen_of h.blk 2⟩
theorem QA.slice (h : QA w p mb hv H P sets) : ∃ A cp, hv = .slice A H.length cp := by
  rcases h.row with ⟨e, e2⟩ | ⟨hb, cp, C, e, _⟩
  · subst e2; exact ⟨none, 0, e⟩
  · exact ⟨_, _, e⟩
theorem QA.at (h : QA w p mb hv H P sets) (j : Nat) (x : It) (hj : H[j]? = some x) : ∃ hb cp, hv = .slice (some ⟨hb, 0, none⟩) H.length cp ∧ w.cell? ⟨hb, j * 3, none⟩ = some (.string x.key) ∧ w.cell? ⟨hb, j * 3 + 1, none⟩ = some (.int .i64 x.at_) ∧ w.cell? ⟨hb, j * 3 + 2, none⟩ = some (.int .i64 x.num) := by
  rcases h.row with ⟨_, e2⟩ | ⟨hb, cp, C, e, hh, _, _, _, hx⟩
  · subst e2; simp at hj
  · obtain ⟨a, b, c⟩ := hx j x hj
    exact ⟨hb, cp, e, by rw [cell_of hh]; exact a, by rw [cell_of hh]; exact b, by rw [cell_of hh]; exact c⟩
theorem ethere_any (h : QA w p mb hv H P sets) : Calls Try.prog 24 #[.pointer (some ⟨p, 0, none⟩)] w fun e w' => e = .returned (.bool true) ∧ w' = w := by
  obtain ⟨_, c1, _⟩ := h.cells
  have e1 := neqNilM mb
  clear h
  go_enter Try.func24, Try.ntmps24
  go_wp2
  go_ret
  exact ⟨rfl, rfl⟩
theorem ethere_nil (w : World) : Calls Try.prog 24 #[.pointer none] w fun e w' => e = .returned (.bool false) ∧ w' = w := by
  go_enter Try.func24, Try.ntmps24
  go_wp2
  go_ret
  exact ⟨rfl, rfl⟩
/-- One that no New gave. -/
theorem ethere_zero {w : World} {p : Nat} {a : Value} {s : Value} (h : w.heap[p]? = some (.cells #[a, .map none, s] 49 (0, 0))) : Calls Try.prog 24 #[.pointer (some ⟨p, 0, none⟩)] w fun e w' => e = .returned (.bool false) ∧ w' = w := by
  have c1 : w.cell? ⟨p, 1, none⟩ = some (.map none) := by rw [cell_of h]; rfl
  have e1 := neqNilM'
  clear h
  go_enter Try.func24, Try.ntmps24
  go_wp2
  go_ret
  exact ⟨rfl, rfl⟩
end
end Go.Proofs.Ythafopnaecbjdaa
