/- A flight.Board in memory, and what it stands for. -/
import Derived.Test.YtjmgookpmngmaabProg
import Derived.Test.YtjmgookpmngmaabMapT
import Derived.Test.YtjmgookpmngmaabHeap
import Derived.Test.YtjmgookpmngmaabMapOps
import Derived.WalkKit
import Derived.WalkSpells
import Derived.KernelRfl
import Derived.RowKit3
import Derived.Lib.Hide
import Derived.Outline
import Derived.BigQuiet
import Derived.Deep.QuietTactic
import Derived.Deep.OwnRows
import Derived.StillTailTactics
import Derived.Deep.LoopGhost
import Derived.Deep.RegionHeld3
import Derived.Maps.AppendAt
import Derived.DeepKeys4
namespace Go.Proofs.Ytjmgookpmngmaab
open Go Go.RowKit Go.Maps

structure Key where
  db : ByteArray
  role : ByteArray
  format : Int
  norm : ByteArray
  deriving DecidableEq

def keyV (k : Key) : Value := .agg #[.string k.db, .string k.role, .int .i64 k.format, .string k.norm]
def goodK (k : Key) : Prop := k.db.size ≤ maxLen ∧ k.role.size ≤ maxLen ∧ (Lit.int .i64 k.format).wf = true ∧ k.norm.size ≤ maxLen
def intV (n : Int) : Value := .int .i64 n
def goodI (n : Int) : Prop := (Lit.int .i64 n).wf = true

theorem laidOut_ : laidOutB Try.prog = true := by kernel_rfl
theorem lawI : Keyed Try.prog 3 := int_keyed Try.underlying3
theorem lawK : Keyed Try.prog 28 := Keyed.of_law (deep_law_laid (m := 5) laidOut_ (by decide) (of_decide_eq_true (by kernel_rfl)) (by kernel_rfl) (by rw [Try.underlying28]))
theorem encI : KeyEnc Try.prog 3 intV goodI := ⟨lawI, fun h => by simpa [intV] using h, fun {x} hx => ⟨_, keyOf_int_mk Try.underlying3 hx⟩⟩
theorem encK : KeyEnc Try.prog 28 keyV goodK := by
  refine ⟨lawK, fun {x y} h => ?_, fun {x} hx => ?_⟩
  · cases x; cases y; simpa [keyV] using h
  · obtain ⟨h1, h2, h3, h4⟩ := hx
    obtain ⟨m, hm⟩ : ∃ m, Try.prog.types.size = m + 1 := ⟨Try.prog.types.size - 1, by have : 0 < Try.prog.types.size := of_decide_eq_true (by kernel_rfl); omega⟩
    have e1 : Try.prog.keyType 28 = true := by kernel_rfl
    have c4 : Try.prog.cellsOf 28 = 4 := by kernel_rfl
    have c1 : Try.prog.cellsOf 9 = 1 := by kernel_rfl
    have c2 : Try.prog.cellsOf 3 = 1 := by kernel_rfl
    refine ⟨.string (keyBytes [.string x.db.data.toList, .string x.role.data.toList, .int .i64 x.format, .string x.norm.data.toList]), ?_⟩
    unfold keyOf
    rw [Try.underlying28]
    simp only [e1, Value.formed, keyV, Try.underlying28, c4, hm]
    simp [Program.keyLits, Try.underlying28, Try.underlying9, Try.underlying3, Value.cells, c4, c1, c2, h1, h2, h3, h4]

/-! ### a board -/
structure BM where
  fl : List (Key × List Int)
  cl : List (Int × Key)

def intsV (l : List Int) : List Value := l.map (Value.int .i64)
def rowBlocks (rs : List (Key × (Value × List Int))) : List Nat := rs.filterMap fun r => r.2.1.ownBlock

/-- The block pb is a board that stands for M; F: its blocks. -/
def BoardR (w : World) (pb : Nat) (F : List Nat) (M : BM) : Prop :=
  ∃ bf bc rs, w.heap[pb]? = some (.cells #[.map (some bf), .map (some bc)] 64 (0, 0)) ∧
    MapT w bf keyV goodK (rs.map fun r => (r.1, r.2.1)) ∧ MapT w bc intV goodI (M.cl.map fun c => (c.1, keyV c.2)) ∧
    M.fl = rs.map (fun r => (r.1, r.2.2)) ∧ (∀ r ∈ rs, w.ownsRow 0 3 1 r.2.1 r.2.2.length (intsV r.2.2)) ∧
    F = pb :: bf :: bc :: rowBlocks rs ∧ F.Nodup

theorem mem_rowBlocks {rs : List (Key × (Value × List Int))} {i : Nat} : i ∈ rowBlocks rs ↔ ∃ r ∈ rs, r.2.1.ownBlock = some i := by
  simp [rowBlocks, List.mem_filterMap]

theorem BoardR.lt {w : World} {pb : Nat} {F : List Nat} {M : BM} (h : BoardR w pb F M) : ∀ i ∈ F, i < w.heap.size := by
  obtain ⟨bf, bc, rs, h1, h2, h3, _, h5, rfl, _⟩ := h
  intro i hi
  simp only [List.mem_cons, mem_rowBlocks] at hi
  rcases hi with rfl | rfl | rfl | ⟨r, hr, hb⟩
  · exact heap_lt h1
  · exact h2.lt
  · exact h3.lt
  · exact ((h5 r hr).lt i hb).2
theorem own_touch {w w' : World} {S : List Nat} {base : Nat} {e : TypeId} {size : Nat} {v : Value} {n : Nat} {xs : List Value} (h : w.ownsRow base e size v n xs) (ht : Touch S w w') (hs : ∀ i, v.ownBlock = some i → i ∉ S) : w'.ownsRow base e size v n xs := by
  refine ⟨h.1, ?_⟩
  rcases h.2 with hn | ⟨g, cap, cur, rfl, hb, hgg, rest⟩
  · exact .inl hn
  · exact .inr ⟨g, cap, cur, rfl, hb, (ht.block g (heap_lt hgg) (hs g rfl)).trans hgg, rest⟩
theorem BoardR.kept {w w' : World} {pb : Nat} {F S : List Nat} {M : BM} (h : BoardR w pb F M) (ht : Touch S w w') (hs : ∀ i ∈ F, i ∉ S) : BoardR w' pb F M := by
  have hlt := h.lt
  obtain ⟨bf, bc, rs, h1, h2, h3, h4, h5, rfl, hn⟩ := h
  refine ⟨bf, bc, rs, (ht.block pb (hlt pb (by simp)) (hs pb (by simp))).trans h1, h2.of_block (ht.block bf (hlt bf (by simp)) (hs bf (by simp))), h3.of_block (ht.block bc (hlt bc (by simp)) (hs bc (by simp))), h4, fun r hr => ?_, rfl, hn⟩
  exact own_touch (h5 r hr) ht (fun i hi => hs i (by simp only [List.mem_cons, mem_rowBlocks]; exact .inr (.inr (.inr ⟨r, hr, hi⟩))))

/-- What a call leaves of a board: its new standing, and nothing else of what was there is turned. -/
def Moved (w w' : World) (pb : Nat) (F : List Nat) (M' : BM) : Prop := ∃ F', BoardR w' pb F' M' ∧ Touch F w w' ∧ ∀ i ∈ F', i ∈ F ∨ w.heap.size ≤ i

theorem mput_mem' {K α : Type} [DecidableEq K] {l : List (K × α)} {x : K} {v : α} {p : K × α} (hn : (l.map (·.1)).Nodup) (h : p ∈ mput l x v) : p = (x, v) ∨ (p ∈ l ∧ p.1 ≠ x) := by
  induction l with
  | nil => simp [mput] at h; exact .inl h
  | cons q r ih =>
    obtain ⟨y, u⟩ := q
    simp only [List.map_cons, List.nodup_cons] at hn
    unfold mput at h
    by_cases e : y = x
    · subst e
      rw [if_pos rfl] at h
      rcases List.mem_cons.1 h with h | h
      · exact .inl h
      · exact .inr ⟨List.mem_cons_of_mem _ h, fun e => hn.1 (List.mem_map.2 ⟨p, h, e⟩)⟩
    · rw [if_neg e] at h
      rcases List.mem_cons.1 h with h | h
      · exact .inr ⟨by simp [h], by rw [h]; exact e⟩
      · rcases ih hn.2 h with h | ⟨h, h'⟩
        · exact .inl h
        · exact .inr ⟨List.mem_cons_of_mem _ h, h'⟩
theorem rowBlocks_cons (r : Key × (Value × List Int)) (rs : List (Key × (Value × List Int))) : rowBlocks (r :: rs) = r.2.1.ownBlock.toList ++ rowBlocks rs := by
  simp only [rowBlocks, List.filterMap_cons]
  cases r.2.1.ownBlock <;> rfl
/-- A row is put at a key: its block is the elder one's, or new. -/
theorem rowBlocks_mput {N : Nat} (k : Key) (v1 : Value) (l1 : List Int) : ∀ (rs : List (Key × (Value × List Int))), (rowBlocks rs).Nodup → (∀ i ∈ rowBlocks rs, i < N) →
    (∀ i, v1.ownBlock = some i → ((mget rs k).getD (.slice none 0 0, [])).1.ownBlock = some i ∨ N ≤ i) → (rowBlocks (mput rs k (v1, l1))).Nodup ∧ ∀ i ∈ rowBlocks (mput rs k (v1, l1)), i ∈ rowBlocks rs ∨ (v1.ownBlock = some i ∧ N ≤ i) := by
  intro rs
  induction rs with
  | nil =>
    intro _ _ h
    have e : rowBlocks (mput [] k (v1, l1)) = v1.ownBlock.toList := by rw [show mput [] k (v1, l1) = [(k, (v1, l1))] from rfl, rowBlocks_cons]; simp [rowBlocks]
    rw [e]
    refine ⟨by cases v1.ownBlock <;> simp, fun i hi => ?_⟩
    have hi' : v1.ownBlock = some i := by simpa using hi
    rcases h i hi' with h | h
    · simp [mget, Value.ownBlock] at h
    · exact .inr ⟨hi', h⟩
  | cons q r ih =>
    intro hn hlt h
    obtain ⟨y, u⟩ := q
    rw [rowBlocks_cons] at hn hlt
    rw [List.nodup_append] at hn
    obtain ⟨n1, n2, n3⟩ := hn
    unfold mput
    by_cases e : y = k
    · subst e
      rw [if_pos rfl, rowBlocks_cons, rowBlocks_cons]
      have h : ∀ i, v1.ownBlock = some i → u.1.ownBlock = some i ∨ N ≤ i := by simpa [mget] using h
      refine ⟨List.nodup_append.2 ⟨by cases v1.ownBlock <;> simp, n2, ?_⟩, ?_⟩
      · intro a ha b hb e
        subst e
        have ha' : v1.ownBlock = some a := by simpa using ha
        rcases h a ha' with h | h
        · exact n3 a (by simp [h]) a hb rfl
        · have := hlt a (by simp [hb]); omega
      · intro i hi
        rcases List.mem_append.1 hi with hi | hi
        · have hi' : v1.ownBlock = some i := by simpa using hi
          rcases h i hi' with h | h
          · exact .inl (by simp [h])
          · exact .inr ⟨hi', h⟩
        · exact .inl (by simp [hi])
    · rw [if_neg e, rowBlocks_cons, rowBlocks_cons]
      obtain ⟨m1, m2⟩ := ih n2 (fun i hi => hlt i (by simp [hi])) (by simpa [mget, e] using h)
      refine ⟨List.nodup_append.2 ⟨n1, m1, ?_⟩, ?_⟩
      · intro a ha b hb e
        subst e
        rcases m2 a hb with h' | ⟨_, h'⟩
        · exact n3 a ha a h' rfl
        · have := hlt a (by simp only [List.mem_append]; exact .inl ha); omega
      · intro i hi
        rcases List.mem_append.1 hi with hi | hi
        · exact .inl (by simp only [List.mem_append]; exact .inl hi)
        · rcases m2 i hi with h' | h'
          · exact .inl (by simp [h'])
          · exact .inr h'
theorem rowBlocks_inj : ∀ {rs : List (Key × (Value × List Int))}, (rowBlocks rs).Nodup → ∀ {r r' : Key × (Value × List Int)} {i : Nat}, r ∈ rs → r' ∈ rs → r.2.1.ownBlock = some i → r'.2.1.ownBlock = some i → r = r' := by
  intro rs
  induction rs with
  | nil => intro _ r r' i hr; cases hr
  | cons q rs ih =>
    intro hn r r' i hr hr' hb hb'
    rw [rowBlocks_cons, List.nodup_append] at hn
    obtain ⟨_, n2, n3⟩ := hn
    rcases List.mem_cons.1 hr with e | hq
    · rcases List.mem_cons.1 hr' with e' | hq'
      · rw [e, e']
      · subst e; exact absurd rfl (n3 i (by simp [hb]) i (mem_rowBlocks.2 ⟨r', hq', hb'⟩))
    · rcases List.mem_cons.1 hr' with e' | hq'
      · subst e'; exact absurd rfl (n3 i (by simp [hb']) i (mem_rowBlocks.2 ⟨r, hq, hb⟩))
      · exact ih n2 hq hq' hb hb'
theorem zeroK (w : World) : (zeroValue 28).run Try.prog w = .ok (.agg #[.string ⟨#[]⟩, .string ⟨#[]⟩, .int .i64 0, .string ⟨#[]⟩]) w := by kernel_rfl
theorem zeroL (w : World) : (zeroValue 37).run Try.prog w = .ok (.slice none 0 0) w := by kernel_rfl
theorem infoI : (Try.prog.info? 3).map (fun i => (i.zero, i.size, i.bytes)) = some (some (.int .i64 0), 1, 8) := by kernel_rfl
end Go.Proofs.Ytjmgookpmngmaab
