/- A vers.Vers in memory, and what it stands for. -/
import Derived.Test.YtjmgookpmngmaacProg
import Derived.Test.YtjmgookpmngmaacMapT
import Derived.Test.YtjmgookpmngmaacHeap
import Derived.Test.YtjmgookpmngmaacMapOps
import Derived.WalkKit
import Derived.WalkSpells
import Derived.KernelRfl
import Derived.RowKit3
import Derived.Lib.Hide
import Derived.Outline
import Derived.BigQuiet
import Derived.Deep.QuietTactic
import Derived.Deep.OwnRows
import Derived.StillTailTactics
import Derived.Deep.LoopGhost
import Derived.Deep.RegionHeld3
import Derived.Maps.AppendAt
import Derived.StringKeys
import Derived.Laws.LoneSync
namespace Go.Proofs.Ytjmgookpmngmaac
open Go Go.RowKit Go.Maps

def strV (s : ByteArray) : Value := .string s
def goodS (s : ByteArray) : Prop := s.size ≤ maxLen
def intV (n : Int) : Value := .int .i64 n
def goodI (n : Int) : Prop := (Lit.int .i64 n).wf = true
theorem encI : KeyEnc Try.prog 3 intV goodI := ⟨int_keyed Try.underlying3, fun h => by simpa [intV] using h, fun {x} hx => ⟨_, keyOf_int_mk Try.underlying3 hx⟩⟩
theorem encS : KeyEnc Try.prog 9 strV goodS := ⟨string_keyed Try.underlying9, fun h => by simpa [strV] using h, fun {x} hx => ⟨_, WideMaps.keyOf_string_mk Try.underlying9 hx⟩⟩

/-- A table: its block, its map's block, its number, who has it dirty (and a count that nobody asks). -/
structure Tab where
  pt : Nat
  bd : Nat
  num : Int
  dirty : List (Int × Int)
def ptrV (t : Tab) : Value := .pointer (some ⟨t.pt, 0, none⟩)
def mapD (l : List (Int × Int)) : List (Int × Value) := l.map fun c => (c.1, intV c.2)
def mapN (rs : List (ByteArray × Tab)) : List (ByteArray × Value) := rs.map fun r => (r.1, ptrV r.2)

/-- A table lies there. -/
structure TabC (w : World) (t : Tab) : Prop where
  cells : w.heap[t.pt]? = some (.cells #[.int .i64 t.num, .map (some t.bd)] 63 (0, 0))
  map : MapT w t.bd intV goodI (mapD t.dirty)
def tabBlocks : List (ByteArray × Tab) → List Nat
  | [] => []
  | r :: rs => r.2.pt :: r.2.bd :: tabBlocks rs
def blocks (pv bm : Nat) (rs : List (ByteArray × Tab)) : List Nat := pv :: bm :: tabBlocks rs

/-- The block pv is one with these tables. -/
structure VerC (w : World) (pv bm : Nat) (ep : Int) (rs : List (ByteArray × Tab)) : Prop where
  cells : w.heap[pv]? = some (.cells #[.int .i64 ep, .map (some bm)] 59 (0, 0))
  map : MapT w bm strV goodS (mapN rs)
  tabs : ∀ r ∈ rs, TabC w r.2
  nodup : (blocks pv bm rs).Nodup

theorem mem_tabBlocks {rs : List (ByteArray × Tab)} {i : Nat} : i ∈ tabBlocks rs ↔ ∃ r ∈ rs, i = r.2.pt ∨ i = r.2.bd := by
  induction rs with
  | nil => simp [tabBlocks]
  | cons r rs ih =>
    simp only [tabBlocks, List.mem_cons, ih]
    constructor
    · rintro (h | h | ⟨q, h1, h2⟩)
      · exact ⟨r, .inl rfl, .inl h⟩
      · exact ⟨r, .inl rfl, .inr h⟩
      · exact ⟨q, .inr h1, h2⟩
    · rintro ⟨q, rfl | h1, h2⟩
      · rcases h2 with h | h
        · exact .inl h
        · exact .inr (.inl h)
      · exact .inr (.inr ⟨q, h1, h2⟩)
theorem TabC.lt {w : World} {t : Tab} (h : TabC w t) : t.pt < w.heap.size ∧ t.bd < w.heap.size := ⟨heap_lt h.cells, h.map.lt⟩
theorem TabC.kept {w w' : World} {t : Tab} {S : List Nat} (h : TabC w t) (ht : Touch S w w') (h1 : t.pt ∉ S) (h2 : t.bd ∉ S) : TabC w' t :=
  ⟨(ht.block _ h.lt.1 h1).trans h.cells, h.map.of_block (ht.block _ h.lt.2 h2)⟩
theorem VerC.lt {w : World} {pv bm : Nat} {ep : Int} {rs : List (ByteArray × Tab)} (h : VerC w pv bm ep rs) : ∀ i ∈ blocks pv bm rs, i < w.heap.size := by
  intro i hi
  simp only [blocks, List.mem_cons, mem_tabBlocks] at hi
  rcases hi with rfl | rfl | ⟨r, hr, rfl | rfl⟩
  · exact heap_lt h.cells
  · exact h.map.lt
  · exact (h.tabs r hr).lt.1
  · exact (h.tabs r hr).lt.2
theorem VerC.kept {w w' : World} {pv bm : Nat} {ep : Int} {rs : List (ByteArray × Tab)} {S : List Nat} (h : VerC w pv bm ep rs) (ht : Touch S w w') (hs : ∀ i ∈ blocks pv bm rs, i ∉ S) : VerC w' pv bm ep rs := by
  have hl := h.lt
  refine ⟨(ht.block pv (hl pv (by simp [blocks])) (hs pv (by simp [blocks]))).trans h.cells, h.map.of_block (ht.block bm (hl bm (by simp [blocks])) (hs bm (by simp [blocks]))), fun r hr => (h.tabs r hr).kept ht ?_ ?_, h.nodup⟩
  · exact hs _ (by simp only [blocks, List.mem_cons, mem_tabBlocks]; exact .inr (.inr ⟨r, hr, .inl rfl⟩))
  · exact hs _ (by simp only [blocks, List.mem_cons, mem_tabBlocks]; exact .inr (.inr ⟨r, hr, .inr rfl⟩))
theorem VerC.kept0 {w w' : World} {pv bm : Nat} {ep : Int} {rs : List (ByteArray × Tab)} (h : VerC w pv bm ep rs) (ht : Touch [] w w') : VerC w' pv bm ep rs := h.kept ht (by simp)
theorem VerC.c0 {w : World} {pv bm : Nat} {ep : Int} {rs : List (ByteArray × Tab)} (h : VerC w pv bm ep rs) : w.cell? ⟨pv, 0, none⟩ = some (.int .i64 ep) := by rw [cell_of h.cells]; rfl
theorem VerC.c1 {w : World} {pv bm : Nat} {ep : Int} {rs : List (ByteArray × Tab)} (h : VerC w pv bm ep rs) : w.cell? ⟨pv, 1, none⟩ = some (.map (some bm)) := by rw [cell_of h.cells]; rfl
theorem TabC.c0 {w : World} {t : Tab} (h : TabC w t) : w.cell? ⟨t.pt, 0, none⟩ = some (.int .i64 t.num) := by rw [cell_of h.cells]; rfl
theorem TabC.c1 {w : World} {t : Tab} (h : TabC w t) : w.cell? ⟨t.pt, 1, none⟩ = some (.map (some t.bd)) := by rw [cell_of h.cells]; rfl
theorem VerC.names {w : World} {pv bm : Nat} {ep : Int} {rs : List (ByteArray × Tab)} (h : VerC w pv bm ep rs) : (rs.map (·.1)).Nodup := by
  have := h.map.nodup
  simpa [mapN, List.map_map, Function.comp_def] using this
theorem mget_mapN (rs : List (ByteArray × Tab)) (s : ByteArray) : mget (mapN rs) s = (mget rs s).map ptrV := mget_map ptrV rs s

/-- Two tables share no block. -/
theorem tab_apart : ∀ {rs : List (ByteArray × Tab)}, (tabBlocks rs).Nodup → ∀ {r r' : ByteArray × Tab}, r ∈ rs → r' ∈ rs → r ≠ r' → r.2.pt ≠ r'.2.pt ∧ r.2.pt ≠ r'.2.bd ∧ r.2.bd ≠ r'.2.pt ∧ r.2.bd ≠ r'.2.bd := by
  intro rs
  induction rs with
  | nil => intro _ r r' h; cases h
  | cons q rs ih =>
    intro hn r r' hr hr' hne
    simp only [tabBlocks, List.nodup_cons, List.mem_cons, not_or] at hn
    obtain ⟨⟨n1, n2⟩, n3, n4⟩ := hn
    have side : ∀ {x : ByteArray × Tab}, x ∈ rs → q.2.pt ≠ x.2.pt ∧ q.2.pt ≠ x.2.bd ∧ q.2.bd ≠ x.2.pt ∧ q.2.bd ≠ x.2.bd := fun hx =>
      ⟨fun e => n2 (mem_tabBlocks.2 ⟨_, hx, .inl e⟩), fun e => n2 (mem_tabBlocks.2 ⟨_, hx, .inr e⟩), fun e => n3 (mem_tabBlocks.2 ⟨_, hx, .inl e⟩), fun e => n3 (mem_tabBlocks.2 ⟨_, hx, .inr e⟩)⟩
    rcases List.mem_cons.1 hr with e | hr
    · rcases List.mem_cons.1 hr' with e' | hr'
      · exact absurd (e.trans e'.symm) hne
      · rw [e]; exact side hr'
    · rcases List.mem_cons.1 hr' with e' | hr'
      · obtain ⟨a, b, c, d⟩ := side hr
        rw [e']; exact ⟨a.symm, c.symm, b.symm, d.symm⟩
      · exact ih n4 hr hr' hne
theorem VerC.apart {w : World} {pv bm : Nat} {ep : Int} {rs : List (ByteArray × Tab)} (h : VerC w pv bm ep rs) {s : ByteArray} {t : Tab} (hm : mget rs s = some t) : pv ≠ bm ∧ t.pt ≠ pv ∧ t.pt ≠ bm ∧ t.bd ≠ pv ∧ t.bd ≠ bm ∧ t.pt ≠ t.bd := by
  have hn := h.nodup
  simp only [blocks, List.nodup_cons, List.mem_cons, not_or] at hn
  obtain ⟨⟨n1, n2⟩, n3, n4⟩ := hn
  have hr := mget_mem hm
  refine ⟨n1, fun e => n2 (mem_tabBlocks.2 ⟨_, hr, .inl e.symm⟩), fun e => n3 (mem_tabBlocks.2 ⟨_, hr, .inl e.symm⟩), fun e => n2 (mem_tabBlocks.2 ⟨_, hr, .inr e.symm⟩), fun e => n3 (mem_tabBlocks.2 ⟨_, hr, .inr e.symm⟩), ?_⟩
  clear n1 n2 n3 h hm
  induction rs with
  | nil => cases hr
  | cons q rs ih =>
    simp only [tabBlocks, List.nodup_cons, List.mem_cons, not_or] at n4
    rcases List.mem_cons.1 hr with rfl | hr
    · exact n4.1.1
    · exact ih n4.2.2 hr
theorem tabBlocks_mput {s : ByteArray} {t t' : Tab} (h1 : t'.pt = t.pt) (h2 : t'.bd = t.bd) : ∀ {rs : List (ByteArray × Tab)}, mget rs s = some t → tabBlocks (mput rs s t') = tabBlocks rs := by
  intro rs
  induction rs with
  | nil => intro h; simp [mget] at h
  | cons q rs ih =>
    obtain ⟨y, u⟩ := q
    intro h
    unfold mget at h
    unfold mput
    by_cases e : y = s
    · rw [if_pos e] at h ⊢
      cases h
      simp [tabBlocks, h1, h2]
    · rw [if_neg e] at h ⊢
      simp only [tabBlocks, ih h]
theorem mapN_mput {s : ByteArray} {t t' : Tab} (h1 : t'.pt = t.pt) : ∀ {rs : List (ByteArray × Tab)}, mget rs s = some t → mapN (mput rs s t') = mapN rs := by
  intro rs
  induction rs with
  | nil => intro h; simp [mget] at h
  | cons q rs ih =>
    obtain ⟨y, u⟩ := q
    intro h
    unfold mget at h
    unfold mput
    by_cases e : y = s
    · rw [if_pos e] at h ⊢
      cases h
      simp [mapN, ptrV, h1]
    · rw [if_neg e] at h ⊢
      have := ih h
      simp only [mapN, List.map_cons] at this ⊢
      rw [this]
theorem mput_mem2 {K α : Type} [DecidableEq K] {l : List (K × α)} {x : K} {v : α} {p : K × α} (hn : (l.map (·.1)).Nodup) (h : p ∈ mput l x v) : p = (x, v) ∨ (p ∈ l ∧ p.1 ≠ x) := by
  induction l with
  | nil => simp [mput] at h; exact .inl h
  | cons q r ih =>
    obtain ⟨y, u⟩ := q
    simp only [List.map_cons, List.nodup_cons] at hn
    unfold mput at h
    by_cases e : y = x
    · subst e
      rw [if_pos rfl] at h
      rcases List.mem_cons.1 h with h | h
      · exact .inl h
      · exact .inr ⟨List.mem_cons_of_mem _ h, fun e => hn.1 (List.mem_map.2 ⟨p, h, e⟩)⟩
    · rw [if_neg e] at h
      rcases List.mem_cons.1 h with h | h
      · exact .inr ⟨by simp [h], by rw [h]; exact e⟩
      · rcases ih hn.2 h with h | ⟨h, h'⟩
        · exact .inl h
        · exact .inr ⟨List.mem_cons_of_mem _ h, h'⟩
/-- One table has been turned in its own blocks. -/
theorem VerC.turn {w w' : World} {pv bm : Nat} {ep : Int} {rs : List (ByteArray × Tab)} {s : ByteArray} {t t' : Tab} (h : VerC w pv bm ep rs) (hm : mget rs s = some t) (h1 : t'.pt = t.pt) (h2 : t'.bd = t.bd) (ht : Touch [t.pt, t.bd] w w') (hT : TabC w' t') : VerC w' pv bm ep (mput rs s t') := by
  have ha := h.apart hm
  have hl := h.lt
  have hnb := h.nodup
  simp only [blocks, List.nodup_cons] at hnb
  have hmem := mget_mem hm
  refine ⟨(ht.block pv (hl pv (by simp [blocks])) ?_).trans h.cells, ?_, fun r hr => ?_, ?_⟩
  · simp only [List.mem_cons, List.not_mem_nil, or_false, not_or]; exact ⟨ha.2.1.symm, ha.2.2.2.1.symm⟩
  · rw [mapN_mput h1 hm]
    refine h.map.of_block (ht.block bm (hl bm (by simp [blocks])) ?_)
    simp only [List.mem_cons, List.not_mem_nil, or_false, not_or]; exact ⟨ha.2.2.1.symm, ha.2.2.2.2.1.symm⟩
  · rcases mput_mem2 h.names hr with rfl | ⟨hr', hne⟩
    · exact hT
    · obtain ⟨a, b, c, d⟩ := tab_apart hnb.2.2 hr' hmem (fun e => hne (by rw [e]))
      refine (h.tabs r hr').kept ht ?_ ?_
      · simp only [List.mem_cons, List.not_mem_nil, or_false, not_or]; exact ⟨a, b⟩
      · simp only [List.mem_cons, List.not_mem_nil, or_false, not_or]; exact ⟨c, d⟩
  · unfold blocks
    rw [tabBlocks_mput h1 h2 hm]
    exact h.nodup

/-! ### names in memory -/
/-- A row of texts. -/
def NamesI (w : World) (A : Option Addr) (n : Nat) (l : List ByteArray) : Prop := n = l.length ∧ (n = 0 ∨ ∃ g o, A = some ⟨g, o, none⟩ ∧ g < w.heap.size ∧ ∀ j, j < n → w.cell? ⟨g, o + j, none⟩ = some (.string (l.getD j ⟨#[]⟩)))
theorem NamesI.kept {w w' : World} {A : Option Addr} {n : Nat} {l : List ByteArray} {S : List Nat} (h : NamesI w A n l) (t : Touch S w w') (hs : ∀ a, A = some a → a.block ∉ S) : NamesI w' A n l := by
  obtain ⟨h1, h2⟩ := h
  refine ⟨h1, ?_⟩
  rcases h2 with h2 | ⟨g, o, rfl, hg, h2⟩
  · exact .inl h2
  · exact .inr ⟨g, o, rfl, Nat.lt_of_lt_of_le hg t.size, fun j hj => t.cell (h2 j hj) (hs ⟨g, o, none⟩ rfl)⟩
theorem NamesI.kept0 {w w' : World} {A : Option Addr} {n : Nat} {l : List ByteArray} (h : NamesI w A n l) (t : Touch [] w w') : NamesI w' A n l := h.kept t (by simp)
end Go.Proofs.Ytjmgookpmngmaac
