/- A book in memory: its blocks by owner. -/
import Derived.Test.YtjmgookpmngmaadPr1
namespace Go.Proofs.Ytjmgookpmngmaad
open Go Go.RowKit Go.Maps

/-- Whose a block is. -/
inductive Tag where
  | book (k : Nat)
  | client (c : Int)
  | conn (c : Int) (k : Nat)
  deriving DecidableEq
abbrev Own := Nat → Option Tag
structure ClT where
  bl : Nat
  l : List (ByteArray × ByteArray)
structure CnT where
  pc : Nat
  bh : Nat
  A : Option Addr
  cp : Nat
  order : List ByteArray
def strsV (l : List ByteArray) : List Value := l.map strV
def mapC (cl : List (Int × ClT)) : List (Int × Value) := cl.map fun r => (r.1, .map (some r.2.bl))
def mapK (cn : List (Int × CnT)) : List (Int × Value) := cn.map fun r => (r.1, .pointer (some ⟨r.2.pc, 0, none⟩))
def mapS (l : List (ByteArray × ByteArray)) : List (ByteArray × Value) := l.map fun r => (r.1, strV r.2)
def mapH (l : List ByteArray) : List (ByteArray × Value) := l.map fun s => (s, intV 1)
def CnT.row (c : CnT) : Value := .slice c.A c.order.length c.cp
structure ClC (w : World) (own : Own) (id : Int) (c : ClT) : Prop where
  map : MapT w c.bl strV goodS (mapS c.l)
  own : own c.bl = some (.client id)
structure CnC (w : World) (own : Own) (id : Int) (c : CnT) : Prop where
  cells : w.heap[c.pc]? = some (.cells #[.map (some c.bh), c.row] 56 (0, 0))
  map : MapT w c.bh strV goodS (mapH c.order)
  rowo : w.ownsRow 0 9 1 c.row c.order.length (strsV c.order)
  o0 : own c.pc = some (.conn id 0)
  o1 : own c.bh = some (.conn id 1)
  o2 : ∀ i, c.row.ownBlock = some i → own i = some (.conn id 2)
structure BookC (w : World) (own : Own) (pb bc bn bk : Nat) (cl : List (Int × ClT)) (nm : List (ByteArray × ByteArray)) (cn : List (Int × CnT)) : Prop where
  cells : w.heap[pb]? = some (.cells #[.map (some bc), .map (some bn), .map (some bk)] 51 (0, 0))
  o0 : own pb = some (.book 0)
  o1 : own bc = some (.book 1)
  o2 : own bn = some (.book 2)
  o3 : own bk = some (.book 3)
  mc : MapT w bc intV goodI (mapC cl)
  mn : MapT w bn strV goodS (mapS nm)
  mcon : MapT w bk intV goodI (mapK cn)
  cls : ∀ r ∈ cl, ClC w own r.1 r.2
  cns : ∀ r ∈ cn, CnC w own r.1 r.2
  lt : ∀ i t, own i = some t → i < w.heap.size

/-- Nothing but these blocks is turned. -/
structure Grow (own own' : Own) (w w' : World) : Prop where
  os : w'.os = w.os
  tape : w'.tape = w.tape
  output : w'.output = w.output
  size : w.heap.size ≤ w'.heap.size
  blk : ∀ i, i < w.heap.size → own i = none → w'.heap[i]? = w.heap[i]?
  own : ∀ i, i < w.heap.size → own i = none → own' i = none
theorem Grow.refl (own : Own) (w : World) : Grow own own w w := ⟨rfl, rfl, rfl, Nat.le_refl _, fun _ _ _ => rfl, fun _ _ h => h⟩
theorem Grow.trans {o1 o2 o3 : Own} {w1 w2 w3 : World} (h : Grow o1 o2 w1 w2) (k : Grow o2 o3 w2 w3) : Grow o1 o3 w1 w3 :=
  ⟨k.os.trans h.os, k.tape.trans h.tape, k.output.trans h.output, Nat.le_trans h.size k.size, fun i hi hn => (k.blk i (Nat.lt_of_lt_of_le hi h.size) (h.own i hi hn)).trans (h.blk i hi hn), fun i hi hn => k.own i (Nat.lt_of_lt_of_le hi h.size) (h.own i hi hn)⟩
theorem Grow.of_touch {own own' : Own} {S : List Nat} {w w' : World} (t : Touch S w w') (hS : ∀ i ∈ S, own i ≠ none ∨ w.heap.size ≤ i) (ho : ∀ i, i < w.heap.size → own i = none → own' i = none) : Grow own own' w w' :=
  ⟨t.os, t.tape, t.output, t.size, fun i hi hn => t.block i hi fun hm => by rcases hS i hm with h | h; exact h hn; omega, ho⟩
theorem Grow.of_touch0 {own : Own} {w w' : World} (t : Touch [] w w') : Grow own own w w' := Grow.of_touch t (by simp) fun _ _ h => h
theorem Grow.below {own own' : Own} {w w' : World} (h : Grow own own' w w') {B : Nat} (hB : B ≤ w.heap.size) (hlow : ∀ i t, own i = some t → B ≤ i) : Below B w w' :=
  ⟨h.os, h.tape, h.output, h.size, fun i hi => h.blk i (by omega) (by
    cases hc : own i with
    | none => rfl
    | some t => have := hlow i t hc; omega)⟩
/-- What is owned then was owned, or is new. -/
theorem Grow.back {own own' : Own} {w w' : World} (h : Grow own own' w w') {i : Nat} {t : Tag} (hi : own' i = some t) : own i ≠ none ∨ w.heap.size ≤ i := by
  rcases Nat.lt_or_ge i w.heap.size with h1 | h1
  · refine .inl fun hn => ?_
    rw [h.own i h1 hn] at hi; cases hi
  · exact .inr h1
theorem Grow.low {own own' : Own} {w w' : World} (h : Grow own own' w w') {B : Nat} (hB : B ≤ w.heap.size) (hlow : ∀ i t, own i = some t → B ≤ i) : ∀ i t, own' i = some t → B ≤ i := fun i t hi => by
  rcases h.back hi with h1 | h1
  · cases hc : own i with
    | none => exact absurd hc h1
    | some t => exact hlow i t hc
  · omega

def addO (own : Own) (g : Nat) (t : Tag) : Own := fun i => if i = g then some t else own i
theorem addO_same (own : Own) (g : Nat) (t : Tag) : addO own g t g = some t := by simp [addO]
theorem addO_old {own : Own} {g i : Nat} {t : Tag} (h : i ≠ g) : addO own g t i = own i := by simp [addO, h]

section
variable {w w' : World} {own own' : Own} {id : Int} {S : List Nat}
/-- A client's map stays. -/
theorem ClC.kept {c : ClT} (h : ClC w own id c) (t : Touch S w w') (hS : c.bl ∉ S) (ho : own' c.bl = own c.bl) : ClC w' own' id c :=
  ⟨h.map.of_block (t.block _ h.map.lt hS), by rw [ho]; exact h.own⟩
theorem CnC.row_lt {c : CnT} (h : CnC w own id c) {i : Nat} (hi : c.row.ownBlock = some i) : i < w.heap.size := by
  rcases h.rowo.2 with ⟨hv, _⟩ | ⟨g, cap, cur, hv, _, hg, _⟩
  · rw [hv] at hi; cases hi
  · rw [hv] at hi
    cases hi
    exact heap_lt hg
theorem CnC.kept {c : CnT} (h : CnC w own id c) (t : Touch S w w') (h0 : c.pc ∉ S) (h1 : c.bh ∉ S) (h2 : ∀ i, c.row.ownBlock = some i → i ∉ S) (ho : ∀ i, i < w.heap.size → own i ≠ none → own' i = own i) : CnC w' own' id c :=
  ⟨(t.block _ (heap_lt h.cells) h0).trans h.cells, h.map.of_block (t.block _ h.map.lt h1), own_touch' h.rowo t h2, by rw [ho _ (heap_lt h.cells) (by rw [h.o0]; simp)]; exact h.o0,
    by rw [ho _ h.map.lt (by rw [h.o1]; simp)]; exact h.o1, fun i hi => by rw [ho i (h.row_lt hi) (by rw [h.o2 i hi]; simp)]; exact h.o2 i hi⟩
/-- Blocks of other owners may be turned. -/
theorem CnC.keptT {c : CnT} (h : CnC w own id c) (t : Touch S w w') (hS : ∀ i ∈ S, (∀ k, own i ≠ some (.conn id k)) ∨ w.heap.size ≤ i) (ho : ∀ i, i < w.heap.size → own i ≠ none → own' i = own i) : CnC w' own' id c :=
  h.kept t (fun hm => by rcases hS _ hm with q | q; exact q 0 h.o0; have := heap_lt h.cells; omega) (fun hm => by rcases hS _ hm with q | q; exact q 1 h.o1; have := h.map.lt; omega)
    (fun i hi hm => by rcases hS _ hm with q | q; exact q 2 (h.o2 i hi); have := h.row_lt hi; omega) ho
theorem ClC.keptT {c : ClT} (h : ClC w own id c) (t : Touch S w w') (hS : ∀ i ∈ S, own i ≠ some (.client id) ∨ w.heap.size ≤ i) (ho : ∀ i, i < w.heap.size → own i ≠ none → own' i = own i) : ClC w' own' id c :=
  h.kept t (fun hm => by rcases hS _ hm with q | q; exact q h.own; have := h.map.lt; omega) (ho _ h.map.lt (by rw [h.own]; simp))
variable {pb bc bn bk : Nat} {cl : List (Int × ClT)} {nm : List (ByteArray × ByteArray)} {cn : List (Int × CnT)}
theorem BookC.kept0 (h : BookC w own pb bc bn bk cl nm cn) (t : Touch [] w w') : BookC w' own pb bc bn bk cl nm cn :=
  ⟨(t.block _ (heap_lt h.cells) (by simp)).trans h.cells, h.o0, h.o1, h.o2, h.o3, h.mc.of_block (t.block _ h.mc.lt (by simp)), h.mn.of_block (t.block _ h.mn.lt (by simp)), h.mcon.of_block (t.block _ h.mcon.lt (by simp)),
    fun r hr => (h.cls r hr).keptT t (by simp) fun _ _ _ => rfl, fun r hr => (h.cns r hr).keptT t (by simp) fun _ _ _ => rfl, fun i tt hi => Nat.lt_of_lt_of_le (h.lt i tt hi) t.size⟩
/-- What others turn is not of the book. -/
theorem BookC.other {o1 o1' : Own} (h : BookC w own pb bc bn bk cl nm cn) (g : Grow o1 o1' w w') (dis : ∀ i t, own i = some t → o1 i = none) : BookC w' own pb bc bn bk cl nm cn := by
  have hb : ∀ i t, own i = some t → w'.heap[i]? = w.heap[i]? := fun i t hi => g.blk i (h.lt i t hi) (dis i t hi)
  refine ⟨(hb _ _ h.o0).trans h.cells, h.o0, h.o1, h.o2, h.o3, h.mc.of_block (hb _ _ h.o1), h.mn.of_block (hb _ _ h.o2), h.mcon.of_block (hb _ _ h.o3), fun r hr => ?_, fun r hr => ?_, fun i tt hi => Nat.lt_of_lt_of_le (h.lt i tt hi) g.size⟩
  · have q := h.cls r hr
    exact ⟨q.map.of_block (hb _ _ q.own), q.own⟩
  · have q := h.cns r hr
    refine ⟨(hb _ _ q.o0).trans q.cells, q.map.of_block (hb _ _ q.o1), ?_, q.o0, q.o1, q.o2⟩
    refine ⟨q.rowo.1, ?_⟩
    have hq := q.o2
    rcases q.rowo.2 with hn | ⟨gg, cap, cur, hv, h1, h2, h3⟩
    · exact .inl hn
    · rw [hv] at hq
      exact .inr ⟨gg, cap, cur, hv, h1, (hb _ _ (hq gg rfl)).trans h2, h3⟩
theorem BookC.c0 (h : BookC w own pb bc bn bk cl nm cn) : w.cell? ⟨pb, 0, none⟩ = some (.map (some bc)) := by rw [cell_of h.cells]; rfl
theorem BookC.c1 (h : BookC w own pb bc bn bk cl nm cn) : w.cell? ⟨pb, 1, none⟩ = some (.map (some bn)) := by rw [cell_of h.cells]; rfl
theorem BookC.c2 (h : BookC w own pb bc bn bk cl nm cn) : w.cell? ⟨pb, 2, none⟩ = some (.map (some bk)) := by rw [cell_of h.cells]; rfl
end
theorem mget_mapC (cl : List (Int × ClT)) (x : Int) : mget (mapC cl) x = (mget cl x).map fun c => .map (some c.bl) := mget_map (fun c : ClT => Value.map (some c.bl)) cl x
theorem mget_mapK (cn : List (Int × CnT)) (x : Int) : mget (mapK cn) x = (mget cn x).map fun c => .pointer (some ⟨c.pc, 0, none⟩) := mget_map (fun c : CnT => Value.pointer (some ⟨c.pc, 0, none⟩)) cn x
theorem mget_mapS (l : List (ByteArray × ByteArray)) (x : ByteArray) : mget (mapS l) x = (mget l x).map strV := mget_map strV l x
theorem mget_mapH {l : List ByteArray} {x : ByteArray} (h : x ∈ l) : mget (mapH l) x = some (intV 1) := by
  induction l with
  | nil => cases h
  | cons y l ih =>
    unfold mapH at ih ⊢
    rw [List.map_cons, mget]
    by_cases e : y = x
    · rw [if_pos e]
    · rw [if_neg e]
      rcases List.mem_cons.1 h with h | h
      · exact absurd h.symm e
      · exact ih h
theorem mget_mapH_no {l : List ByteArray} {x : ByteArray} (h : x ∉ l) : mget (mapH l) x = none := by
  rw [mget_none]
  intro p hp e
  obtain ⟨y, hy, rfl⟩ := List.mem_map.1 hp
  exact h (by rw [← e]; exact hy)
theorem zeroM (w : World) : (zeroValue 48).run Try.prog w = .ok (.map none) w := by kernel_rfl
theorem zeroS (w : World) : (zeroValue 9).run Try.prog w = .ok (.string ⟨#[]⟩) w := by kernel_rfl
theorem zeroI (w : World) : (zeroValue 3).run Try.prog w = .ok (.int .i64 0) w := by kernel_rfl
theorem zeroP (w : World) : (zeroValue 53).run Try.prog w = .ok (.pointer none) w := by kernel_rfl
open Go.MapKept Go.ChangeMaps in
/-- A map that is none. -/
theorem look_nil (w : World) (s : ByteArray) (hs : goodS s) (c : Bool) : (Instr.lookup 48 (.map none) (.string s) c).run Try.prog w = .ok (if c then .tuple #[.string ⟨#[]⟩, .bool false] else .string ⟨#[]⟩) w := by
  obtain ⟨kl, hkl⟩ := encS.key hs
  have hc := encS.keyed.check w true (v := strV s) hkl
  unfold strV at hc
  have hf : (Instr.findKey 9 (.string s) []).run Try.prog w = .ok none w := by
    rcases encS.keyed.find w hkl [] (by simp) with ⟨h1, _⟩ | ⟨j, e, _, h, _⟩
    · exact h1
    · simp at h
  cases c <;> simp [Instr.lookup, run_underlying Try.underlying48, hc, hf, Result.andThen]
end Go.Proofs.Ytjmgookpmngmaad
