/- Several texts of this seat in one: MapT, MapOps, App, OwnT, Qu, Lo2, Lo3, Lo4, Lo5, Lo6, Lo7, Lo8, Lo9, LoB. -/
import Derived.Maps.Keyed
import Derived.Maps.OwnSet
import Derived.WideKeyEntry
import Derived.OwnWalk
import Derived.Test.YtmgcmheiabmajabHeap
import Derived.Maps.AppendAt
import Derived.Deep.RegionLaw
import Derived.BigQuiet
import Derived.Deep.QuietTactic
import Derived.Test.YtmgcmheiabmajabPbx
import Derived.Deep.RegionHeld3
import Derived.KernelRfl
import Derived.Deep.LoopGhost
import Derived.Laws.RangeAny
import Derived.Test.YtmgcmheiabmajabPdx
section
/- A Go map in memory as a list of keys (of a Lean type of one's own) and values, in the order in which they were put: what a look-up, a store, an entry, a delete and len do to it. Elements may be anything. -/
namespace Go.Proofs.Ytmgcmheiabmajab
open Go Go.Maps Go.MapKept Go.ChangeMaps

/-! ### lists of keys and values -/
section
variable {K : Type} [DecidableEq K] {α β : Type}
def mget : List (K × α) → K → Option α
  | [], _ => none
  | (y, u) :: r, x => if y = x then some u else mget r x
def mput : List (K × α) → K → α → List (K × α)
  | [], x, v => [(x, v)]
  | (y, u) :: r, x, v => if y = x then (y, v) :: r else (y, u) :: mput r x v
def mdel (l : List (K × α)) (x : K) : List (K × α) := l.filter fun p => decide (p.1 ≠ x)

theorem mget_none {l : List (K × α)} {x : K} : mget l x = none ↔ ∀ p ∈ l, p.1 ≠ x := by
  induction l with
  | nil => simp [mget]
  | cons p r ih =>
    obtain ⟨y, u⟩ := p
    unfold mget
    by_cases h : y = x
    · simp [h]
    · simp [h, ih]
theorem mget_mem {l : List (K × α)} {x : K} {v : α} (h : mget l x = some v) : (x, v) ∈ l := by
  induction l with
  | nil => simp [mget] at h
  | cons p r ih =>
    obtain ⟨y, u⟩ := p
    unfold mget at h
    by_cases e : y = x
    · subst e; simp at h; simp [h]
    · rw [if_neg e] at h; exact List.mem_cons_of_mem _ (ih h)
theorem mem_mget {l : List (K × α)} (hn : (l.map (·.1)).Nodup) {x : K} {v : α} (h : (x, v) ∈ l) : mget l x = some v := by
  induction l with
  | nil => cases h
  | cons p r ih =>
    obtain ⟨y, u⟩ := p
    simp only [List.map_cons, List.nodup_cons] at hn
    unfold mget
    rcases List.mem_cons.1 h with h | h
    · cases h; simp
    · have : y ≠ x := fun e => hn.1 (List.mem_map.2 ⟨(x, v), h, e.symm⟩)
      rw [if_neg this]; exact ih hn.2 h
theorem mput_new {l : List (K × α)} {x : K} {v : α} (h : ∀ p ∈ l, p.1 ≠ x) : mput l x v = l ++ [(x, v)] := by
  induction l with
  | nil => rfl
  | cons p r ih =>
    obtain ⟨y, u⟩ := p
    unfold mput
    rw [if_neg (h (y, u) (by simp)), ih (fun q hq => h q (by simp [hq]))]
    rfl
theorem mput_keys (l : List (K × α)) (x : K) (v : α) : (mput l x v).map (·.1) = if x ∈ l.map (·.1) then l.map (·.1) else l.map (·.1) ++ [x] := by
  induction l with
  | nil => rfl
  | cons p r ih =>
    obtain ⟨y, u⟩ := p
    unfold mput
    by_cases e : y = x
    · subst e; simp
    · rw [if_neg e]
      simp only [List.map_cons, ih]
      by_cases hm : x ∈ r.map (·.1)
      · rw [if_pos hm, if_pos (List.mem_cons_of_mem _ hm)]
      · rw [if_neg hm, if_neg (by simp [hm, Ne.symm e])]; rfl
theorem mget_mput (l : List (K × α)) (x y : K) (v : α) : mget (mput l x v) y = if x = y then some v else mget l y := by
  induction l with
  | nil => by_cases h : x = y <;> simp [mput, mget, h]
  | cons p r ih =>
    obtain ⟨z, u⟩ := p
    unfold mput
    by_cases e : z = x
    · subst e
      rw [if_pos rfl]
      by_cases h : z = y <;> simp [mget, h]
    · rw [if_neg e]
      unfold mget
      by_cases h : z = y
      · subst h; simp [Ne.symm e]
      · rw [if_neg h, if_neg h, ih]
theorem mget_mdel (l : List (K × α)) (x y : K) : mget (mdel l x) y = if x = y then none else mget l y := by
  induction l with
  | nil => simp [mdel, mget]
  | cons p r ih =>
    obtain ⟨z, u⟩ := p
    by_cases e : z = x
    · subst e
      have : mdel ((z, u) :: r) z = mdel r z := by simp [mdel]
      rw [this, ih]
      by_cases h : z = y
      · rw [if_pos h, if_pos h]
      · rw [if_neg h, if_neg h]; simp [mget, h]
    · have : mdel ((z, u) :: r) x = (z, u) :: mdel r x := by simp [mdel, e]
      rw [this]
      unfold mget
      by_cases h : z = y
      · subst h; simp [Ne.symm e]
      · rw [if_neg h, if_neg h, ih]
theorem mput_mem {l : List (K × α)} {x : K} {v : α} {p : K × α} (h : p ∈ mput l x v) : p = (x, v) ∨ p ∈ l := by
  induction l with
  | nil => simp [mput] at h; exact .inl h
  | cons q r ih =>
    obtain ⟨y, u⟩ := q
    unfold mput at h
    by_cases e : y = x
    · subst e
      rw [if_pos rfl] at h
      rcases List.mem_cons.1 h with h | h
      · exact .inl h
      · exact .inr (List.mem_cons_of_mem _ h)
    · rw [if_neg e] at h
      rcases List.mem_cons.1 h with h | h
      · exact .inr (by simp [h])
      · rcases ih h with h | h
        · exact .inl h
        · exact .inr (List.mem_cons_of_mem _ h)
theorem mput_length (l : List (K × α)) (x : K) (v : α) : (mput l x v).length ≤ l.length + 1 := by
  induction l with
  | nil => simp [mput]
  | cons q r ih =>
    obtain ⟨y, u⟩ := q
    unfold mput
    split
    · simp
    · simp; exact ih
theorem mget_map (f : α → β) (l : List (K × α)) (x : K) : mget (l.map fun p => (p.1, f p.2)) x = (mget l x).map f := by
  induction l with
  | nil => rfl
  | cons q r ih =>
    obtain ⟨y, u⟩ := q
    simp only [List.map_cons, mget]
    split
    · rfl
    · exact ih
theorem mput_map (f : α → β) (l : List (K × α)) (x : K) (v : α) : mput (l.map fun p => (p.1, f p.2)) x (f v) = (mput l x v).map fun p => (p.1, f p.2) := by
  induction l with
  | nil => rfl
  | cons q r ih =>
    obtain ⟨y, u⟩ := q
    simp only [List.map_cons, mput]
    split
    · rfl
    · simp [ih]
theorem mdel_map (f : α → β) (l : List (K × α)) (x : K) : mdel (l.map fun p => (p.1, f p.2)) x = (mdel l x).map fun p => (p.1, f p.2) := by
  simp [mdel, List.filter_map, Function.comp_def]
end

/-! ### a map in memory -/
/-- Keys of a Lean type as keys of the map's key type. -/
structure KeyEnc {K : Type} (P : Program) (k : TypeId) (enc : K → Value) (good : K → Prop) : Prop where
  keyed : Keyed P k
  inj : ∀ {x y : K}, enc x = enc y → x = y
  key : ∀ {x : K}, good x → ∃ kl, keyOf P k (enc x) = some kl

section
variable {K : Type}
/-- Block b is a map that holds l, in the order in which the keys were put. -/
def MapT (w : World) (b : Nat) (enc : K → Value) (good : K → Prop) (l : List (K × Value)) : Prop :=
  ∃ es clock, w.heap[b]? = some (.map es clock) ∧ Stamped es clock ∧ es.size ≤ maxLen ∧ (∀ p ∈ l, good p.1) ∧ es.toList.map (fun e => (e.key, e.val)) = l.map (fun p => (enc p.1, p.2))

variable {P : Program} {k : TypeId} {enc : K → Value} {good : K → Prop} {w : World} {b : Nat} {l : List (K × Value)}

theorem MapT.lt (h : MapT w b enc good l) : b < w.heap.size := by
  obtain ⟨es, clock, hb, _⟩ := h
  exact (Array.getElem?_eq_some_iff.1 hb).1
theorem MapT.of_block {w' : World} (h : MapT w b enc good l) (hb : w'.heap[b]? = w.heap[b]?) : MapT w' b enc good l := by
  obtain ⟨es, clock, h0, r⟩ := h
  exact ⟨es, clock, hb.trans h0, r⟩
theorem MapT.of_eq {l' : List (K × Value)} (h : MapT w b enc good l) (e : l = l') : MapT w b enc good l' := e ▸ h
theorem MapT.made (w : World) : MapT (w.alloc (.map #[] 0)) w.heap.size enc good [] :=
  ⟨#[], 0, (heap_alloc w _).1, stamped_empty 0, by simp [maxLen], by simp, by simp⟩
theorem MapT.length (h : MapT w b enc good l) : l.length ≤ maxLen := by
  obtain ⟨es, clock, _, _, hs, _, hm⟩ := h
  have := congrArg List.length hm
  simp at this
  omega
theorem MapT.nodup (h : MapT w b enc good l) : (l.map (·.1)).Nodup := by
  obtain ⟨es, clock, _, hst, _, _, hm⟩ := h
  have h1 : (es.toList.map (·.key)) = (l.map (·.1)).map enc := by
    have := congrArg (List.map Prod.fst) hm
    simpa [List.map_map, Function.comp_def] using this
  have h2 := hst.2.2
  rw [h1] at h2
  exact (List.pairwise_map.1 h2).imp (fun hne e => hne (by rw [e]))
theorem entry_of {es : Array MapEntry} (hm : es.toList.map (fun e => (e.key, e.val)) = l.map (fun p => (enc p.1, p.2))) {j : Nat} {e0 : MapEntry} (h : es.toList[j]? = some e0) : ∃ p, l[j]? = some p ∧ e0.key = enc p.1 ∧ e0.val = p.2 := by
  have h1 := congrArg (fun z : List (Value × Value) => z[j]?) hm
  simp only [List.getElem?_map, h, Option.map_some] at h1
  cases hp : l[j]? with
  | none => rw [hp] at h1; simp at h1
  | some p => rw [hp] at h1; simp only [Option.map_some, Option.some.injEq, Prod.mk.injEq] at h1; exact ⟨p, rfl, h1.1, h1.2⟩
theorem entries_good (KE : KeyEnc P k enc good) {es : Array MapEntry} (hg : ∀ p ∈ l, good p.1) (hm : es.toList.map (fun e => (e.key, e.val)) = l.map (fun p => (enc p.1, p.2))) : ∀ e ∈ es.toList, ∃ kl, keyOf P k e.key = some kl := by
  intro e he
  obtain ⟨j, hj⟩ := List.mem_iff_getElem?.1 he
  obtain ⟨p, hp, e1, _⟩ := entry_of hm hj
  rw [e1]
  exact KE.key (hg p (List.mem_of_getElem? hp))

theorem MapT.len (h : MapT w b enc good l) {t e : TypeId} (ht : P.underlying t = some (.map k e)) (ty : TypeId) : (Builtin.len_ #[t] ty #[.map (some b)]).run P w = .ok (.int .i64 l.length) w := by
  obtain ⟨es, clock, hb, _, _, _, hm⟩ := h
  have e1 := congrArg List.length hm
  simp at e1
  rw [← e1]
  simp [Builtin.len_, run_underlying ht, MapKept.run_getObj_map hb, goInt, Result.andThen]
end
section
variable {K : Type} [DecidableEq K] {P : Program} {k : TypeId} {enc : K → Value} {good : K → Prop} {w : World} {b : Nat} {l : List (K × Value)}
/-- The one search of all the laws. -/
theorem MapT.find (KE : KeyEnc P k enc good) {es : Array MapEntry} {clock : Nat} (hg : ∀ p ∈ l, good p.1) (hm : es.toList.map (fun e => (e.key, e.val)) = l.map (fun p => (enc p.1, p.2))) (hst : Stamped es clock) {x : K} (hx : good x) (w : World) :
    ((Instr.findKey k (enc x) es.toList).run P w = .ok none w ∧ (∀ e ∈ es.toList, e.key ≠ enc x) ∧ mget l x = none) ∨
    ∃ j e0 p, (Instr.findKey k (enc x) es.toList).run P w = .ok (some (j, e0.val)) w ∧ es.toList[j]? = some e0 ∧ e0.key = enc x ∧ l[j]? = some p ∧ p.1 = x ∧ p.2 = e0.val ∧ mget l x = some e0.val := by
  obtain ⟨kl, hkl⟩ := KE.key hx
  have hgood := entries_good KE hg hm
  rcases KE.keyed.find w hkl es.toList hgood with ⟨h1, h2⟩ | ⟨j, e0, h1, h2, h3⟩
  · refine .inl ⟨h1, h2, mget_none.2 fun p hp e => ?_⟩
    obtain ⟨j, hj⟩ := List.mem_iff_getElem?.1 hp
    have h4 := congrArg (fun z : List (Value × Value) => z[j]?) hm
    simp only [List.getElem?_map, hj, Option.map_some] at h4
    cases he : es.toList[j]? with
    | none => rw [he] at h4; simp at h4
    | some e0 =>
      rw [he] at h4
      simp only [Option.map_some, Option.some.injEq, Prod.mk.injEq] at h4
      exact h2 e0 (List.mem_of_getElem? he) (by rw [h4.1, e])
  · obtain ⟨p, hp, e1, e2⟩ := entry_of hm h2
    have hpx : p.1 = x := KE.inj (by rw [← e1, h3])
    have hnd : (l.map (·.1)).Nodup := by
      have h1' : (es.toList.map (·.key)) = (l.map (·.1)).map enc := by
        have := congrArg (List.map Prod.fst) hm
        simpa [List.map_map, Function.comp_def] using this
      have h2' := hst.2.2
      rw [h1'] at h2'
      exact (List.pairwise_map.1 h2').imp (fun hne e => hne (by rw [e]))
    exact .inr ⟨j, e0, p, h1, h2, h3, hp, hpx, e2.symm, by rw [e2]; exact mem_mget hnd (by rw [← hpx]; exact List.mem_of_getElem? hp)⟩

theorem MapT.look_hit (KE : KeyEnc P k enc good) {t e : TypeId} (ht : P.underlying t = some (.map k e)) (h : MapT w b enc good l) {x : K} (hx : good x) {v : Value} (hv : mget l x = some v) (c : Bool) :
    (Instr.lookup t (.map (some b)) (enc x) c).run P w = .ok (if c then .tuple #[v, .bool true] else v) w := by
  obtain ⟨kl, hkl⟩ := KE.key hx
  obtain ⟨es, clock, hb, hst, _, hg, hm⟩ := h
  rcases MapT.find KE hg hm hst hx w with ⟨_, _, h3⟩ | ⟨j, e0, p, h1, _, _, _, _, _, h7⟩
  · rw [h3] at hv; cases hv
  · rw [h7] at hv; cases hv
    cases c <;> simp [Instr.lookup, run_underlying ht, MapKept.run_getObj_map hb, KE.keyed.check w _ hkl, h1, Result.andThen]
theorem MapT.look_miss (KE : KeyEnc P k enc good) {t e : TypeId} (ht : P.underlying t = some (.map k e)) {z : Value} (hz : (zeroValue e).run P w = .ok z w) (h : MapT w b enc good l) {x : K} (hx : good x) (hv : mget l x = none) (c : Bool) :
    (Instr.lookup t (.map (some b)) (enc x) c).run P w = .ok (if c then .tuple #[z, .bool false] else z) w := by
  obtain ⟨kl, hkl⟩ := KE.key hx
  obtain ⟨es, clock, hb, hst, _, hg, hm⟩ := h
  rcases MapT.find KE hg hm hst hx w with ⟨h1, _, _⟩ | ⟨j, e0, p, h1, _, _, _, _, _, h7⟩
  · cases c <;> simp [Instr.lookup, run_underlying ht, MapKept.run_getObj_map hb, KE.keyed.check w _ hkl, h1, hz, Result.andThen]
  · rw [h7] at hv; cases hv
theorem put_at {es : Array MapEntry} (hm : es.toList.map (fun e => (e.key, e.val)) = l.map (fun p => (enc p.1, p.2))) (hnd : (l.map (·.1)).Nodup) {j : Nat} {p : K × Value} (hp : l[j]? = some p) (v : Value) (f : MapEntry → MapEntry)
    (hf : ∀ e0, es.toList[j]? = some e0 → (f e0).key = enc p.1 ∧ (f e0).val = v) : (es.modify j f).toList.map (fun e => (e.key, e.val)) = (mput l p.1 v).map (fun p => (enc p.1, p.2)) := by
  have hmput : ∀ (l : List (K × Value)) (j : Nat), (l.map (·.1)).Nodup → l[j]? = some p → mput l p.1 v = l.set j (p.1, v) := by
    intro l
    induction l with
    | nil => intro j _ h; simp at h
    | cons q r ih =>
      intro j hn h
      obtain ⟨y, u⟩ := q
      simp only [List.map_cons, List.nodup_cons] at hn
      cases j with
      | zero => simp at h; subst h; simp [mput]
      | succ j =>
        simp at h
        have hne : y ≠ p.1 := fun e => hn.1 (List.mem_map.2 ⟨p, List.mem_of_getElem? h, e.symm⟩)
        simp only [mput, if_neg hne, ih j hn.2 h, List.set_cons_succ]
  rw [hmput l j hnd hp]
  have hlen := congrArg List.length hm
  simp at hlen
  have hj : j < es.toList.length := by
    have := (List.getElem?_eq_some_iff.1 hp).1
    simp; omega
  have he0 : es.toList[j]? = some es.toList[j] := List.getElem?_eq_getElem hj
  obtain ⟨f1, f2⟩ := hf _ he0
  rw [Array.toList_modify, ChangeMaps.modify_eq_set _ _ _ _ he0, List.map_set, List.map_set, hm, f1, f2]

theorem MapT.store (KE : KeyEnc P k enc good) {t e : TypeId} (ht : P.underlying t = some (.map k e)) (h : MapT w b enc good l) (hn : l.length < maxLen) {x : K} (hx : good x) (v : Value) :
    ∃ es' clock', (Instr.mapUpdate t (.map (some b)) (enc x) v).run P w = .ok () (setBlock w b (.map es' clock')) ∧ Stamped es' clock' ∧ es'.size ≤ maxLen ∧ (∀ p ∈ mput l x v, good p.1) ∧ es'.toList.map (fun e => (e.key, e.val)) = (mput l x v).map (fun p => (enc p.1, p.2)) := by
  obtain ⟨kl, hkl⟩ := KE.key hx
  have hnd := h.nodup
  obtain ⟨es, clock, hb, hst, hs, hg, hm⟩ := h
  have hlen := congrArg List.length hm
  simp at hlen
  have hgood : ∀ p ∈ mput l x v, good p.1 := fun p hp => by
    rcases mput_mem hp with rfl | hp
    · exact hx
    · exact hg p hp
  rcases MapT.find KE hg hm hst hx w with ⟨h1, h2, h3⟩ | ⟨j, e0, p, h1, h2, h3, h4, h5, h6, h7⟩
  · refine ⟨es.push ⟨enc x, v, clock⟩, clock + 1, ?_, stamped_push hst h2, by simp; omega, hgood, ?_⟩
    · simp [Instr.mapUpdate, run_underlying ht, MapKept.run_getObj_map hb, KE.keyed.check w _ hkl, h1, MapKept.run_setObj_map _ hb, Result.andThen, setBlock]
    · rw [mput_new (mget_none.1 h3)]; simp [hm]
  · have hj : es[j]? = some e0 := by simpa using h2
    refine ⟨es.modify j (fun e => { e with key := enc x, val := v }), clock, ?_, stamped_modify hst _ _ (fun _ _ => rfl) (fun e1 _ he => ?_), by simp; omega, hgood, ?_⟩
    · simp [Instr.mapUpdate, run_underlying ht, MapKept.run_getObj_map hb, KE.keyed.check w _ hkl, h1, hj, h3, KE.keyed.stays w hkl, MapKept.run_setObj_map _ hb, Result.andThen, setBlock]
    · rw [hj] at he; cases he; exact h3.symm
    · have := put_at hm hnd h4 v (fun e => { e with key := enc x, val := v }) (fun _ _ => ⟨by simp [h5], rfl⟩)
      rw [h5] at this
      exact this

theorem MapT.drop (KE : KeyEnc P k enc good) {t e : TypeId} (ht : P.underlying t = some (.map k e)) (h : MapT w b enc good l) {x : K} (hx : good x) (ty : TypeId) :
    ∃ es' clock', (Builtin.delete_ #[t, k] ty #[.map (some b), enc x]).run P w = .ok (.tuple #[]) (setBlock w b (.map es' clock')) ∧ Stamped es' clock' ∧ es'.size ≤ maxLen ∧ (∀ p ∈ mdel l x, good p.1) ∧ es'.toList.map (fun e => (e.key, e.val)) = (mdel l x).map (fun p => (enc p.1, p.2)) := by
  obtain ⟨kl, hkl⟩ := KE.key hx
  have hnd := h.nodup
  obtain ⟨es, clock, hb, hst, hs, hg, hm⟩ := h
  have hgood : ∀ p ∈ mdel l x, good p.1 := fun p hp => hg p (List.mem_filter.1 hp).1
  rcases MapT.find KE hg hm hst hx w with ⟨h1, h2, h3⟩ | ⟨j, e0, p, h1, h2, h3, h4, h5, h6, h7⟩
  · refine ⟨es, clock, ?_, hst, hs, hgood, ?_⟩
    · simp [Builtin.delete_, run_underlying ht, MapKept.run_getObj_map hb, KE.keyed.check w _ hkl, h1, MapKept.run_setObj_map _ hb, Result.andThen, setBlock]
    · rw [hm]
      have : mdel l x = l := List.filter_eq_self.2 (fun p hp => by simpa using mget_none.1 h3 p hp)
      rw [this]
  · have hjl : j < es.toList.length := (List.getElem?_eq_some_iff.1 h2).1
    have hsub : (es.eraseIdxIfInBounds j).toList = es.toList.eraseIdx j := by
      unfold Array.eraseIdxIfInBounds
      rw [dif_pos (by simpa using hjl)]
      simp
    have hdel : ∀ (l : List (K × Value)) (j : Nat), (l.map (·.1)).Nodup → l[j]? = some p → mdel l p.1 = l.eraseIdx j := by
      intro l
      induction l with
      | nil => intro j _ h; simp at h
      | cons q r ih =>
        intro j hn h
        simp only [List.map_cons, List.nodup_cons] at hn
        cases j with
        | zero =>
          simp at h
          subst h
          have hr : mdel r q.1 = r := List.filter_eq_self.2 (fun p hp => by
            have : p.1 ≠ q.1 := fun e => hn.1 (List.mem_map.2 ⟨p, hp, e⟩)
            simpa using this)
          simp only [List.eraseIdx_cons_zero]
          rw [← hr]
          simp [mdel]
        | succ j =>
          simp at h
          have hne : q.1 ≠ p.1 := fun e => hn.1 (List.mem_map.2 ⟨p, List.mem_of_getElem? h, e.symm⟩)
          simp only [List.eraseIdx_cons_succ, ← ih j hn.2 h]
          simp [mdel, hne]
    refine ⟨es.eraseIdxIfInBounds j, clock, ?_, stamped_erase hst j, ?_, hgood, ?_⟩
    · simp [Builtin.delete_, run_underlying ht, MapKept.run_getObj_map hb, KE.keyed.check w _ hkl, h1, MapKept.run_setObj_map _ hb, Result.andThen, setBlock]
    · rw [← Array.length_toList, hsub]
      have := List.length_eraseIdx_le es.toList j
      simp at this
      omega
    · rw [hsub, map_eraseIdx, hm, ← h5, hdel l j hnd h4, map_eraseIdx]

/-- 'm[k] = f(m[k])': the entry, and what is stored at it. -/
theorem MapT.entry (KE : KeyEnc P k enc good) {t e : TypeId} (ht : P.underlying t = some (.map k e)) {z : Value} (hz : ∀ u : World, (zeroValue e).run P u = .ok z u) (h : MapT w b enc good l) (hn : l.length < maxLen) {x : K} (hx : good x) :
    ∃ (st : Nat) (es1 : Array MapEntry) (clock1 : Nat), (∀ u : World, u.heap[b]? = w.heap[b]? → (Instr.mapEntry t (.map (some b)) (enc x)).run P u = .ok (.tuple #[(mget l x).getD z, goInt st]) (setBlock u b (.map es1 clock1))) ∧
      ∀ (v : Value), ∃ es' clock', (∀ u : World, u.heap[b]? = some (.map es1 clock1) → (Instr.entryStore t (.map (some b)) (goInt st) v).run P u = .ok () (setBlock u b (.map es' clock'))) ∧
        Stamped es' clock' ∧ es'.size ≤ maxLen ∧ (∀ p ∈ mput l x v, good p.1) ∧ es'.toList.map (fun e => (e.key, e.val)) = (mput l x v).map (fun p => (enc p.1, p.2)) := by
  obtain ⟨kl, hkl⟩ := KE.key hx
  have hnd := h.nodup
  obtain ⟨es, clock, hb, hst, hs, hg, hm⟩ := h
  have hlen := congrArg List.length hm
  simp at hlen
  obtain ⟨s1, s2, s3⟩ := hst
  have hgood : ∀ v, ∀ p ∈ mput l x v, good p.1 := fun v p hp => by
    rcases mput_mem hp with rfl | hp
    · exact hx
    · exact hg p hp
  rcases MapT.find KE hg hm ⟨s1, s2, s3⟩ hx w with ⟨h1, h2, h3⟩ | ⟨j, e0, p, h1, h2, h3, h4, h5, h6, h7⟩
  · refine ⟨clock, es.push ⟨enc x, z, clock⟩, clock + 1, fun u hu => ?_, fun v => ⟨es.push ⟨enc x, v, clock⟩, clock + 1, fun u hu => ?_, stamped_push ⟨s1, s2, s3⟩ h2, by simp; omega, hgood v, ?_⟩⟩
    · rw [hb] at hu
      have h1u : (Instr.findKey k (enc x) es.toList).run P u = .ok none u := by
        rcases MapT.find KE hg hm ⟨s1, s2, s3⟩ hx u with ⟨g1, _, _⟩ | ⟨j, e0, p, g1, _, _, _, _, _, g7⟩
        · exact g1
        · rw [h3] at g7; cases g7
      simp [Instr.mapEntry, run_underlying ht, MapKept.run_getObj_map hu, KE.keyed.check u false hkl, h1u, hz, h3, MapKept.run_setObj_map _ hu, Result.andThen, setBlock]
    · have hidx : (es.push ⟨enc x, z, clock⟩).findIdx? (fun e => ((e.born : Nat) : Int) == ((clock : Nat) : Int)) = some es.size := by
        rw [WideElems.findIdx_arr]
        exact WideElems.findIdx_born (l := (es.push ⟨enc x, z, clock⟩).toList) (j := es.size) (e0 := ⟨enc x, z, clock⟩) (by
          simp only [Array.toList_push, List.map_append, List.map_cons, List.map_nil]
          refine List.nodup_append.2 ⟨s2, by simp, fun a ha c hc e1 => ?_⟩
          simp only [List.mem_singleton] at hc
          obtain ⟨x, hx, rfl⟩ := List.mem_map.1 ha
          have := s1 x hx
          omega) (by simp)
      have hmod : (es.push ⟨enc x, z, clock⟩).modify es.size (fun e => { e with val := v }) = es.push ⟨enc x, v, clock⟩ := by
        apply Array.ext'
        rw [Array.toList_modify, Array.toList_push, Array.toList_push, ← Array.length_toList, WideElems.modify_last]
      simp [Instr.entryStore, MapKept.run_getObj_map hu, asInt, asIntOf, goInt, hidx, hmod, MapKept.run_setObj_map _ hu, Result.andThen, setBlock]
    · rw [mput_new (mget_none.1 h3)]; simp [hm]
  · have hj : es[j]? = some e0 := by simpa using h2
    have hsame : es.modify j (fun e => { e with key := enc x }) = es := by
      apply Array.ext'
      rw [Array.toList_modify, ChangeMaps.modify_eq_set _ _ _ _ h2]
      have : ({ e0 with key := enc x } : MapEntry) = e0 := by rw [← h3]
      rw [this]
      exact WideElems.set_self _ _ _ h2
    refine ⟨e0.born, es, clock, fun u hu => ?_, fun v => ⟨es.modify j (fun e' => { e' with val := v }), clock, fun u hu => ?_, stamped_modify ⟨s1, s2, s3⟩ _ _ (fun _ _ => rfl) (fun _ _ _ => rfl), by simp; omega, hgood v, ?_⟩⟩
    · rw [hb] at hu
      have h1u : (Instr.findKey k (enc x) es.toList).run P u = .ok (some (j, e0.val)) u := by
        rcases KE.keyed.find u hkl es.toList (entries_good KE hg hm) with ⟨_, g2⟩ | ⟨j', e', g1, g2, g3⟩
        · exact absurd h3 (g2 e0 (List.mem_of_getElem? h2))
        · have hjj : j' = j := by
            have l1 := (List.getElem?_eq_some_iff.1 h2).1
            have l2 := (List.getElem?_eq_some_iff.1 g2).1
            have k1 : (es.toList.map (·.key))[j]'(by simpa using l1) = enc x := by
              have := (List.getElem?_eq_some_iff.1 h2).2
              simp only [List.getElem_map, this, h3]
            have k2 : (es.toList.map (·.key))[j']'(by simpa using l2) = enc x := by
              have := (List.getElem?_eq_some_iff.1 g2).2
              simp only [List.getElem_map, this, g3]
            exact (List.getElem_inj s3).1 (k2.trans k1.symm)
          subst hjj
          rw [h2] at g2
          cases g2
          exact g1
      simp [Instr.mapEntry, run_underlying ht, MapKept.run_getObj_map hu, KE.keyed.check u false hkl, h1u, hj, h3, h7, KE.keyed.stays u hkl, hsame, MapKept.run_setObj_map _ hu, Result.andThen, setBlock]
    · have hidx : es.findIdx? (fun e => ((e.born : Nat) : Int) == ((e0.born : Nat) : Int)) = some j := by
        rw [WideElems.findIdx_arr]
        exact WideElems.findIdx_born s2 h2
      simp [Instr.entryStore, MapKept.run_getObj_map hu, asInt, asIntOf, goInt, hidx, MapKept.run_setObj_map _ hu, Result.andThen, setBlock]
    · have := put_at hm hnd h4 v (fun e => { e with val := v }) (fun e1 he => ⟨by rw [h2] at he; cases he; simp [h3, h5], rfl⟩)
      rw [h5] at this
      exact this
end
end Go.Proofs.Ytmgcmheiabmajab
end
section
/- The laws of maps at the operation, for the walk. -/
namespace Go.Proofs.Ytmgcmheiabmajab
open Go Go.Maps Go.MapKept Go.ChangeMaps

theorem heap_setBlock_eq {w : World} {b : Nat} (o : Obj) (h : b < w.heap.size) : (setBlock w b o).heap[b]? = some o := by
  unfold setBlock
  simp [h]
section
variable {K : Type} [DecidableEq K] {P : Program} {k : TypeId} {enc : K → Value} {good : K → Prop} (w : World) {b : Nat} {l : List (K × Value)}
variable {ops : Array Oper} {rest : List Oper} {o : Oper} {a : Act} {Q : Exit → Act → World → Prop}

theorem wpList_mt_store (hgd : o.guard = none) (m x v : Operand) (t e : TypeId) (hop : o.op = Op.mapUpdate t m x v) (KE : KeyEnc P k enc good) (ht : P.underlying t = some (.map k e)) (hM : MapT w b enc good l) (hn : l.length < maxLen) {xk : K} (hx : good xk)
    (hm : a.eval m = .map (some b)) (hxe : a.eval x = enc xk) (y : Value) (hv : a.eval v = y)
    (hK : ∀ w', MapT w' b enc good (mput l xk y) → Touch [b] w w' → wpList P ops Q rest (a.put o.dst undef) w') : wpList P ops Q (o :: rest) a w := by
  refine wpList_plain hgd fun K' hK' => ?_
  obtain ⟨es', clock', hrun, r1, r2, r3, r4⟩ := hM.store KE ht hn hx y
  unfold Oper.wp
  simp [execOp, hop, hm, hxe, hv, hrun, Result.andThen]
  exact hK' _ _ (hK _ ⟨es', clock', heap_setBlock_eq _ hM.lt, r1, r2, r3, r4⟩ ((Touch.refl _ _).setBlock b _ (by simp)))

theorem wpList_mt_delete (hgd : o.guard = none) (m x : Operand) (t e : TypeId) (hop : o.op = Op.call { callee := Callee.builtin Builtin.delete, args := #[m, x], argTypes := #[t, k] }) (KE : KeyEnc P k enc good) (ht : P.underlying t = some (.map k e)) (hM : MapT w b enc good l) {xk : K} (hx : good xk)
    (hm : a.eval m = .map (some b)) (hxe : a.eval x = enc xk)
    (hK : ∀ w', MapT w' b enc good (mdel l xk) → Touch [b] w w' → wpList P ops Q rest (a.put o.dst (.tuple #[])) w') : wpList P ops Q (o :: rest) a w := by
  refine wpList_plain hgd fun K' hK' => ?_
  obtain ⟨es', clock', hrun, r1, r2, r3, r4⟩ := hM.drop KE ht hx o.type
  unfold Oper.wp
  simp [execOp, hop, resolve, invoke, builtin, hm, hxe, hrun, Result.andThen]
  exact hK' _ _ (hK _ ⟨es', clock', heap_setBlock_eq _ hM.lt, r1, r2, r3, r4⟩ ((Touch.refl _ _).setBlock b _ (by simp)))
end

/-- append, as one step of a region that draws its order. -/
theorem step_append_at {P : Program} {w : World} {ops : Array Oper} {o : Oper} {a : Act} {K : Act → World → Prop} {Q : Exit → Act → World → Prop} {E : Prop} (hgd : o.guard = none) (s x : Operand) (t : TypeId)
    (ho : o.op = .call { callee := .builtin .append, args := #[s, x], argTypes := #[t, t] })
    (base : Nat) (e : TypeId) (i : TypeInfo) (z : Value) (size bytes : Nat) (ht : P.underlying t = some (.slice e)) (hi : P.info? e = some i) (hz : i.zero = some z)
    (hsize : i.size = size) (hby : i.bytes = bytes) (hzs : z.cells.size = size) (hsz : 0 < size)
    (v : Value) (n : Nat) (xs : List Value) (hs : a.eval s = v) (hown : w.ownsRow base e size v n xs)
    (ad : Addr) (m c : Nat) (news : List Value) (hx : a.eval x = .slice (some ad) m c) (hl : news.length = m * size) (hnews : ∀ j u, news[j]? = some u → w.cell? (ad.add j) = some u) (h1 : ∀ u ∈ news, u.oneCell' = true)
    (h63 : n + m ≤ maxLen) (hbytes : (n + m) * bytes ≤ 140737488355328) (hbase : base ≤ w.heap.size)
    (h : ∀ v' w', w'.ownsRow base e size v' (n + m) (xs ++ news) → w.grownBy w' v.ownBlock → (v'.ownBlock = v.ownBlock ∨ v'.ownBlock = some w.heap.size) → K (a.put o.dst v') w') :
    if Region.wanted o (yielded ops a.tmps) = true then Oper.wp P o a w K Q else E := by
  have hw : Region.wanted o (yielded ops a.tmps) = true := by simp [Region.wanted, hgd]
  rw [if_pos hw]
  obtain ⟨v', w', hr, h2, h3, _, h5⟩ := run_append_own_at (P := P) w base t o.type e i z size bytes ht hi hz hsize hby hzs hsz v n xs hown ad m c news hl hnews h1 h63 hbytes hbase
  unfold Oper.wp execOp
  simp only [ho, resolve, invoke, builtin, Sem.run_bind, Sem.run_pure, Result.andThen_ok, List.map_toArray, List.map_cons, List.map_nil, hs, hx, hr]
  exact h v' w' h2 h3 h5
/-- The cells to be appended, out of a block that is known whole. -/
theorem news_of {w : World} {B : Nat} {cs : Array Value} {t : TypeId} {fr : Nat × Nat} (hb : w.heap[B]? = some (.cells cs t fr)) : ∀ j u, cs.toList[j]? = some u → w.cell? ((⟨B, 0, none⟩ : Addr).add j) = some u := fun j u hu => by
  have hadd : (⟨B, 0, none⟩ : Addr).add j = ⟨B, j, none⟩ := by unfold Addr.add; split <;> simp_all
  rw [hadd, cell_of hb]
  simpa using hu
end Go.Proofs.Ytmgcmheiabmajab
end
section
/- append of a row that is read, nil or not, onto a row of the call's own. -/
namespace Go.Proofs.Ytmgcmheiabmajab
open Go Go.RowKit Go.Maps Go.MapKept Go.ChangeMaps

/-- What is appended: nothing, or cells at an address. -/
def Src (w : World) (A : Option Addr) (m size : Nat) (news : List Value) : Prop := (A = none ∧ m = 0 ∧ news = []) ∨ ∃ ad, A = some ad ∧ news.length = m * size ∧ ∀ j u, news[j]? = some u → w.cell? (ad.add j) = some u
theorem Src.own {w : World} {base n cp size : Nat} {e : TypeId} {A : Option Addr} {xs : List Value} (h : w.ownsRow base e size (.slice A n cp) n xs) : Src w A n size xs := by
  have hc := fun g => h.cells (g := g)
  rcases h.2 with ⟨h0, h1⟩ | ⟨g, cap, cur, hv, _⟩
  · cases h0
    have h2 := h.1
    simp at h2
    exact .inl ⟨rfl, rfl, h2⟩
  · cases hv
    exact .inr ⟨_, rfl, h.1, hc g rfl⟩
section
variable {P : Program}
theorem run_append_src (w : World) (base : Nat) (t ty e : TypeId) (i : TypeInfo) (z : Value) (size bytes : Nat) (ht : P.underlying t = some (.slice e)) (hi : P.info? e = some i) (hz : i.zero = some z)
    (hsize : i.size = size) (hby : i.bytes = bytes) (hzs : z.cells.size = size) (hsz : 0 < size)
    (v : Value) (n : Nat) (xs : List Value) (hown : w.ownsRow base e size v n xs) (A : Option Addr) (m c : Nat) (news : List Value) (hr : Src w A m size news) (h1 : ∀ u ∈ news, u.oneCell' = true)
    (h63 : n + m ≤ maxLen) (hbytes : (n + m) * bytes ≤ 140737488355328) (hbase : base ≤ w.heap.size) :
    ∃ v' w', (Builtin.append_ #[t, t] ty #[v, .slice A m c]).run P w = .ok v' w' ∧ w'.ownsRow base e size v' (n + m) (xs ++ news) ∧ w.grownBy w' v.ownBlock ∧ (v'.ownBlock = v.ownBlock ∨ v'.ownBlock = some w.heap.size) := by
  rcases hr with ⟨rfl, rfl, rfl⟩ | ⟨ad, rfl, hl, hnews⟩
  · refine ⟨v, w, ?_, by simpa using hown, World.grownBy.refl w _, .inl rfl⟩
    rcases hown.2 with ⟨rfl, rfl⟩ | ⟨g, cap, cur, rfl, _, _, hnc, _⟩
    · simp [Builtin.append_, run_underlying ht, sizeOf, typeInfo, hi, Builtin.lenOf, Builtin.firstCells]
    · simp [Builtin.append_, run_underlying ht, sizeOf, typeInfo, hi, Builtin.lenOf, Builtin.firstCells, hnc, storeCells]
  · obtain ⟨v', w', hr, h2, h3, _, h5⟩ := run_append_own_at (P := P) w base t ty e i z size bytes ht hi hz hsize hby hzs hsz v n xs hown ad m c news hl hnews h1 h63 hbytes hbase
    exact ⟨v', w', hr, h2, h3, h5⟩
theorem wpList_append_src (w : World) {ops : Array Oper} {rest : List Oper} {o : Oper} {a : Act} {Q : Exit → Act → World → Prop} (hgd : o.guard = none) (s x : Operand) (t : TypeId)
    (ho : o.op = .call { callee := .builtin .append, args := #[s, x], argTypes := #[t, t] })
    (base : Nat) (e : TypeId) (i : TypeInfo) (z : Value) (size bytes : Nat) (ht : P.underlying t = some (.slice e)) (hi : P.info? e = some i) (hz : i.zero = some z)
    (hsize : i.size = size) (hby : i.bytes = bytes) (hzs : z.cells.size = size) (hsz : 0 < size)
    (v : Value) (n : Nat) (xs : List Value) (hs : a.eval s = v) (hown : w.ownsRow base e size v n xs)
    (A : Option Addr) (m c : Nat) (news : List Value) (hx : a.eval x = .slice A m c) (hr : Src w A m size news) (h1 : ∀ u ∈ news, u.oneCell' = true)
    (h63 : n + m ≤ maxLen) (hbytes : (n + m) * bytes ≤ 140737488355328) (hbase : base ≤ w.heap.size)
    (h : ∀ v' w', w'.ownsRow base e size v' (n + m) (xs ++ news) → w.grownBy w' v.ownBlock → (v'.ownBlock = v.ownBlock ∨ v'.ownBlock = some w.heap.size) → wpList P ops Q rest (a.put o.dst v') w') :
    wpList P ops Q (o :: rest) a w := by
  refine wpList_plain hgd fun K hK => ?_
  obtain ⟨v', w', hr, h2, h3, h4⟩ := run_append_src (P := P) w base t o.type e i z size bytes ht hi hz hsize hby hzs hsz v n xs hown A m c news hr h1 h63 hbytes hbase
  unfold Oper.wp execOp
  simp only [ho, resolve, invoke, builtin, Sem.run_bind, Sem.run_pure, Result.andThen_ok, List.map_toArray, List.map_cons, List.map_nil, hs, hx, hr]
  exact hK _ _ (h v' w' h2 h3 h4)
theorem step_append_src {w : World} {ops : Array Oper} {o : Oper} {a : Act} {K : Act → World → Prop} {Q : Exit → Act → World → Prop} {E : Prop} (hgd : o.guard = none) (s x : Operand) (t : TypeId)
    (ho : o.op = .call { callee := .builtin .append, args := #[s, x], argTypes := #[t, t] })
    (base : Nat) (e : TypeId) (i : TypeInfo) (z : Value) (size bytes : Nat) (ht : P.underlying t = some (.slice e)) (hi : P.info? e = some i) (hz : i.zero = some z)
    (hsize : i.size = size) (hby : i.bytes = bytes) (hzs : z.cells.size = size) (hsz : 0 < size)
    (v : Value) (n : Nat) (xs : List Value) (hs : a.eval s = v) (hown : w.ownsRow base e size v n xs)
    (A : Option Addr) (m c : Nat) (news : List Value) (hx : a.eval x = .slice A m c) (hr : Src w A m size news) (h1 : ∀ u ∈ news, u.oneCell' = true)
    (h63 : n + m ≤ maxLen) (hbytes : (n + m) * bytes ≤ 140737488355328) (hbase : base ≤ w.heap.size)
    (h : ∀ v' w', w'.ownsRow base e size v' (n + m) (xs ++ news) → w.grownBy w' v.ownBlock → (v'.ownBlock = v.ownBlock ∨ v'.ownBlock = some w.heap.size) → K (a.put o.dst v') w') :
    if Region.wanted o (yielded ops a.tmps) = true then Oper.wp P o a w K Q else E := by
  have hw : Region.wanted o (yielded ops a.tmps) = true := by simp [Region.wanted, hgd]
  rw [if_pos hw]
  obtain ⟨v', w', hr, h2, h3, h4⟩ := run_append_src (P := P) w base t o.type e i z size bytes ht hi hz hsize hby hzs hsz v n xs hown A m c news hr h1 h63 hbytes hbase
  unfold Oper.wp execOp
  simp only [ho, resolve, invoke, builtin, Sem.run_bind, Sem.run_pure, Result.andThen_ok, List.map_toArray, List.map_cons, List.map_nil, hs, hx, hr]
  exact h v' w' h2 h3 h4
end
/-- A row of the call's own is kept where its block is. -/
theorem own_touch' {w w' : World} {S : List Nat} {base : Nat} {e : TypeId} {size : Nat} {v : Value} {n : Nat} {xs : List Value} (h : w.ownsRow base e size v n xs) (ht : Touch S w w') (hs : ∀ i, v.ownBlock = some i → i ∉ S) : w'.ownsRow base e size v n xs := by
  refine ⟨h.1, ?_⟩
  rcases h.2 with hn | ⟨g, cap, cur, rfl, hb, hgg, rest⟩
  · exact .inl hn
  · exact .inr ⟨g, cap, cur, rfl, hb, (ht.block g (heap_lt hgg) (hs g rfl)).trans hgg, rest⟩
theorem own_slice2 {w : World} {base n : Nat} {e : TypeId} {size : Nat} {v : Value} {xs : List Value} (h : w.ownsRow base e size v n xs) : ∃ A c, v = .slice A n c := by
  rcases h.2 with ⟨rfl, rfl⟩ | ⟨g, cap, cur, rfl, _⟩
  · exact ⟨none, 0, rfl⟩
  · exact ⟨_, cap, rfl⟩
end Go.Proofs.Ytmgcmheiabmajab
end
section
/- Rows of the call's own: where they lie, what an append to them leaves. -/
namespace Go.Proofs.Ytmgcmheiabmajab
open Go Go.RowKit

theorem own_down {w : World} {base base' n size : Nat} {e : TypeId} {v : Value} {xs : List Value} (h : w.ownsRow base e size v n xs) (hb : base' ≤ base) : w.ownsRow base' e size v n xs := by
  refine ⟨h.1, ?_⟩
  rcases h.2 with h0 | ⟨g, cap, cur, rfl, h1, rest⟩
  · exact .inl h0
  · exact .inr ⟨g, cap, cur, rfl, Nat.le_trans hb h1, rest⟩
theorem own_base {w : World} {base n size : Nat} {e : TypeId} {v : Value} {xs : List Value} (h : w.ownsRow base e size v n xs) {i : Nat} (hi : v.ownBlock = some i) : base ≤ i ∧ i < w.heap.size := by
  rcases h.2 with ⟨rfl, _⟩ | ⟨g, cap, cur, rfl, hb, hg, _⟩
  · cases hi
  · cases hi
    exact ⟨hb, heap_lt hg⟩
theorem own_list {w : World} {base n size : Nat} {e : TypeId} {v : Value} {xs : List Value} (h : w.ownsRow base e size v n xs) : ∀ i ∈ v.ownBlock.toList, base ≤ i ∧ i < w.heap.size := fun i hi => own_base h (by simpa using hi)
theorem own_addr {w : World} {base n n' c size : Nat} {e : TypeId} {A : Option Addr} {xs : List Value} (h : w.ownsRow base e size (.slice A n c) n' xs) {a : Addr} (ha : A = some a) : base ≤ a.block ∧ a.block < w.heap.size := by
  rcases h.2 with ⟨h0, _⟩ | ⟨g, cap, cur, h0, hb, hg, _⟩
  · cases h0; cases ha
  · cases h0; cases ha; exact ⟨hb, heap_lt hg⟩
theorem grown_touch {w w' : World} {v : Value} (hg : w.grownBy w' v.ownBlock) : Touch v.ownBlock.toList w w' :=
  (Touch.refl _ _).grownBy hg (fun k hk => .inl (by rw [hk]; simp))
/-- A row's block is of its elements' type. -/
theorem own_ne {w : World} {base n size : Nat} {e : TypeId} {v : Value} {xs : List Value} (h : w.ownsRow base e size v n xs) {g : Nat} {cs : Array Value} {t : TypeId} {fr : Nat × Nat} (hg : w.heap[g]? = some (.cells cs t fr)) (ht : t ≠ e) {i : Nat} (hi : v.ownBlock = some i) : i ≠ g := by
  rcases h.2 with ⟨rfl, _⟩ | ⟨b, cap, cur, rfl, _, hb, _⟩
  · cases hi
  · cases hi
    intro e2
    subst e2
    rw [hb] at hg
    simp only [Option.some.injEq, Obj.cells.injEq] at hg
    exact ht hg.2.1.symm
end Go.Proofs.Ytmgcmheiabmajab
end
section
/- A region that draws its order, whose calls make memory but leave all that was there as it was: one walk in the order of the text. -/
namespace Go.Proofs.Ytmgcmheiabmajab
open Go Go.RowKit

/-- A world in which all that was in W stands as it was. -/
structure TW (W : World) where
  w : World
  t : Touch [] W w
instance (W : World) : Nonempty (TW W) := ⟨⟨W, Touch.refl _ _⟩⟩
theorem TW.cell {W : World} {a : Addr} {v : Value} (hc : W.cell? a = some v) : ∀ x : TW W, x.w.cell? a = some v := fun x => x.t.cell hc (by simp)
theorem TW.call {P : Program} {W : World} {x : TW W} {f : FuncId} {args : Array Value} {v : Value} (h : Calls P f args x.w fun e w' => e = .returned v ∧ Touch [] x.w w') :
    Calls P f args x.w fun e w' => e = .returned v ∧ ∃ y : TW W, w' = y.w :=
  h.mono fun _ w' ⟨he, ht⟩ => ⟨he, ⟨w', x.t.trans ht (by simp)⟩, rfl⟩
theorem TW.call_below {P : Program} {W : World} {x : TW W} {f : FuncId} {args : Array Value} {v : Value} (h : Calls P f args x.w fun e w' => e = .returned v ∧ Below x.w.heap.size x.w w') :
    Calls P f args x.w fun e w' => e = .returned v ∧ ∃ y : TW W, w' = y.w :=
  TW.call (h.mono fun _ _ ⟨he, hb⟩ => ⟨he, Touch.of_below hb⟩)
theorem TW.call_same {P : Program} {W : World} {x : TW W} {f : FuncId} {args : Array Value} {v : Value} (h : Calls P f args x.w fun e w' => e = .returned v ∧ x.w = w') :
    Calls P f args x.w fun e w' => e = .returned v ∧ ∃ y : TW W, w' = y.w :=
  h.mono fun _ _ ⟨he, hw⟩ => ⟨he, x, hw.symm⟩
theorem wp_region_tw {P : Program} {id : Nat} {Q : Exit → Act → World → Prop} {a : Act} {w : World} {l : List Oper} (hm : P.follows .mixedOrders = true) (hB : Region.lexB .any l.toArray = true)
    (h : wpQuiet P l.toArray (fun w' => ∃ x : TW w, w' = x.w) (fun a' => ∀ w', (∃ x : TW w, w' = x.w) → Q .normal a' w') l a) : (Code.region id l.toArray true).wp P Q a w :=
  wp_region_quiet (C := fun w' => ∃ x : TW w, w' = x.w) hm hB ⟨⟨w.drew, (Touch.refl _ _).drew⟩, rfl⟩ (by simpa using h)
end Go.Proofs.Ytmgcmheiabmajab
end
section
/- load: the printed methods, as contracts in plain words. -/
namespace Go.Proofs.Ytmgcmheiabmajab
open Go Go.RowKit

structure OpL where
  kind : Int
  n : Int
  s : ByteArray
  r : ByteArray
def opC (o : OpL) : List Value := [.int .i64 o.kind, .int .i64 o.n, .string o.s, .string o.r]
def opV (o : OpL) : Value := .agg #[.int .i64 o.kind, .int .i64 o.n, .string o.s, .string o.r]
def noS : ByteArray := ⟨#[]⟩
def bare (w : World) : World := { w with heap := #[] }
theorem below_bare (w : World) : Below (bare w).heap.size (bare w) w := ⟨rfl, rfl, rfl, Nat.zero_le _, fun i hi => absurd hi (Nat.not_lt_zero i)⟩
theorem touch_of {w w' : World} {g : Nat} (hb : Below (bare w).heap.size (bare w) w') (hk : Go.Proofs.YtmgcmheiabmajabW.PrintWords.KeepBut w w' g none) : Touch [g] w w' :=
  ⟨hb.os, hb.tape, hb.output, hk.1, fun i hi hg => hk.2 i hi (by simpa using hg) (by simp)⟩
theorem client_any {w : World} {g : Nat} {x c : Int} (h : MkB w g x c) (h1 : 1 ≤ c) (h2 : c ≤ 65536) :
    Calls Try.prog 24 #[.pointer (some ⟨g, 0, none⟩)] w fun e w' => e = .returned (.int .i64 (dr x c)) ∧ MkB w' g (nx x) c ∧ Touch [g] w w' := by
  have hf : Pb.load_maker_client.f x c = some (dr x c, nx x, c) := by
    unfold Pb.load_maker_client.f Pb.load_maker_draw.f
    rw [if_pos ⟨h1, h2⟩]
    rfl
  exact (Pb.load_maker_client.calls g x c _ _ _ (bare w) w ⟨h, Nat.zero_le _⟩ (below_bare w) hf).mono fun e w' ⟨he, hi, hb, hk⟩ => ⟨he, hi.1, touch_of hb hk⟩
def rareM (x c d : Int) : OpL × Int :=
  if dr x 8 = 0 then (⟨5, 1, noS, noS⟩, nx x) else if dr x 8 = 1 then (⟨8, 0, noS, noS⟩, nx x) else if dr x 8 = 2 then (⟨6, dr (nx x) c, noS, noS⟩, nx (nx x)) else (⟨7, d, noS, noS⟩, nx x)
theorem rare_any {w : World} {g : Nat} {x c : Int} (h : MkB w g x c) (d : Int) (h1 : 1 ≤ c) (h2 : c ≤ 65536) :
    Calls Try.prog 26 #[.pointer (some ⟨g, 0, none⟩), .int .i64 d] w fun e w' => e = .returned (opV (rareM x c d).1) ∧ MkB w' g (rareM x c d).2 c ∧ Touch [g] w w' := by
  have hf : Pb.load_maker_rare.f x c d = some ((rareM x c d).1.kind, (rareM x c d).1.n, (rareM x c d).1.s, (rareM x c d).1.r, (rareM x c d).2, c) := by
    unfold Pb.load_maker_rare.f rareM Pb.load_maker_draw.f Pb.load_maker_client.f Pb.load_maker_draw.f
    rw [if_pos ⟨by decide, by decide⟩, Option.bind_some]
    dsimp only
    by_cases a0 : dr x 8 = 0
    · simp only [if_pos a0]; rfl
    by_cases a1 : dr x 8 = 1
    · simp only [if_neg a0, if_pos a1]; rfl
    by_cases a2 : dr x 8 = 2
    · simp only [if_neg a0, if_neg a1, if_pos a2, if_pos (show 1 ≤ c ∧ c ≤ 65536 from ⟨h1, h2⟩)]; rfl
    · simp only [if_neg a0, if_neg a1, if_neg a2]; rfl
  exact (Pb.load_maker_rare.calls g x c d _ _ _ _ _ _ (bare w) w ⟨h, Nat.zero_le _⟩ (below_bare w) hf).mono fun e w' ⟨he, hi, hb, hk⟩ => ⟨he, hi.1, touch_of hb hk⟩
theorem rrare_any {w : World} {g : Nat} {x : Int} (h : StB w g x) (c d : Int) (h1 : 1 ≤ c) (h2 : c ≤ 65536) :
    Calls Try.prog 30 #[.pointer (some ⟨g, 0, none⟩), .int .i64 c, .int .i64 d] w fun e w' => e = .returned (opV (rareM x c d).1) ∧ StB w' g (rareM x c d).2 ∧ Touch [g] w w' := by
  have hf : Pb.pontoonref30_State_rare.f x c d = some ((rareM x c d).1.kind, (rareM x c d).1.n, (rareM x c d).1.s, (rareM x c d).1.r, (rareM x c d).2) := by
    unfold Pb.pontoonref30_State_rare.f rareM Pb.pontoonref30_State_draw.f
    rw [if_pos ⟨by decide, by decide⟩, Option.bind_some]
    dsimp only
    by_cases a0 : dr x 8 = 0
    · simp only [if_pos a0]; rfl
    by_cases a1 : dr x 8 = 1
    · simp only [if_neg a0, if_pos a1]; rfl
    by_cases a2 : dr x 8 = 2
    · simp only [if_neg a0, if_neg a1, if_pos a2, if_pos (show 1 ≤ c ∧ c ≤ 65536 from ⟨h1, h2⟩)]; rfl
    · simp only [if_neg a0, if_neg a1, if_neg a2]; rfl
  exact (Pb.pontoonref30_State_rare.calls g x c d _ _ _ _ _ (bare w) w ⟨h, Nat.zero_le _⟩ (below_bare w) hf).mono fun e w' ⟨he, hi, hb, hk⟩ => ⟨he, hi.1, touch_of hb hk⟩
theorem query_any (c : Int) (s : ByteArray) (w : World) : Calls Try.prog 23 #[.int .i64 c, .string s] w fun e w' => e = .returned (.agg #[.int .i64 2, .int .i64 c, .string s, .string ⟨#[]⟩]) ∧ Touch [] w w' :=
  (Pb.load_query.calls c s _ _ _ _ w rfl).mono fun _ _ ⟨he, hb⟩ => ⟨he, Touch.of_below hb⟩
theorem ask_any (c : Int) (s : ByteArray) (w : World) : Calls Try.prog 28 #[.int .i64 c, .string s] w fun e w' => e = .returned (.agg #[.int .i64 2, .int .i64 c, .string s, .string ⟨#[]⟩]) ∧ Touch [] w w' :=
  (Pb.pontoonref30_ask.calls c s _ _ _ _ w rfl).mono fun _ _ ⟨he, hb⟩ => ⟨he, Touch.of_below hb⟩
theorem Digits_any (k : Int) (h0 : 0 ≤ k) (h1 : k < 10) (w : World) : Calls Try.prog 29 #[.int .i64 k] w fun e w' => e = .returned (.string (dg k)) ∧ Touch [] w w' := by
  have hf : Pb.pontoonref01_Digits.f 1 k = some (dg k) := by
    unfold Pb.pontoonref01_Digits.f
    rw [if_neg (by omega), if_pos (by omega), IntWalk.wrap64_in _ (by omega), show (48 + k) % 256 = 48 + k by omega]
    rfl
  exact (Pb.pontoonref01_Digits.calls 1 k _ w hf).mono fun _ _ ⟨he, hb⟩ => ⟨he, Touch.of_below hb⟩
end Go.Proofs.Ytmgcmheiabmajab
end
section
/- load: one thing that happens, in plain words; its world. -/
namespace Go.Proofs.Ytmgcmheiabmajab
open Go Go.RowKit

def selS : ByteArray := ⟨#[115, 101, 108, 101, 99, 116, 32, 42, 32, 102, 114, 111, 109, 32]⟩
def insS : ByteArray := ⟨#[105, 110, 115, 101, 114, 116, 32, 105, 110, 116, 111, 32, 116, 32, 118, 97, 108, 117, 101, 115, 32, 40, 32]⟩
def comS : ByteArray := ⟨#[32, 44, 32]⟩
def cloS : ByteArray := ⟨#[32, 41]⟩
def updS : ByteArray := ⟨#[117, 112, 100, 97, 116, 101, 32, 117, 32, 115, 101, 116, 32, 118, 32, 61, 32, 118, 32, 43, 32, 49, 32, 119, 104, 101, 114, 101, 32, 107, 32, 61, 32]⟩
def tabS (a : Int) : ByteArray := if a % 2 = 0 then ⟨#[116]⟩ else ⟨#[117]⟩
def bndS (k : Int) : ByteArray := if k = 0 then ⟨#[98, 101, 103, 105, 110]⟩ else if k = 1 then ⟨#[99, 111, 109, 109, 105, 116]⟩ else ⟨#[114, 111, 108, 108, 98, 97, 99, 107]⟩
def oneM (x c d : Int) : OpL × Int :=
  if dr x 16 < 6 then (⟨2, dr (nx x) c, selS ++ tabS (dr x 16), noS⟩, nx (nx x))
  else if dr x 16 = 6 then (⟨2, dr (nx x) c, insS ++ dg (dr (nx (nx x)) 4) ++ comS ++ dg (dr (nx (nx (nx x))) 10) ++ cloS, noS⟩, nx (nx (nx (nx x))))
  else if dr x 16 = 7 then (⟨2, dr (nx x) c, updS ++ dg (dr (nx (nx x)) 4), noS⟩, nx (nx (nx x)))
  else if dr x 16 = 8 then (⟨2, dr (nx x) c, bndS (dr (nx (nx x)) 3), noS⟩, nx (nx (nx x)))
  else if dr x 16 < 12 then (⟨3, 1 + dr (nx x) 3, noS, noS⟩, nx (nx x))
  else if dr x 16 < 15 then (⟨4, 1 + dr (nx x) 3, noS, noS⟩, nx (nx x))
  else rareM (nx x) c d
/-- A walk's world: the state at g, some blocks of the call's own. -/
structure OW (B : World → Int → Prop) (g : Nat) (bs : List (Nat × Obj)) (w W : World) (x : Int) : Prop where
  b : B W x
  bl : ∀ p ∈ bs, W.heap[p.1]? = some p.2
  ne : ∀ p ∈ bs, p.1 ≠ g ∧ w.heap.size ≤ p.1
  t : Touch [g] w W
theorem OW.step {B : World → Int → Prop} {g : Nat} {bs : List (Nat × Obj)} {w W W' : World} {x x' : Int} (h : OW B g bs w W x) (b : B W' x') (t : Touch [g] W W') : OW B g bs w W' x' :=
  ⟨b, fun p hp => (t.block _ (heap_lt (h.bl p hp)) (by simpa using (h.ne p hp).1)).trans (h.bl p hp), h.ne, h.t.trans t (fun i hi => .inl hi)⟩
theorem OW.step0 {B : World → Int → Prop} {g : Nat} {bs : List (Nat × Obj)} {w W W' : World} {x : Int} (hB : ∀ {W W' : World} {x : Int}, B W x → Touch [] W W' → B W' x) (h : OW B g bs w W x) (t : Touch [] W W') : OW B g bs w W' x :=
  ⟨hB h.b t, fun p hp => (t.block _ (heap_lt (h.bl p hp)) (by simp)).trans (h.bl p hp), h.ne, h.t.trans t (by simp)⟩
def opZ : Obj := .cells #[.int .i64 0, .int .i64 0, .string noS, .string noS] 35
/-- The result is laid into its block. -/
theorem OW.put {B : World → Int → Prop} {g g4 : Nat} {bs : List (Nat × Obj)} {w W : World} {x : Int} (hS : ∀ {W : World} {x : Int} {a : Addr} {v : Value}, B W x → a.block ≠ g → B (W.setCell a v) x) (h : OW B g bs w W x) (hm : (g4, opZ) ∈ bs) (a b c d : Value) (W1 W2 W3 W4 : World)
    (e1 : W.setCell ⟨g4, 0, none⟩ a = W1) (e2 : W1.setCell ⟨g4, 1, none⟩ b = W2) (e3 : W2.setCell ⟨g4, 2, none⟩ c = W3) (e4 : W3.setCell ⟨g4, 3, none⟩ d = W4) :
    (W.cell? ⟨g4, 0, none⟩ = some (.int .i64 0) ∧ W.frozen? ⟨g4, 0, none⟩ = false) ∧ (W1.cell? ⟨g4, 1, none⟩ = some (.int .i64 0) ∧ W1.frozen? ⟨g4, 1, none⟩ = false) ∧ (W2.cell? ⟨g4, 2, none⟩ = some (.string noS) ∧ W2.frozen? ⟨g4, 2, none⟩ = false) ∧ (W3.cell? ⟨g4, 3, none⟩ = some (.string noS) ∧ W3.frozen? ⟨g4, 3, none⟩ = false) ∧
    (W4.cell? ⟨g4, 0, none⟩ = some a ∧ W4.cell? ⟨g4, 1, none⟩ = some b ∧ W4.cell? ⟨g4, 2, none⟩ = some c ∧ W4.cell? ⟨g4, 3, none⟩ = some d) ∧ B W4 x ∧ Touch [g] w W4 := by
  subst e1 e2 e3 e4
  obtain ⟨hne, hle⟩ := h.ne _ hm
  have h0 : W.heap[g4]? = some (.cells #[.int .i64 0, .int .i64 0, .string noS, .string noS] 35 (0, 0)) := h.bl _ hm
  have h1 := (block_set (i := 0) h0 a).trans (show _ = some (Obj.cells #[a, .int .i64 0, .string noS, .string noS] 35 (0, 0)) from rfl)
  have h2 := (block_set (i := 1) h1 b).trans (show _ = some (Obj.cells #[a, b, .string noS, .string noS] 35 (0, 0)) from rfl)
  have h3 := (block_set (i := 2) h2 c).trans (show _ = some (Obj.cells #[a, b, c, .string noS] 35 (0, 0)) from rfl)
  have h4 := (block_set (i := 3) h3 d).trans (show _ = some (Obj.cells #[a, b, c, d] 35 (0, 0)) from rfl)
  refine ⟨⟨by rw [cell_of h0]; rfl, frozen_of h0 0⟩, ⟨by rw [cell_of h1]; rfl, frozen_of h1 1⟩, ⟨by rw [cell_of h2]; rfl, frozen_of h2 2⟩, ⟨by rw [cell_of h3]; rfl, frozen_of h3 3⟩, ⟨by rw [cell_of h4]; rfl, by rw [cell_of h4]; rfl, by rw [cell_of h4]; rfl, by rw [cell_of h4]; rfl⟩, hS (hS (hS (hS h.b hne) hne) hne) hne, ?_⟩
  exact (((h.t.setCell _ (.inr hle)).setCell _ (.inr hle)).setCell _ (.inr hle)).setCell _ (.inr hle)
theorem MkB.kept {w w' : World} {g : Nat} {x c : Int} (h : MkB w g x c) (t : Touch [] w w') : MkB w' g x c := (t.block g (heap_lt h) (by simp)).trans h
theorem StB.kept {w w' : World} {g : Nat} {x : Int} (h : StB w g x) (t : Touch [] w w') : StB w' g x := (t.block g (heap_lt h) (by simp)).trans h
theorem MkB.set {w : World} {g : Nat} {x c : Int} {a : Addr} {v : Value} (h : MkB w g x c) (ha : a.block ≠ g) : MkB (w.setCell a v) g x c := (RowKit.Below.heap_setCell w a v g ha.symm).trans h
theorem StB.set {w : World} {g : Nat} {x : Int} {a : Addr} {v : Value} (h : StB w g x) (ha : a.block ≠ g) : StB (w.setCell a v) g x := (RowKit.Below.heap_setCell w a v g ha.symm).trans h
def ar2 : Obj := .cells #[.string ⟨#[116]⟩, .string ⟨#[117]⟩] 50
def ar3 : Obj := .cells #[.string ⟨#[98, 101, 103, 105, 110]⟩, .string ⟨#[99, 111, 109, 109, 105, 116]⟩, .string ⟨#[114, 111, 108, 108, 98, 97, 99, 107]⟩] 51
def onePost (w : World) (g : Nat) (c : Int) (r : OpL × Int) : Ending → World → Prop := fun e w' => e = .returned (opV r.1) ∧ MkB w' g r.2 c ∧ Touch [g] w w'
def ronePost (w : World) (g : Nat) (r : OpL × Int) : Ending → World → Prop := fun e w' => e = .returned (opV r.1) ∧ StB w' g r.2 ∧ Touch [g] w w'
theorem ow_start {w : World} {g : Nat} {x c : Int} (h : MkB w g x c) : OW (fun W x => MkB W g x c) g [(w.heap.size, opZ), (w.heap.size + 1, ar2), (w.heap.size + 1 + 1, ar3)] w (((w.alloc opZ).alloc ar2).alloc ar3) x := by
  have hg := heap_lt h
  have t : Touch [] w (((w.alloc opZ).alloc ar2).alloc ar3) := (((Touch.refl _ _).alloc _).alloc _).alloc _
  have t2 : Touch [] (w.alloc opZ) (((w.alloc opZ).alloc ar2).alloc ar3) := ((Touch.refl _ _).alloc _).alloc _
  have t3 : Touch [] ((w.alloc opZ).alloc ar2) (((w.alloc opZ).alloc ar2).alloc ar3) := (Touch.refl _ _).alloc _
  have e1 : (w.alloc opZ).heap.size = w.heap.size + 1 := by simp
  have e2 : ((w.alloc opZ).alloc ar2).heap.size = w.heap.size + 1 + 1 := by simp
  have b4 := heap_alloc_new w opZ
  have b5 := heap_alloc_new (w.alloc opZ) ar2
  have b6 := heap_alloc_new ((w.alloc opZ).alloc ar2) ar3
  rw [e1] at b5
  rw [e2] at b6
  refine ⟨h.kept t, ?_, ?_, t.mono (by simp)⟩
  · intro p hp
    simp only [List.mem_cons, List.not_mem_nil, or_false] at hp
    rcases hp with rfl | rfl | rfl
    · exact (t2.block _ (heap_lt b4) (by simp)).trans b4
    · exact (t3.block _ (heap_lt b5) (by simp)).trans b5
    · exact b6
  · intro p hp
    simp only [List.mem_cons, List.not_mem_nil, or_false] at hp
    rcases hp with rfl | rfl | rfl <;> dsimp only <;> omega
theorem dg_size (k : Int) : (dg k).size = 1 := rfl
end Go.Proofs.Ytmgcmheiabmajab
end
section
/- load: one thing that happens: the program's. (Printed by logen.py.) -/
namespace Go.Proofs.Ytmgcmheiabmajab
open Go Go.RowKit

set_option maxRecDepth 100000 in
set_option maxHeartbeats 2000000 in
theorem one_6 {w : World} {g : Nat} {x c : Int} (h : MkB w g x c) (d : Int) (h1 : 1 ≤ c) (h2 : c ≤ 65536) (ha : dr x 16 = 6) : Calls Try.prog 17 #[.pointer (some ⟨g, 0, none⟩), .int .i64 d] w (onePost w g c (oneM x c d)) := by
  have hoM : Hid (oneM x c d = (⟨2, dr (nx x) c, insS ++ dg (dr (nx (nx x)) 4) ++ comS ++ dg (dr (nx (nx (nx x))) 10) ++ cloS, noS⟩, nx (nx (nx (nx x))))) := Lib.hid (by simp [oneM, ha])
  have HD : Hid (∀ W, MkB W g x c → Calls Try.prog 22 #[.pointer (some ⟨g, 0, none⟩), .int .i64 16] W fun e w' => e = .returned (.int .i64 6) ∧ MkB w' g (nx x) c ∧ Touch [g] W w') := Lib.hid fun W hW => by have := draw_any hW 16 (by decide) (by decide); rwa [ha] at this
  have S0 := ow_start h
  unfold opZ ar2 ar3 noS at S0
  have HC := Lib.hid (And.intro h1 h2)
  clear h h1 h2 ha
  unfold onePost
  go_enter Try.func17, Try.ntmps17
  go_upto_region 3 with fail
  generalize (((w.alloc (.cells #[.int .i64 0, .int .i64 0, .string ⟨#[]⟩, .string ⟨#[]⟩] 35)).alloc (.cells #[.string ⟨#[116]⟩, .string ⟨#[117]⟩] 50)).alloc (.cells #[.string ⟨#[98, 101, 103, 105, 110]⟩, .string ⟨#[99, 111, 109, 109, 105, 116]⟩, .string ⟨#[114, 111, 108, 108, 98, 97, 99, 107]⟩] 51)) = W0 at *
  generalize w.heap.size = n0 at *
  have S0 := Lib.hid S0
  go_wp2_with fail
  refine (HD.out _ S0.out.b).mono ?_
  rintro e w1 ⟨rfl, b1, t1⟩
  have S1 := Lib.hid (S0.out.step b1 t1)
  clear b1 t1
  go_wp2_with fail
  refine (client_any S1.out.b HC.out.1 HC.out.2).mono ?_
  rintro e w2 ⟨rfl, b2, t2⟩
  have S2 := Lib.hid (S1.out.step b2 t2)
  clear b2 t2
  go_wp2_with fail
  refine (digit_any S2.out.b 4 (by decide) (by decide)).mono ?_
  rintro e w3 ⟨rfl, b3, t3⟩
  have S3 := Lib.hid (S2.out.step b3 t3)
  clear b3 t3
  have zs1 := dg_size (dr (nx (nx x)) 4)
  generalize hs1 : dg (dr (nx (nx x)) 4) = s1 at *
  have q1 : 23 + s1.size ≤ 9223372036854775807 := by omega
  have q2 : 23 + s1.size + 3 ≤ 9223372036854775807 := by omega
  have Z1 := Lib.hid zs1
  clear zs1
  go_wp2_with fail
  refine (digit_any S3.out.b 10 (by decide) (by decide)).mono ?_
  rintro e w4 ⟨rfl, b4, t4⟩
  have S4 := Lib.hid (S3.out.step b4 t4)
  clear b4 t4
  have zs2 := dg_size (dr (nx (nx (nx x))) 10)
  generalize hs2 : dg (dr (nx (nx (nx x))) 10) = s2 at *
  have zz := Z1.out
  have q3 : 23 + s1.size + 3 + s2.size ≤ 9223372036854775807 := by omega
  have q4 : 23 + s1.size + 3 + s2.size + 2 ≤ 9223372036854775807 := by omega
  clear zz zs2
  go_wp2_with fail
  refine (query_any _ _ _).mono ?_
  rintro e w5 ⟨rfl, t5⟩
  have S5 := Lib.hid (S4.out.step0 (fun h t => h.kept t) t5)
  clear t5
  have P := S5.out.put (fun h ha => h.set ha) (.head _) (.int .i64 2) (.int .i64 (dr (nx x) c)) (.string (insS ++ s1 ++ comS ++ s2 ++ cloS)) (.string ⟨#[]⟩) _ _ _ _ rfl rfl rfl rfl
  obtain ⟨⟨o0, f0⟩, ⟨o1, f1⟩, ⟨o2, f2⟩, ⟨o3, f3⟩, ⟨y0, y1, y2, y3⟩, bq, tq⟩ := P
  have KQ := Lib.hid (And.intro bq tq)
  clear bq tq
  unfold insS comS cloS at *
  go_wp2_with fail
  exact bodyPost_ret (v := .agg #[.int .i64 2, .int .i64 (dr (nx x) c), .string (insS ++ s1 ++ comS ++ s2 ++ cloS), .string ⟨#[]⟩]) (by simp [results, Try.results17, go_sem, y0, y1, y2, y3] <;> rfl) rfl ⟨by rw [hoM.out]; rfl, by rw [hoM.out]; exact KQ.out.1, KQ.out.2⟩
set_option maxRecDepth 100000 in
set_option maxHeartbeats 2000000 in
theorem one_7 {w : World} {g : Nat} {x c : Int} (h : MkB w g x c) (d : Int) (h1 : 1 ≤ c) (h2 : c ≤ 65536) (ha : dr x 16 = 7) : Calls Try.prog 17 #[.pointer (some ⟨g, 0, none⟩), .int .i64 d] w (onePost w g c (oneM x c d)) := by
  have hoM : Hid (oneM x c d = (⟨2, dr (nx x) c, updS ++ dg (dr (nx (nx x)) 4), noS⟩, nx (nx (nx x)))) := Lib.hid (by simp [oneM, ha])
  have HD : Hid (∀ W, MkB W g x c → Calls Try.prog 22 #[.pointer (some ⟨g, 0, none⟩), .int .i64 16] W fun e w' => e = .returned (.int .i64 7) ∧ MkB w' g (nx x) c ∧ Touch [g] W w') := Lib.hid fun W hW => by have := draw_any hW 16 (by decide) (by decide); rwa [ha] at this
  have S0 := ow_start h
  unfold opZ ar2 ar3 noS at S0
  have HC := Lib.hid (And.intro h1 h2)
  clear h h1 h2 ha
  unfold onePost
  go_enter Try.func17, Try.ntmps17
  go_upto_region 3 with fail
  generalize (((w.alloc (.cells #[.int .i64 0, .int .i64 0, .string ⟨#[]⟩, .string ⟨#[]⟩] 35)).alloc (.cells #[.string ⟨#[116]⟩, .string ⟨#[117]⟩] 50)).alloc (.cells #[.string ⟨#[98, 101, 103, 105, 110]⟩, .string ⟨#[99, 111, 109, 109, 105, 116]⟩, .string ⟨#[114, 111, 108, 108, 98, 97, 99, 107]⟩] 51)) = W0 at *
  generalize w.heap.size = n0 at *
  have S0 := Lib.hid S0
  go_wp2_with fail
  refine (HD.out _ S0.out.b).mono ?_
  rintro e w1 ⟨rfl, b1, t1⟩
  have S1 := Lib.hid (S0.out.step b1 t1)
  clear b1 t1
  go_wp2_with fail
  refine (client_any S1.out.b HC.out.1 HC.out.2).mono ?_
  rintro e w2 ⟨rfl, b2, t2⟩
  have S2 := Lib.hid (S1.out.step b2 t2)
  clear b2 t2
  go_wp2_with fail
  refine (digit_any S2.out.b 4 (by decide) (by decide)).mono ?_
  rintro e w3 ⟨rfl, b3, t3⟩
  have S3 := Lib.hid (S2.out.step b3 t3)
  clear b3 t3
  have zs1 := dg_size (dr (nx (nx x)) 4)
  generalize hs1 : dg (dr (nx (nx x)) 4) = s1 at *
  have q1 : 33 + s1.size ≤ 9223372036854775807 := by omega
  clear zs1
  go_wp2_with fail
  refine (query_any _ _ _).mono ?_
  rintro e w4 ⟨rfl, t4⟩
  have S4 := Lib.hid (S3.out.step0 (fun h t => h.kept t) t4)
  clear t4
  have P := S4.out.put (fun h ha => h.set ha) (.head _) (.int .i64 2) (.int .i64 (dr (nx x) c)) (.string (updS ++ s1)) (.string ⟨#[]⟩) _ _ _ _ rfl rfl rfl rfl
  obtain ⟨⟨o0, f0⟩, ⟨o1, f1⟩, ⟨o2, f2⟩, ⟨o3, f3⟩, ⟨y0, y1, y2, y3⟩, bq, tq⟩ := P
  have KQ := Lib.hid (And.intro bq tq)
  clear bq tq
  unfold updS at *
  go_wp2_with fail
  exact bodyPost_ret (v := .agg #[.int .i64 2, .int .i64 (dr (nx x) c), .string (updS ++ s1), .string ⟨#[]⟩]) (by simp [results, Try.results17, go_sem, y0, y1, y2, y3] <;> rfl) rfl ⟨by rw [hoM.out]; rfl, by rw [hoM.out]; exact KQ.out.1, KQ.out.2⟩
set_option maxRecDepth 100000 in
set_option maxHeartbeats 2000000 in
theorem one_8_0 {w : World} {g : Nat} {x c : Int} (h : MkB w g x c) (d : Int) (h1 : 1 ≤ c) (h2 : c ≤ 65536) (ha : dr x 16 = 8) (hk : dr (nx (nx x)) 3 = 0) : Calls Try.prog 17 #[.pointer (some ⟨g, 0, none⟩), .int .i64 d] w (onePost w g c (oneM x c d)) := by
  have hoM : Hid (oneM x c d = (⟨2, dr (nx x) c, ⟨#[98, 101, 103, 105, 110]⟩, noS⟩, nx (nx (nx x)))) := Lib.hid (by simp [oneM, bndS, ha, hk])
  have HD : Hid (∀ W, MkB W g x c → Calls Try.prog 22 #[.pointer (some ⟨g, 0, none⟩), .int .i64 16] W fun e w' => e = .returned (.int .i64 8) ∧ MkB w' g (nx x) c ∧ Touch [g] W w') := Lib.hid fun W hW => by have := draw_any hW 16 (by decide) (by decide); rwa [ha] at this
  have S0 := ow_start h
  unfold opZ ar2 ar3 noS at S0
  have HC := Lib.hid (And.intro h1 h2)
  have HE : Hid (∀ W, MkB W g (nx (nx x)) c → Calls Try.prog 22 #[.pointer (some ⟨g, 0, none⟩), .int .i64 3] W fun e w' => e = .returned (.int .i64 0) ∧ MkB w' g (nx (nx (nx x))) c ∧ Touch [g] W w') := Lib.hid fun W hW => by have := draw_any hW 3 (by decide) (by decide); rwa [hk] at this
  clear hk
  clear h h1 h2 ha
  unfold onePost
  go_enter Try.func17, Try.ntmps17
  go_upto_region 3 with fail
  generalize (((w.alloc (.cells #[.int .i64 0, .int .i64 0, .string ⟨#[]⟩, .string ⟨#[]⟩] 35)).alloc (.cells #[.string ⟨#[116]⟩, .string ⟨#[117]⟩] 50)).alloc (.cells #[.string ⟨#[98, 101, 103, 105, 110]⟩, .string ⟨#[99, 111, 109, 109, 105, 116]⟩, .string ⟨#[114, 111, 108, 108, 98, 97, 99, 107]⟩] 51)) = W0 at *
  generalize w.heap.size = n0 at *
  have S0 := Lib.hid S0
  go_wp2_with fail
  refine (HD.out _ S0.out.b).mono ?_
  rintro e w1 ⟨rfl, b1, t1⟩
  have S1 := Lib.hid (S0.out.step b1 t1)
  clear b1 t1
  go_wp2_with fail
  refine (client_any S1.out.b HC.out.1 HC.out.2).mono ?_
  rintro e w2 ⟨rfl, b2, t2⟩
  have S2 := Lib.hid (S1.out.step b2 t2)
  clear b2 t2
  go_wp2_with fail
  refine (HE.out _ S2.out.b).mono ?_
  rintro e w3 ⟨rfl, b3, t3⟩
  have S3 := Lib.hid (S2.out.step b3 t3)
  clear b3 t3
  have cc : w3.cell? ⟨n0 + 1 + 1, 0, none⟩ = some (.string ⟨#[98, 101, 103, 105, 110]⟩) := by rw [cell_of (S3.out.bl _ (.tail _ (.tail _ (.head _))))]; rfl
  go_wp2_with fail
  refine (query_any _ _ _).mono ?_
  rintro e w4 ⟨rfl, t4⟩
  have S4 := Lib.hid (S3.out.step0 (fun h t => h.kept t) t4)
  clear t4
  clear cc
  have P := S4.out.put (fun h ha => h.set ha) (.head _) (.int .i64 2) (.int .i64 (dr (nx x) c)) (.string ⟨#[98, 101, 103, 105, 110]⟩) (.string ⟨#[]⟩) _ _ _ _ rfl rfl rfl rfl
  obtain ⟨⟨o0, f0⟩, ⟨o1, f1⟩, ⟨o2, f2⟩, ⟨o3, f3⟩, ⟨y0, y1, y2, y3⟩, bq, tq⟩ := P
  have KQ := Lib.hid (And.intro bq tq)
  clear bq tq
  go_wp2_with fail
  exact bodyPost_ret (v := .agg #[.int .i64 2, .int .i64 (dr (nx x) c), .string ⟨#[98, 101, 103, 105, 110]⟩, .string ⟨#[]⟩]) (by simp [results, Try.results17, go_sem, y0, y1, y2, y3] <;> rfl) rfl ⟨by rw [hoM.out]; rfl, by rw [hoM.out]; exact KQ.out.1, KQ.out.2⟩
set_option maxRecDepth 100000 in
set_option maxHeartbeats 2000000 in
theorem one_8_1 {w : World} {g : Nat} {x c : Int} (h : MkB w g x c) (d : Int) (h1 : 1 ≤ c) (h2 : c ≤ 65536) (ha : dr x 16 = 8) (hk : dr (nx (nx x)) 3 = 1) : Calls Try.prog 17 #[.pointer (some ⟨g, 0, none⟩), .int .i64 d] w (onePost w g c (oneM x c d)) := by
  have hoM : Hid (oneM x c d = (⟨2, dr (nx x) c, ⟨#[99, 111, 109, 109, 105, 116]⟩, noS⟩, nx (nx (nx x)))) := Lib.hid (by simp [oneM, bndS, ha, hk])
  have HD : Hid (∀ W, MkB W g x c → Calls Try.prog 22 #[.pointer (some ⟨g, 0, none⟩), .int .i64 16] W fun e w' => e = .returned (.int .i64 8) ∧ MkB w' g (nx x) c ∧ Touch [g] W w') := Lib.hid fun W hW => by have := draw_any hW 16 (by decide) (by decide); rwa [ha] at this
  have S0 := ow_start h
  unfold opZ ar2 ar3 noS at S0
  have HC := Lib.hid (And.intro h1 h2)
  have HE : Hid (∀ W, MkB W g (nx (nx x)) c → Calls Try.prog 22 #[.pointer (some ⟨g, 0, none⟩), .int .i64 3] W fun e w' => e = .returned (.int .i64 1) ∧ MkB w' g (nx (nx (nx x))) c ∧ Touch [g] W w') := Lib.hid fun W hW => by have := draw_any hW 3 (by decide) (by decide); rwa [hk] at this
  clear hk
  clear h h1 h2 ha
  unfold onePost
  go_enter Try.func17, Try.ntmps17
  go_upto_region 3 with fail
  generalize (((w.alloc (.cells #[.int .i64 0, .int .i64 0, .string ⟨#[]⟩, .string ⟨#[]⟩] 35)).alloc (.cells #[.string ⟨#[116]⟩, .string ⟨#[117]⟩] 50)).alloc (.cells #[.string ⟨#[98, 101, 103, 105, 110]⟩, .string ⟨#[99, 111, 109, 109, 105, 116]⟩, .string ⟨#[114, 111, 108, 108, 98, 97, 99, 107]⟩] 51)) = W0 at *
  generalize w.heap.size = n0 at *
  have S0 := Lib.hid S0
  go_wp2_with fail
  refine (HD.out _ S0.out.b).mono ?_
  rintro e w1 ⟨rfl, b1, t1⟩
  have S1 := Lib.hid (S0.out.step b1 t1)
  clear b1 t1
  go_wp2_with fail
  refine (client_any S1.out.b HC.out.1 HC.out.2).mono ?_
  rintro e w2 ⟨rfl, b2, t2⟩
  have S2 := Lib.hid (S1.out.step b2 t2)
  clear b2 t2
  go_wp2_with fail
  refine (HE.out _ S2.out.b).mono ?_
  rintro e w3 ⟨rfl, b3, t3⟩
  have S3 := Lib.hid (S2.out.step b3 t3)
  clear b3 t3
  have cc : w3.cell? ⟨n0 + 1 + 1, 1, none⟩ = some (.string ⟨#[99, 111, 109, 109, 105, 116]⟩) := by rw [cell_of (S3.out.bl _ (.tail _ (.tail _ (.head _))))]; rfl
  go_wp2_with fail
  refine (query_any _ _ _).mono ?_
  rintro e w4 ⟨rfl, t4⟩
  have S4 := Lib.hid (S3.out.step0 (fun h t => h.kept t) t4)
  clear t4
  clear cc
  have P := S4.out.put (fun h ha => h.set ha) (.head _) (.int .i64 2) (.int .i64 (dr (nx x) c)) (.string ⟨#[99, 111, 109, 109, 105, 116]⟩) (.string ⟨#[]⟩) _ _ _ _ rfl rfl rfl rfl
  obtain ⟨⟨o0, f0⟩, ⟨o1, f1⟩, ⟨o2, f2⟩, ⟨o3, f3⟩, ⟨y0, y1, y2, y3⟩, bq, tq⟩ := P
  have KQ := Lib.hid (And.intro bq tq)
  clear bq tq
  go_wp2_with fail
  exact bodyPost_ret (v := .agg #[.int .i64 2, .int .i64 (dr (nx x) c), .string ⟨#[99, 111, 109, 109, 105, 116]⟩, .string ⟨#[]⟩]) (by simp [results, Try.results17, go_sem, y0, y1, y2, y3] <;> rfl) rfl ⟨by rw [hoM.out]; rfl, by rw [hoM.out]; exact KQ.out.1, KQ.out.2⟩
set_option maxRecDepth 100000 in
set_option maxHeartbeats 2000000 in
theorem one_8_2 {w : World} {g : Nat} {x c : Int} (h : MkB w g x c) (d : Int) (h1 : 1 ≤ c) (h2 : c ≤ 65536) (ha : dr x 16 = 8) (hk : dr (nx (nx x)) 3 = 2) : Calls Try.prog 17 #[.pointer (some ⟨g, 0, none⟩), .int .i64 d] w (onePost w g c (oneM x c d)) := by
  have hoM : Hid (oneM x c d = (⟨2, dr (nx x) c, ⟨#[114, 111, 108, 108, 98, 97, 99, 107]⟩, noS⟩, nx (nx (nx x)))) := Lib.hid (by simp [oneM, bndS, ha, hk])
  have HD : Hid (∀ W, MkB W g x c → Calls Try.prog 22 #[.pointer (some ⟨g, 0, none⟩), .int .i64 16] W fun e w' => e = .returned (.int .i64 8) ∧ MkB w' g (nx x) c ∧ Touch [g] W w') := Lib.hid fun W hW => by have := draw_any hW 16 (by decide) (by decide); rwa [ha] at this
  have S0 := ow_start h
  unfold opZ ar2 ar3 noS at S0
  have HC := Lib.hid (And.intro h1 h2)
  have HE : Hid (∀ W, MkB W g (nx (nx x)) c → Calls Try.prog 22 #[.pointer (some ⟨g, 0, none⟩), .int .i64 3] W fun e w' => e = .returned (.int .i64 2) ∧ MkB w' g (nx (nx (nx x))) c ∧ Touch [g] W w') := Lib.hid fun W hW => by have := draw_any hW 3 (by decide) (by decide); rwa [hk] at this
  clear hk
  clear h h1 h2 ha
  unfold onePost
  go_enter Try.func17, Try.ntmps17
  go_upto_region 3 with fail
  generalize (((w.alloc (.cells #[.int .i64 0, .int .i64 0, .string ⟨#[]⟩, .string ⟨#[]⟩] 35)).alloc (.cells #[.string ⟨#[116]⟩, .string ⟨#[117]⟩] 50)).alloc (.cells #[.string ⟨#[98, 101, 103, 105, 110]⟩, .string ⟨#[99, 111, 109, 109, 105, 116]⟩, .string ⟨#[114, 111, 108, 108, 98, 97, 99, 107]⟩] 51)) = W0 at *
  generalize w.heap.size = n0 at *
  have S0 := Lib.hid S0
  go_wp2_with fail
  refine (HD.out _ S0.out.b).mono ?_
  rintro e w1 ⟨rfl, b1, t1⟩
  have S1 := Lib.hid (S0.out.step b1 t1)
  clear b1 t1
  go_wp2_with fail
  refine (client_any S1.out.b HC.out.1 HC.out.2).mono ?_
  rintro e w2 ⟨rfl, b2, t2⟩
  have S2 := Lib.hid (S1.out.step b2 t2)
  clear b2 t2
  go_wp2_with fail
  refine (HE.out _ S2.out.b).mono ?_
  rintro e w3 ⟨rfl, b3, t3⟩
  have S3 := Lib.hid (S2.out.step b3 t3)
  clear b3 t3
  have cc : w3.cell? ⟨n0 + 1 + 1, 2, none⟩ = some (.string ⟨#[114, 111, 108, 108, 98, 97, 99, 107]⟩) := by rw [cell_of (S3.out.bl _ (.tail _ (.tail _ (.head _))))]; rfl
  go_wp2_with fail
  refine (query_any _ _ _).mono ?_
  rintro e w4 ⟨rfl, t4⟩
  have S4 := Lib.hid (S3.out.step0 (fun h t => h.kept t) t4)
  clear t4
  clear cc
  have P := S4.out.put (fun h ha => h.set ha) (.head _) (.int .i64 2) (.int .i64 (dr (nx x) c)) (.string ⟨#[114, 111, 108, 108, 98, 97, 99, 107]⟩) (.string ⟨#[]⟩) _ _ _ _ rfl rfl rfl rfl
  obtain ⟨⟨o0, f0⟩, ⟨o1, f1⟩, ⟨o2, f2⟩, ⟨o3, f3⟩, ⟨y0, y1, y2, y3⟩, bq, tq⟩ := P
  have KQ := Lib.hid (And.intro bq tq)
  clear bq tq
  go_wp2_with fail
  exact bodyPost_ret (v := .agg #[.int .i64 2, .int .i64 (dr (nx x) c), .string ⟨#[114, 111, 108, 108, 98, 97, 99, 107]⟩, .string ⟨#[]⟩]) (by simp [results, Try.results17, go_sem, y0, y1, y2, y3] <;> rfl) rfl ⟨by rw [hoM.out]; rfl, by rw [hoM.out]; exact KQ.out.1, KQ.out.2⟩
set_option maxRecDepth 100000 in
set_option maxHeartbeats 2000000 in
theorem one_step {w : World} {g : Nat} {x c : Int} (h : MkB w g x c) (d : Int) (h1 : 1 ≤ c) (h2 : c ≤ 65536) (a : Int) (ha : dr x 16 = a) (ha1 : 9 ≤ a) (ha2 : a ≤ 11) : Calls Try.prog 17 #[.pointer (some ⟨g, 0, none⟩), .int .i64 d] w (onePost w g c (oneM x c d)) := by
  have hoM : Hid (oneM x c d = (⟨3, 1 + dr (nx x) 3, noS, noS⟩, nx (nx x))) := Lib.hid (by simp only [oneM, ha]; rw [if_neg (by omega), if_neg (by omega), if_neg (by omega), if_neg (by omega), if_pos (by omega)])
  have HD : Hid (∀ W, MkB W g x c → Calls Try.prog 22 #[.pointer (some ⟨g, 0, none⟩), .int .i64 16] W fun e w' => e = .returned (.int .i64 a) ∧ MkB w' g (nx x) c ∧ Touch [g] W w') := Lib.hid fun W hW => by have := draw_any hW 16 (by decide) (by decide); rwa [ha] at this
  have S0 := ow_start h
  unfold opZ ar2 ar3 noS at S0
  have HC := Lib.hid (And.intro h1 h2)
  have e6 : (a == 6) = false := by rw [beq_eq_false_iff_ne]; omega
  have e7 : (a == 7) = false := by rw [beq_eq_false_iff_ne]; omega
  have e8 : (a == 8) = false := by rw [beq_eq_false_iff_ne]; omega
  have b5 : ¬ a < 6 := by omega
  have b5' : ¬ a ≤ 5 := by omega
  have b11 : a < 12 := by omega
  have b11' : a ≤ 11 := by omega
  clear ha1 ha2
  clear h h1 h2 ha
  unfold onePost
  go_enter Try.func17, Try.ntmps17
  go_upto_region 3 with fail
  generalize (((w.alloc (.cells #[.int .i64 0, .int .i64 0, .string ⟨#[]⟩, .string ⟨#[]⟩] 35)).alloc (.cells #[.string ⟨#[116]⟩, .string ⟨#[117]⟩] 50)).alloc (.cells #[.string ⟨#[98, 101, 103, 105, 110]⟩, .string ⟨#[99, 111, 109, 109, 105, 116]⟩, .string ⟨#[114, 111, 108, 108, 98, 97, 99, 107]⟩] 51)) = W0 at *
  generalize w.heap.size = n0 at *
  have S0 := Lib.hid S0
  go_wp2_with fail
  refine (HD.out _ S0.out.b).mono ?_
  rintro e w1 ⟨rfl, b1, t1⟩
  have S1 := Lib.hid (S0.out.step b1 t1)
  clear b1 t1
  go_wp2_with fail
  refine (draw_any S1.out.b 3 (by decide) (by decide)).mono ?_
  rintro e w2 ⟨rfl, b2, t2⟩
  have S2 := Lib.hid (S1.out.step b2 t2)
  clear b2 t2
  have k0 := (dr_bound (nx x) (n := 3) (by decide)).1
  have k1 := (dr_bound (nx x) (n := 3) (by decide)).2
  generalize hk : dr (nx x) 3 = k at *
  have P := S2.out.put (fun h ha => h.set ha) (.head _) (.int .i64 3) (.int .i64 (1 + k)) (.string ⟨#[]⟩) (.string ⟨#[]⟩) _ _ _ _ rfl rfl rfl rfl
  obtain ⟨⟨o0, f0⟩, ⟨o1, f1⟩, ⟨o2, f2⟩, ⟨o3, f3⟩, ⟨y0, y1, y2, y3⟩, bq, tq⟩ := P
  have KQ := Lib.hid (And.intro bq tq)
  clear bq tq
  go_wp2_with fail
  exact bodyPost_ret (v := .agg #[.int .i64 3, .int .i64 (1 + k), .string ⟨#[]⟩, .string ⟨#[]⟩]) (by simp [results, Try.results17, go_sem, y0, y1, y2, y3] <;> rfl) rfl ⟨by rw [hoM.out]; rfl, by rw [hoM.out]; exact KQ.out.1, KQ.out.2⟩
set_option maxRecDepth 100000 in
set_option maxHeartbeats 2000000 in
theorem one_deliver {w : World} {g : Nat} {x c : Int} (h : MkB w g x c) (d : Int) (h1 : 1 ≤ c) (h2 : c ≤ 65536) (a : Int) (ha : dr x 16 = a) (ha1 : 12 ≤ a) (ha2 : a ≤ 14) : Calls Try.prog 17 #[.pointer (some ⟨g, 0, none⟩), .int .i64 d] w (onePost w g c (oneM x c d)) := by
  have hoM : Hid (oneM x c d = (⟨4, 1 + dr (nx x) 3, noS, noS⟩, nx (nx x))) := Lib.hid (by simp only [oneM, ha]; rw [if_neg (by omega), if_neg (by omega), if_neg (by omega), if_neg (by omega), if_neg (by omega), if_pos (by omega)])
  have HD : Hid (∀ W, MkB W g x c → Calls Try.prog 22 #[.pointer (some ⟨g, 0, none⟩), .int .i64 16] W fun e w' => e = .returned (.int .i64 a) ∧ MkB w' g (nx x) c ∧ Touch [g] W w') := Lib.hid fun W hW => by have := draw_any hW 16 (by decide) (by decide); rwa [ha] at this
  have S0 := ow_start h
  unfold opZ ar2 ar3 noS at S0
  have HC := Lib.hid (And.intro h1 h2)
  have e6 : (a == 6) = false := by rw [beq_eq_false_iff_ne]; omega
  have e7 : (a == 7) = false := by rw [beq_eq_false_iff_ne]; omega
  have e8 : (a == 8) = false := by rw [beq_eq_false_iff_ne]; omega
  have b5 : ¬ a < 6 := by omega
  have b5' : ¬ a ≤ 5 := by omega
  have b11 : ¬ a < 12 := by omega
  have b11' : ¬ a ≤ 11 := by omega
  have b14 : a < 15 := by omega
  have b14' : a ≤ 14 := by omega
  clear ha1 ha2
  clear h h1 h2 ha
  unfold onePost
  go_enter Try.func17, Try.ntmps17
  go_upto_region 3 with fail
  generalize (((w.alloc (.cells #[.int .i64 0, .int .i64 0, .string ⟨#[]⟩, .string ⟨#[]⟩] 35)).alloc (.cells #[.string ⟨#[116]⟩, .string ⟨#[117]⟩] 50)).alloc (.cells #[.string ⟨#[98, 101, 103, 105, 110]⟩, .string ⟨#[99, 111, 109, 109, 105, 116]⟩, .string ⟨#[114, 111, 108, 108, 98, 97, 99, 107]⟩] 51)) = W0 at *
  generalize w.heap.size = n0 at *
  have S0 := Lib.hid S0
  go_wp2_with fail
  refine (HD.out _ S0.out.b).mono ?_
  rintro e w1 ⟨rfl, b1, t1⟩
  have S1 := Lib.hid (S0.out.step b1 t1)
  clear b1 t1
  go_wp2_with fail
  refine (draw_any S1.out.b 3 (by decide) (by decide)).mono ?_
  rintro e w2 ⟨rfl, b2, t2⟩
  have S2 := Lib.hid (S1.out.step b2 t2)
  clear b2 t2
  have k0 := (dr_bound (nx x) (n := 3) (by decide)).1
  have k1 := (dr_bound (nx x) (n := 3) (by decide)).2
  generalize hk : dr (nx x) 3 = k at *
  have P := S2.out.put (fun h ha => h.set ha) (.head _) (.int .i64 4) (.int .i64 (1 + k)) (.string ⟨#[]⟩) (.string ⟨#[]⟩) _ _ _ _ rfl rfl rfl rfl
  obtain ⟨⟨o0, f0⟩, ⟨o1, f1⟩, ⟨o2, f2⟩, ⟨o3, f3⟩, ⟨y0, y1, y2, y3⟩, bq, tq⟩ := P
  have KQ := Lib.hid (And.intro bq tq)
  clear bq tq
  go_wp2_with fail
  exact bodyPost_ret (v := .agg #[.int .i64 4, .int .i64 (1 + k), .string ⟨#[]⟩, .string ⟨#[]⟩]) (by simp [results, Try.results17, go_sem, y0, y1, y2, y3] <;> rfl) rfl ⟨by rw [hoM.out]; rfl, by rw [hoM.out]; exact KQ.out.1, KQ.out.2⟩
set_option maxRecDepth 100000 in
set_option maxHeartbeats 2000000 in
theorem one_rare {w : World} {g : Nat} {x c : Int} (h : MkB w g x c) (d : Int) (h1 : 1 ≤ c) (h2 : c ≤ 65536) (a : Int) (ha : dr x 16 = a) (ha1 : 15 ≤ a) : Calls Try.prog 17 #[.pointer (some ⟨g, 0, none⟩), .int .i64 d] w (onePost w g c (oneM x c d)) := by
  have hoM : Hid (oneM x c d = ((rareM (nx x) c d).1, (rareM (nx x) c d).2)) := Lib.hid (by simp only [oneM, ha]; rw [if_neg (by omega), if_neg (by omega), if_neg (by omega), if_neg (by omega), if_neg (by omega), if_neg (by omega)])
  have HD : Hid (∀ W, MkB W g x c → Calls Try.prog 22 #[.pointer (some ⟨g, 0, none⟩), .int .i64 16] W fun e w' => e = .returned (.int .i64 a) ∧ MkB w' g (nx x) c ∧ Touch [g] W w') := Lib.hid fun W hW => by have := draw_any hW 16 (by decide) (by decide); rwa [ha] at this
  have S0 := ow_start h
  unfold opZ ar2 ar3 noS at S0
  have HC := Lib.hid (And.intro h1 h2)
  have e6 : (a == 6) = false := by rw [beq_eq_false_iff_ne]; omega
  have e7 : (a == 7) = false := by rw [beq_eq_false_iff_ne]; omega
  have e8 : (a == 8) = false := by rw [beq_eq_false_iff_ne]; omega
  have b5 : ¬ a < 6 := by omega
  have b6 : ¬ a ≤ 5 := by omega
  have b11 : ¬ a < 12 := by omega
  have b12 : ¬ a ≤ 11 := by omega
  have b14 : ¬ a < 15 := by omega
  have b15 : ¬ a ≤ 14 := by omega
  clear ha1
  clear h h1 h2 ha
  unfold onePost
  go_enter Try.func17, Try.ntmps17
  go_upto_region 3 with fail
  generalize (((w.alloc (.cells #[.int .i64 0, .int .i64 0, .string ⟨#[]⟩, .string ⟨#[]⟩] 35)).alloc (.cells #[.string ⟨#[116]⟩, .string ⟨#[117]⟩] 50)).alloc (.cells #[.string ⟨#[98, 101, 103, 105, 110]⟩, .string ⟨#[99, 111, 109, 109, 105, 116]⟩, .string ⟨#[114, 111, 108, 108, 98, 97, 99, 107]⟩] 51)) = W0 at *
  generalize w.heap.size = n0 at *
  have S0 := Lib.hid S0
  go_wp2_with fail
  refine (HD.out _ S0.out.b).mono ?_
  rintro e w1 ⟨rfl, b1, t1⟩
  have S1 := Lib.hid (S0.out.step b1 t1)
  clear b1 t1
  go_wp2_with fail
  refine (rare_any S1.out.b d HC.out.1 HC.out.2).mono ?_
  rintro e w2 ⟨rfl, b2, t2⟩
  have S2 := Lib.hid (S1.out.step b2 t2)
  clear b2 t2
  generalize rareM (nx x) c d = R at *
  obtain ⟨⟨rk, rn, rs, rr⟩, rx⟩ := R
  dsimp only [opV] at *
  have P := S2.out.put (fun h ha => h.set ha) (.head _) (.int .i64 rk) (.int .i64 rn) (.string rs) (.string rr) _ _ _ _ rfl rfl rfl rfl
  obtain ⟨⟨o0, f0⟩, ⟨o1, f1⟩, ⟨o2, f2⟩, ⟨o3, f3⟩, ⟨y0, y1, y2, y3⟩, bq, tq⟩ := P
  have KQ := Lib.hid (And.intro bq tq)
  clear bq tq
  go_wp2_with fail
  exact bodyPost_ret (v := .agg #[.int .i64 rk, .int .i64 rn, .string rs, .string rr]) (by simp [results, Try.results17, go_sem, y0, y1, y2, y3] <;> rfl) rfl ⟨by rw [hoM.out]; rfl, by rw [hoM.out]; exact KQ.out.1, KQ.out.2⟩
set_option maxRecDepth 100000 in
set_option maxHeartbeats 2000000 in
theorem one_tab0 {w : World} {g : Nat} {x c : Int} (h : MkB w g x c) (d : Int) (h1 : 1 ≤ c) (h2 : c ≤ 65536) (ha : dr x 16 = 0) : Calls Try.prog 17 #[.pointer (some ⟨g, 0, none⟩), .int .i64 d] w (onePost w g c (oneM x c d)) := by
  have hoM : Hid (oneM x c d = (⟨2, dr (nx x) c, selS ++ ⟨#[116]⟩, noS⟩, nx (nx x))) := Lib.hid (by simp [oneM, tabS, ha])
  have HD : Hid (∀ W, MkB W g x c → Calls Try.prog 22 #[.pointer (some ⟨g, 0, none⟩), .int .i64 16] W fun e w' => e = .returned (.int .i64 0) ∧ MkB w' g (nx x) c ∧ Touch [g] W w') := Lib.hid fun W hW => by have := draw_any hW 16 (by decide) (by decide); rwa [ha] at this
  have S0 := ow_start h
  unfold opZ ar2 ar3 noS at S0
  have HC := Lib.hid (And.intro h1 h2)
  clear h h1 h2 ha
  unfold onePost
  go_enter Try.func17, Try.ntmps17
  go_upto_region 3 with fail
  generalize (((w.alloc (.cells #[.int .i64 0, .int .i64 0, .string ⟨#[]⟩, .string ⟨#[]⟩] 35)).alloc (.cells #[.string ⟨#[116]⟩, .string ⟨#[117]⟩] 50)).alloc (.cells #[.string ⟨#[98, 101, 103, 105, 110]⟩, .string ⟨#[99, 111, 109, 109, 105, 116]⟩, .string ⟨#[114, 111, 108, 108, 98, 97, 99, 107]⟩] 51)) = W0 at *
  generalize w.heap.size = n0 at *
  have S0 := Lib.hid S0
  go_wp2_with fail
  refine (HD.out _ S0.out.b).mono ?_
  rintro e w1 ⟨rfl, b1, t1⟩
  have S1 := Lib.hid (S0.out.step b1 t1)
  clear b1 t1
  go_upto_region 5 with fail
  have td : Touch [] w1 w1.drew := (Touch.refl _ _).drew
  have S1 := Lib.hid (S1.out.step0 (fun h t => h.kept t) td)
  clear td
  have hbb : bits .and .i64 0 1 = 0 := by decide
  have cc : w1.drew.cell? ⟨n0 + 1, 0, none⟩ = some (.string ⟨#[116]⟩) := by rw [cell_of (S1.out.bl _ (.tail _ (.head _)))]; rfl
  have cw : w1.cell? ⟨n0 + 1, 0, none⟩ = some (.string ⟨#[116]⟩) := cc
  have gne : n0 + 1 ≠ g := (S1.out.ne _ (.tail _ (.head _))).1
  go_region_held3 (fun W' => W'.cell? ⟨n0 + 1, 0, none⟩ = some (.string ⟨#[116]⟩)) (go_keep)
    (first | (go_at_call 24; refine (client_any S1.out.b HC.out.1 HC.out.2).mono ?_; rintro e w2 ⟨rfl, b2, t2⟩; have S2 := Lib.hid (S1.out.step b2 t2); have u0 := t2.cell cc (by simpa using gne); clear b2 t2) | (go_at_call 23; refine (query_any _ _ _).mono ?_; rintro e w3 ⟨rfl, t3⟩; have v0 := t3.cell u0 (by simp); have S3 := Lib.hid (S2.out.step0 (fun h t => h.kept t) (by first | exact t3 | exact (((Touch.refl _ _).alloc _).trans t3 (by simp)))); clear t3; have P := S3.out.put (fun h ha => h.set ha) (.head _) (.int .i64 2) (.int .i64 (dr (nx x) c)) (.string (⟨#[115, 101, 108, 101, 99, 116, 32, 42, 32, 102, 114, 111, 109, 32]⟩ ++ ⟨#[116]⟩)) (.string ⟨#[]⟩) _ _ _ _ rfl rfl rfl rfl; obtain ⟨⟨o0, f0⟩, ⟨o1, f1⟩, ⟨o2, f2⟩, ⟨o3, f3⟩, ⟨y0, y1, y2, y3⟩, bq, tq⟩ := P; have KQ := Lib.hid (And.intro bq tq); clear bq tq))
  all_goals
    go_wp2_with fail
    exact bodyPost_ret (v := .agg #[.int .i64 2, .int .i64 (dr (nx x) c), .string (⟨#[115, 101, 108, 101, 99, 116, 32, 42, 32, 102, 114, 111, 109, 32]⟩ ++ ⟨#[116]⟩), .string ⟨#[]⟩]) (by simp [results, Try.results17, go_sem, y0, y1, y2, y3] <;> rfl) rfl ⟨by rw [hoM.out]; rfl, by rw [hoM.out]; exact KQ.out.1, KQ.out.2⟩
set_option maxRecDepth 100000 in
set_option maxHeartbeats 2000000 in
theorem one_tab1 {w : World} {g : Nat} {x c : Int} (h : MkB w g x c) (d : Int) (h1 : 1 ≤ c) (h2 : c ≤ 65536) (ha : dr x 16 = 1) : Calls Try.prog 17 #[.pointer (some ⟨g, 0, none⟩), .int .i64 d] w (onePost w g c (oneM x c d)) := by
  have hoM : Hid (oneM x c d = (⟨2, dr (nx x) c, selS ++ ⟨#[117]⟩, noS⟩, nx (nx x))) := Lib.hid (by simp [oneM, tabS, ha])
  have HD : Hid (∀ W, MkB W g x c → Calls Try.prog 22 #[.pointer (some ⟨g, 0, none⟩), .int .i64 16] W fun e w' => e = .returned (.int .i64 1) ∧ MkB w' g (nx x) c ∧ Touch [g] W w') := Lib.hid fun W hW => by have := draw_any hW 16 (by decide) (by decide); rwa [ha] at this
  have S0 := ow_start h
  unfold opZ ar2 ar3 noS at S0
  have HC := Lib.hid (And.intro h1 h2)
  clear h h1 h2 ha
  unfold onePost
  go_enter Try.func17, Try.ntmps17
  go_upto_region 3 with fail
  generalize (((w.alloc (.cells #[.int .i64 0, .int .i64 0, .string ⟨#[]⟩, .string ⟨#[]⟩] 35)).alloc (.cells #[.string ⟨#[116]⟩, .string ⟨#[117]⟩] 50)).alloc (.cells #[.string ⟨#[98, 101, 103, 105, 110]⟩, .string ⟨#[99, 111, 109, 109, 105, 116]⟩, .string ⟨#[114, 111, 108, 108, 98, 97, 99, 107]⟩] 51)) = W0 at *
  generalize w.heap.size = n0 at *
  have S0 := Lib.hid S0
  go_wp2_with fail
  refine (HD.out _ S0.out.b).mono ?_
  rintro e w1 ⟨rfl, b1, t1⟩
  have S1 := Lib.hid (S0.out.step b1 t1)
  clear b1 t1
  go_upto_region 5 with fail
  have td : Touch [] w1 w1.drew := (Touch.refl _ _).drew
  have S1 := Lib.hid (S1.out.step0 (fun h t => h.kept t) td)
  clear td
  have hbb : bits .and .i64 1 1 = 1 := by decide
  have cc : w1.drew.cell? ⟨n0 + 1, 1, none⟩ = some (.string ⟨#[117]⟩) := by rw [cell_of (S1.out.bl _ (.tail _ (.head _)))]; rfl
  have cw : w1.cell? ⟨n0 + 1, 1, none⟩ = some (.string ⟨#[117]⟩) := cc
  have gne : n0 + 1 ≠ g := (S1.out.ne _ (.tail _ (.head _))).1
  go_region_held3 (fun W' => W'.cell? ⟨n0 + 1, 1, none⟩ = some (.string ⟨#[117]⟩)) (go_keep)
    (first | (go_at_call 24; refine (client_any S1.out.b HC.out.1 HC.out.2).mono ?_; rintro e w2 ⟨rfl, b2, t2⟩; have S2 := Lib.hid (S1.out.step b2 t2); have u0 := t2.cell cc (by simpa using gne); clear b2 t2) | (go_at_call 23; refine (query_any _ _ _).mono ?_; rintro e w3 ⟨rfl, t3⟩; have v0 := t3.cell u0 (by simp); have S3 := Lib.hid (S2.out.step0 (fun h t => h.kept t) (by first | exact t3 | exact (((Touch.refl _ _).alloc _).trans t3 (by simp)))); clear t3; have P := S3.out.put (fun h ha => h.set ha) (.head _) (.int .i64 2) (.int .i64 (dr (nx x) c)) (.string (⟨#[115, 101, 108, 101, 99, 116, 32, 42, 32, 102, 114, 111, 109, 32]⟩ ++ ⟨#[117]⟩)) (.string ⟨#[]⟩) _ _ _ _ rfl rfl rfl rfl; obtain ⟨⟨o0, f0⟩, ⟨o1, f1⟩, ⟨o2, f2⟩, ⟨o3, f3⟩, ⟨y0, y1, y2, y3⟩, bq, tq⟩ := P; have KQ := Lib.hid (And.intro bq tq); clear bq tq))
  all_goals
    go_wp2_with fail
    exact bodyPost_ret (v := .agg #[.int .i64 2, .int .i64 (dr (nx x) c), .string (⟨#[115, 101, 108, 101, 99, 116, 32, 42, 32, 102, 114, 111, 109, 32]⟩ ++ ⟨#[117]⟩), .string ⟨#[]⟩]) (by simp [results, Try.results17, go_sem, y0, y1, y2, y3] <;> rfl) rfl ⟨by rw [hoM.out]; rfl, by rw [hoM.out]; exact KQ.out.1, KQ.out.2⟩
set_option maxRecDepth 100000 in
set_option maxHeartbeats 2000000 in
theorem one_tab2 {w : World} {g : Nat} {x c : Int} (h : MkB w g x c) (d : Int) (h1 : 1 ≤ c) (h2 : c ≤ 65536) (ha : dr x 16 = 2) : Calls Try.prog 17 #[.pointer (some ⟨g, 0, none⟩), .int .i64 d] w (onePost w g c (oneM x c d)) := by
  have hoM : Hid (oneM x c d = (⟨2, dr (nx x) c, selS ++ ⟨#[116]⟩, noS⟩, nx (nx x))) := Lib.hid (by simp [oneM, tabS, ha])
  have HD : Hid (∀ W, MkB W g x c → Calls Try.prog 22 #[.pointer (some ⟨g, 0, none⟩), .int .i64 16] W fun e w' => e = .returned (.int .i64 2) ∧ MkB w' g (nx x) c ∧ Touch [g] W w') := Lib.hid fun W hW => by have := draw_any hW 16 (by decide) (by decide); rwa [ha] at this
  have S0 := ow_start h
  unfold opZ ar2 ar3 noS at S0
  have HC := Lib.hid (And.intro h1 h2)
  clear h h1 h2 ha
  unfold onePost
  go_enter Try.func17, Try.ntmps17
  go_upto_region 3 with fail
  generalize (((w.alloc (.cells #[.int .i64 0, .int .i64 0, .string ⟨#[]⟩, .string ⟨#[]⟩] 35)).alloc (.cells #[.string ⟨#[116]⟩, .string ⟨#[117]⟩] 50)).alloc (.cells #[.string ⟨#[98, 101, 103, 105, 110]⟩, .string ⟨#[99, 111, 109, 109, 105, 116]⟩, .string ⟨#[114, 111, 108, 108, 98, 97, 99, 107]⟩] 51)) = W0 at *
  generalize w.heap.size = n0 at *
  have S0 := Lib.hid S0
  go_wp2_with fail
  refine (HD.out _ S0.out.b).mono ?_
  rintro e w1 ⟨rfl, b1, t1⟩
  have S1 := Lib.hid (S0.out.step b1 t1)
  clear b1 t1
  go_upto_region 5 with fail
  have td : Touch [] w1 w1.drew := (Touch.refl _ _).drew
  have S1 := Lib.hid (S1.out.step0 (fun h t => h.kept t) td)
  clear td
  have hbb : bits .and .i64 2 1 = 0 := by decide
  have cc : w1.drew.cell? ⟨n0 + 1, 0, none⟩ = some (.string ⟨#[116]⟩) := by rw [cell_of (S1.out.bl _ (.tail _ (.head _)))]; rfl
  have cw : w1.cell? ⟨n0 + 1, 0, none⟩ = some (.string ⟨#[116]⟩) := cc
  have gne : n0 + 1 ≠ g := (S1.out.ne _ (.tail _ (.head _))).1
  go_region_held3 (fun W' => W'.cell? ⟨n0 + 1, 0, none⟩ = some (.string ⟨#[116]⟩)) (go_keep)
    (first | (go_at_call 24; refine (client_any S1.out.b HC.out.1 HC.out.2).mono ?_; rintro e w2 ⟨rfl, b2, t2⟩; have S2 := Lib.hid (S1.out.step b2 t2); have u0 := t2.cell cc (by simpa using gne); clear b2 t2) | (go_at_call 23; refine (query_any _ _ _).mono ?_; rintro e w3 ⟨rfl, t3⟩; have v0 := t3.cell u0 (by simp); have S3 := Lib.hid (S2.out.step0 (fun h t => h.kept t) (by first | exact t3 | exact (((Touch.refl _ _).alloc _).trans t3 (by simp)))); clear t3; have P := S3.out.put (fun h ha => h.set ha) (.head _) (.int .i64 2) (.int .i64 (dr (nx x) c)) (.string (⟨#[115, 101, 108, 101, 99, 116, 32, 42, 32, 102, 114, 111, 109, 32]⟩ ++ ⟨#[116]⟩)) (.string ⟨#[]⟩) _ _ _ _ rfl rfl rfl rfl; obtain ⟨⟨o0, f0⟩, ⟨o1, f1⟩, ⟨o2, f2⟩, ⟨o3, f3⟩, ⟨y0, y1, y2, y3⟩, bq, tq⟩ := P; have KQ := Lib.hid (And.intro bq tq); clear bq tq))
  all_goals
    go_wp2_with fail
    exact bodyPost_ret (v := .agg #[.int .i64 2, .int .i64 (dr (nx x) c), .string (⟨#[115, 101, 108, 101, 99, 116, 32, 42, 32, 102, 114, 111, 109, 32]⟩ ++ ⟨#[116]⟩), .string ⟨#[]⟩]) (by simp [results, Try.results17, go_sem, y0, y1, y2, y3] <;> rfl) rfl ⟨by rw [hoM.out]; rfl, by rw [hoM.out]; exact KQ.out.1, KQ.out.2⟩
set_option maxRecDepth 100000 in
set_option maxHeartbeats 2000000 in
theorem one_tab3 {w : World} {g : Nat} {x c : Int} (h : MkB w g x c) (d : Int) (h1 : 1 ≤ c) (h2 : c ≤ 65536) (ha : dr x 16 = 3) : Calls Try.prog 17 #[.pointer (some ⟨g, 0, none⟩), .int .i64 d] w (onePost w g c (oneM x c d)) := by
  have hoM : Hid (oneM x c d = (⟨2, dr (nx x) c, selS ++ ⟨#[117]⟩, noS⟩, nx (nx x))) := Lib.hid (by simp [oneM, tabS, ha])
  have HD : Hid (∀ W, MkB W g x c → Calls Try.prog 22 #[.pointer (some ⟨g, 0, none⟩), .int .i64 16] W fun e w' => e = .returned (.int .i64 3) ∧ MkB w' g (nx x) c ∧ Touch [g] W w') := Lib.hid fun W hW => by have := draw_any hW 16 (by decide) (by decide); rwa [ha] at this
  have S0 := ow_start h
  unfold opZ ar2 ar3 noS at S0
  have HC := Lib.hid (And.intro h1 h2)
  clear h h1 h2 ha
  unfold onePost
  go_enter Try.func17, Try.ntmps17
  go_upto_region 3 with fail
  generalize (((w.alloc (.cells #[.int .i64 0, .int .i64 0, .string ⟨#[]⟩, .string ⟨#[]⟩] 35)).alloc (.cells #[.string ⟨#[116]⟩, .string ⟨#[117]⟩] 50)).alloc (.cells #[.string ⟨#[98, 101, 103, 105, 110]⟩, .string ⟨#[99, 111, 109, 109, 105, 116]⟩, .string ⟨#[114, 111, 108, 108, 98, 97, 99, 107]⟩] 51)) = W0 at *
  generalize w.heap.size = n0 at *
  have S0 := Lib.hid S0
  go_wp2_with fail
  refine (HD.out _ S0.out.b).mono ?_
  rintro e w1 ⟨rfl, b1, t1⟩
  have S1 := Lib.hid (S0.out.step b1 t1)
  clear b1 t1
  go_upto_region 5 with fail
  have td : Touch [] w1 w1.drew := (Touch.refl _ _).drew
  have S1 := Lib.hid (S1.out.step0 (fun h t => h.kept t) td)
  clear td
  have hbb : bits .and .i64 3 1 = 1 := by decide
  have cc : w1.drew.cell? ⟨n0 + 1, 1, none⟩ = some (.string ⟨#[117]⟩) := by rw [cell_of (S1.out.bl _ (.tail _ (.head _)))]; rfl
  have cw : w1.cell? ⟨n0 + 1, 1, none⟩ = some (.string ⟨#[117]⟩) := cc
  have gne : n0 + 1 ≠ g := (S1.out.ne _ (.tail _ (.head _))).1
  go_region_held3 (fun W' => W'.cell? ⟨n0 + 1, 1, none⟩ = some (.string ⟨#[117]⟩)) (go_keep)
    (first | (go_at_call 24; refine (client_any S1.out.b HC.out.1 HC.out.2).mono ?_; rintro e w2 ⟨rfl, b2, t2⟩; have S2 := Lib.hid (S1.out.step b2 t2); have u0 := t2.cell cc (by simpa using gne); clear b2 t2) | (go_at_call 23; refine (query_any _ _ _).mono ?_; rintro e w3 ⟨rfl, t3⟩; have v0 := t3.cell u0 (by simp); have S3 := Lib.hid (S2.out.step0 (fun h t => h.kept t) (by first | exact t3 | exact (((Touch.refl _ _).alloc _).trans t3 (by simp)))); clear t3; have P := S3.out.put (fun h ha => h.set ha) (.head _) (.int .i64 2) (.int .i64 (dr (nx x) c)) (.string (⟨#[115, 101, 108, 101, 99, 116, 32, 42, 32, 102, 114, 111, 109, 32]⟩ ++ ⟨#[117]⟩)) (.string ⟨#[]⟩) _ _ _ _ rfl rfl rfl rfl; obtain ⟨⟨o0, f0⟩, ⟨o1, f1⟩, ⟨o2, f2⟩, ⟨o3, f3⟩, ⟨y0, y1, y2, y3⟩, bq, tq⟩ := P; have KQ := Lib.hid (And.intro bq tq); clear bq tq))
  all_goals
    go_wp2_with fail
    exact bodyPost_ret (v := .agg #[.int .i64 2, .int .i64 (dr (nx x) c), .string (⟨#[115, 101, 108, 101, 99, 116, 32, 42, 32, 102, 114, 111, 109, 32]⟩ ++ ⟨#[117]⟩), .string ⟨#[]⟩]) (by simp [results, Try.results17, go_sem, y0, y1, y2, y3] <;> rfl) rfl ⟨by rw [hoM.out]; rfl, by rw [hoM.out]; exact KQ.out.1, KQ.out.2⟩
set_option maxRecDepth 100000 in
set_option maxHeartbeats 2000000 in
theorem one_tab4 {w : World} {g : Nat} {x c : Int} (h : MkB w g x c) (d : Int) (h1 : 1 ≤ c) (h2 : c ≤ 65536) (ha : dr x 16 = 4) : Calls Try.prog 17 #[.pointer (some ⟨g, 0, none⟩), .int .i64 d] w (onePost w g c (oneM x c d)) := by
  have hoM : Hid (oneM x c d = (⟨2, dr (nx x) c, selS ++ ⟨#[116]⟩, noS⟩, nx (nx x))) := Lib.hid (by simp [oneM, tabS, ha])
  have HD : Hid (∀ W, MkB W g x c → Calls Try.prog 22 #[.pointer (some ⟨g, 0, none⟩), .int .i64 16] W fun e w' => e = .returned (.int .i64 4) ∧ MkB w' g (nx x) c ∧ Touch [g] W w') := Lib.hid fun W hW => by have := draw_any hW 16 (by decide) (by decide); rwa [ha] at this
  have S0 := ow_start h
  unfold opZ ar2 ar3 noS at S0
  have HC := Lib.hid (And.intro h1 h2)
  clear h h1 h2 ha
  unfold onePost
  go_enter Try.func17, Try.ntmps17
  go_upto_region 3 with fail
  generalize (((w.alloc (.cells #[.int .i64 0, .int .i64 0, .string ⟨#[]⟩, .string ⟨#[]⟩] 35)).alloc (.cells #[.string ⟨#[116]⟩, .string ⟨#[117]⟩] 50)).alloc (.cells #[.string ⟨#[98, 101, 103, 105, 110]⟩, .string ⟨#[99, 111, 109, 109, 105, 116]⟩, .string ⟨#[114, 111, 108, 108, 98, 97, 99, 107]⟩] 51)) = W0 at *
  generalize w.heap.size = n0 at *
  have S0 := Lib.hid S0
  go_wp2_with fail
  refine (HD.out _ S0.out.b).mono ?_
  rintro e w1 ⟨rfl, b1, t1⟩
  have S1 := Lib.hid (S0.out.step b1 t1)
  clear b1 t1
  go_upto_region 5 with fail
  have td : Touch [] w1 w1.drew := (Touch.refl _ _).drew
  have S1 := Lib.hid (S1.out.step0 (fun h t => h.kept t) td)
  clear td
  have hbb : bits .and .i64 4 1 = 0 := by decide
  have cc : w1.drew.cell? ⟨n0 + 1, 0, none⟩ = some (.string ⟨#[116]⟩) := by rw [cell_of (S1.out.bl _ (.tail _ (.head _)))]; rfl
  have cw : w1.cell? ⟨n0 + 1, 0, none⟩ = some (.string ⟨#[116]⟩) := cc
  have gne : n0 + 1 ≠ g := (S1.out.ne _ (.tail _ (.head _))).1
  go_region_held3 (fun W' => W'.cell? ⟨n0 + 1, 0, none⟩ = some (.string ⟨#[116]⟩)) (go_keep)
    (first | (go_at_call 24; refine (client_any S1.out.b HC.out.1 HC.out.2).mono ?_; rintro e w2 ⟨rfl, b2, t2⟩; have S2 := Lib.hid (S1.out.step b2 t2); have u0 := t2.cell cc (by simpa using gne); clear b2 t2) | (go_at_call 23; refine (query_any _ _ _).mono ?_; rintro e w3 ⟨rfl, t3⟩; have v0 := t3.cell u0 (by simp); have S3 := Lib.hid (S2.out.step0 (fun h t => h.kept t) (by first | exact t3 | exact (((Touch.refl _ _).alloc _).trans t3 (by simp)))); clear t3; have P := S3.out.put (fun h ha => h.set ha) (.head _) (.int .i64 2) (.int .i64 (dr (nx x) c)) (.string (⟨#[115, 101, 108, 101, 99, 116, 32, 42, 32, 102, 114, 111, 109, 32]⟩ ++ ⟨#[116]⟩)) (.string ⟨#[]⟩) _ _ _ _ rfl rfl rfl rfl; obtain ⟨⟨o0, f0⟩, ⟨o1, f1⟩, ⟨o2, f2⟩, ⟨o3, f3⟩, ⟨y0, y1, y2, y3⟩, bq, tq⟩ := P; have KQ := Lib.hid (And.intro bq tq); clear bq tq))
  all_goals
    go_wp2_with fail
    exact bodyPost_ret (v := .agg #[.int .i64 2, .int .i64 (dr (nx x) c), .string (⟨#[115, 101, 108, 101, 99, 116, 32, 42, 32, 102, 114, 111, 109, 32]⟩ ++ ⟨#[116]⟩), .string ⟨#[]⟩]) (by simp [results, Try.results17, go_sem, y0, y1, y2, y3] <;> rfl) rfl ⟨by rw [hoM.out]; rfl, by rw [hoM.out]; exact KQ.out.1, KQ.out.2⟩
set_option maxRecDepth 100000 in
set_option maxHeartbeats 2000000 in
theorem one_tab5 {w : World} {g : Nat} {x c : Int} (h : MkB w g x c) (d : Int) (h1 : 1 ≤ c) (h2 : c ≤ 65536) (ha : dr x 16 = 5) : Calls Try.prog 17 #[.pointer (some ⟨g, 0, none⟩), .int .i64 d] w (onePost w g c (oneM x c d)) := by
  have hoM : Hid (oneM x c d = (⟨2, dr (nx x) c, selS ++ ⟨#[117]⟩, noS⟩, nx (nx x))) := Lib.hid (by simp [oneM, tabS, ha])
  have HD : Hid (∀ W, MkB W g x c → Calls Try.prog 22 #[.pointer (some ⟨g, 0, none⟩), .int .i64 16] W fun e w' => e = .returned (.int .i64 5) ∧ MkB w' g (nx x) c ∧ Touch [g] W w') := Lib.hid fun W hW => by have := draw_any hW 16 (by decide) (by decide); rwa [ha] at this
  have S0 := ow_start h
  unfold opZ ar2 ar3 noS at S0
  have HC := Lib.hid (And.intro h1 h2)
  clear h h1 h2 ha
  unfold onePost
  go_enter Try.func17, Try.ntmps17
  go_upto_region 3 with fail
  generalize (((w.alloc (.cells #[.int .i64 0, .int .i64 0, .string ⟨#[]⟩, .string ⟨#[]⟩] 35)).alloc (.cells #[.string ⟨#[116]⟩, .string ⟨#[117]⟩] 50)).alloc (.cells #[.string ⟨#[98, 101, 103, 105, 110]⟩, .string ⟨#[99, 111, 109, 109, 105, 116]⟩, .string ⟨#[114, 111, 108, 108, 98, 97, 99, 107]⟩] 51)) = W0 at *
  generalize w.heap.size = n0 at *
  have S0 := Lib.hid S0
  go_wp2_with fail
  refine (HD.out _ S0.out.b).mono ?_
  rintro e w1 ⟨rfl, b1, t1⟩
  have S1 := Lib.hid (S0.out.step b1 t1)
  clear b1 t1
  go_upto_region 5 with fail
  have td : Touch [] w1 w1.drew := (Touch.refl _ _).drew
  have S1 := Lib.hid (S1.out.step0 (fun h t => h.kept t) td)
  clear td
  have hbb : bits .and .i64 5 1 = 1 := by decide
  have cc : w1.drew.cell? ⟨n0 + 1, 1, none⟩ = some (.string ⟨#[117]⟩) := by rw [cell_of (S1.out.bl _ (.tail _ (.head _)))]; rfl
  have cw : w1.cell? ⟨n0 + 1, 1, none⟩ = some (.string ⟨#[117]⟩) := cc
  have gne : n0 + 1 ≠ g := (S1.out.ne _ (.tail _ (.head _))).1
  go_region_held3 (fun W' => W'.cell? ⟨n0 + 1, 1, none⟩ = some (.string ⟨#[117]⟩)) (go_keep)
    (first | (go_at_call 24; refine (client_any S1.out.b HC.out.1 HC.out.2).mono ?_; rintro e w2 ⟨rfl, b2, t2⟩; have S2 := Lib.hid (S1.out.step b2 t2); have u0 := t2.cell cc (by simpa using gne); clear b2 t2) | (go_at_call 23; refine (query_any _ _ _).mono ?_; rintro e w3 ⟨rfl, t3⟩; have v0 := t3.cell u0 (by simp); have S3 := Lib.hid (S2.out.step0 (fun h t => h.kept t) (by first | exact t3 | exact (((Touch.refl _ _).alloc _).trans t3 (by simp)))); clear t3; have P := S3.out.put (fun h ha => h.set ha) (.head _) (.int .i64 2) (.int .i64 (dr (nx x) c)) (.string (⟨#[115, 101, 108, 101, 99, 116, 32, 42, 32, 102, 114, 111, 109, 32]⟩ ++ ⟨#[117]⟩)) (.string ⟨#[]⟩) _ _ _ _ rfl rfl rfl rfl; obtain ⟨⟨o0, f0⟩, ⟨o1, f1⟩, ⟨o2, f2⟩, ⟨o3, f3⟩, ⟨y0, y1, y2, y3⟩, bq, tq⟩ := P; have KQ := Lib.hid (And.intro bq tq); clear bq tq))
  all_goals
    go_wp2_with fail
    exact bodyPost_ret (v := .agg #[.int .i64 2, .int .i64 (dr (nx x) c), .string (⟨#[115, 101, 108, 101, 99, 116, 32, 42, 32, 102, 114, 111, 109, 32]⟩ ++ ⟨#[117]⟩), .string ⟨#[]⟩]) (by simp [results, Try.results17, go_sem, y0, y1, y2, y3] <;> rfl) rfl ⟨by rw [hoM.out]; rfl, by rw [hoM.out]; exact KQ.out.1, KQ.out.2⟩
end Go.Proofs.Ytmgcmheiabmajab
end
section
/- load: one thing that happens: the document's. (Printed by logen.py.) -/
namespace Go.Proofs.Ytmgcmheiabmajab
open Go Go.RowKit

theorem row_start {w : World} {g : Nat} {x : Int} (h : StB w g x) : OW (fun W x => StB W g x) g [(w.heap.size, opZ)] w (w.alloc opZ) x := by
  have hg := heap_lt h
  have t : Touch [] w (w.alloc opZ) := (Touch.refl _ _).alloc _
  refine ⟨h.kept t, ?_, ?_, t.mono (by simp)⟩
  · intro p hp
    simp only [List.mem_singleton] at hp
    subst hp
    exact heap_alloc_new w opZ
  · intro p hp
    simp only [List.mem_singleton] at hp
    subst hp
    dsimp only
    omega
set_option maxRecDepth 100000 in
set_option maxHeartbeats 2000000 in
theorem rone_6 {w : World} {g : Nat} {x : Int} (h : StB w g x) (c d : Int) (h1 : 1 ≤ c) (h2 : c ≤ 65536) (ha : dr x 16 = 6) : Calls Try.prog 18 #[.pointer (some ⟨g, 0, none⟩), .int .i64 c, .int .i64 d] w (ronePost w g (oneM x c d)) := by
  have hoM : Hid (oneM x c d = (⟨2, dr (nx x) c, insS ++ dg (dr (nx (nx x)) 4) ++ comS ++ dg (dr (nx (nx (nx x))) 10) ++ cloS, noS⟩, nx (nx (nx (nx x))))) := Lib.hid (by simp [oneM, ha])
  have HD : Hid (∀ W, StB W g x → Calls Try.prog 27 #[.pointer (some ⟨g, 0, none⟩), .int .i64 16] W fun e w' => e = .returned (.int .i64 6) ∧ StB w' g (nx x) ∧ Touch [g] W w') := Lib.hid fun W hW => by have := rdraw_any hW 16 (by decide) (by decide); rwa [ha] at this
  have S0 := row_start h
  unfold opZ noS at S0
  have HC := Lib.hid (And.intro h1 h2)
  clear h h1 h2 ha
  unfold ronePost
  go_enter Try.func18, Try.ntmps18
  go_upto_region 1 with fail
  generalize (w.alloc (.cells #[.int .i64 0, .int .i64 0, .string ⟨#[]⟩, .string ⟨#[]⟩] 35)) = W0 at *
  generalize w.heap.size = n0 at *
  have S0 := Lib.hid S0
  go_wp2_with fail
  refine (HD.out _ S0.out.b).mono ?_
  rintro e w1 ⟨rfl, b1, t1⟩
  have S1 := Lib.hid (S0.out.step b1 t1)
  clear b1 t1
  go_wp2_with fail
  refine (rdraw_any S1.out.b c HC.out.1 HC.out.2).mono ?_
  rintro e w2 ⟨rfl, b2, t2⟩
  have S2 := Lib.hid (S1.out.step b2 t2)
  clear b2 t2
  go_wp2_with fail
  refine (rdraw_any S2.out.b 4 (by decide) (by decide)).mono ?_
  rintro e w3 ⟨rfl, b3, t3⟩
  have S3 := Lib.hid (S2.out.step b3 t3)
  clear b3 t3
  go_wp2_with fail
  refine (rdraw_any S3.out.b 10 (by decide) (by decide)).mono ?_
  rintro e w4 ⟨rfl, b4, t4⟩
  have S4 := Lib.hid (S3.out.step b4 t4)
  clear b4 t4
  go_wp2_with fail
  refine (Digits_any (dr (nx (nx x)) 4) (dr_bound _ (by decide)).1 (by have := (dr_bound (nx (nx x)) (n := 4) (by decide)).2; omega) _).mono ?_
  rintro e w5 ⟨rfl, t5⟩
  have S5 := Lib.hid (S4.out.step0 (fun h t => h.kept t) t5)
  clear t5
  have zs1 := dg_size (dr (nx (nx x)) 4)
  generalize hs1 : dg (dr (nx (nx x)) 4) = s1 at *
  have q1 : 23 + s1.size ≤ 9223372036854775807 := by omega
  have q2 : 23 + s1.size + 3 ≤ 9223372036854775807 := by omega
  have Z1 := Lib.hid zs1
  clear zs1
  go_wp2_with fail
  refine (Digits_any (dr (nx (nx (nx x))) 10) (dr_bound _ (by decide)).1 (by have := (dr_bound (nx (nx (nx x))) (n := 10) (by decide)).2; omega) _).mono ?_
  rintro e w6 ⟨rfl, t6⟩
  have S6 := Lib.hid (S5.out.step0 (fun h t => h.kept t) t6)
  clear t6
  have zs2 := dg_size (dr (nx (nx (nx x))) 10)
  generalize hs2 : dg (dr (nx (nx (nx x))) 10) = s2 at *
  have zz := Z1.out
  have q3 : 23 + s1.size + 3 + s2.size ≤ 9223372036854775807 := by omega
  have q4 : 23 + s1.size + 3 + s2.size + 2 ≤ 9223372036854775807 := by omega
  clear zz zs2
  go_wp2_with fail
  refine (ask_any _ _ _).mono ?_
  rintro e w7 ⟨rfl, t7⟩
  have S7 := Lib.hid (S6.out.step0 (fun h t => h.kept t) t7)
  clear t7
  have P := S7.out.put (fun h ha => h.set ha) (.head _) (.int .i64 2) (.int .i64 (dr (nx x) c)) (.string (insS ++ s1 ++ comS ++ s2 ++ cloS)) (.string ⟨#[]⟩) _ _ _ _ rfl rfl rfl rfl
  obtain ⟨⟨o0, f0⟩, ⟨o1, f1⟩, ⟨o2, f2⟩, ⟨o3, f3⟩, ⟨y0, y1, y2, y3⟩, bq, tq⟩ := P
  have KQ := Lib.hid (And.intro bq tq)
  clear bq tq
  unfold insS comS cloS at *
  go_wp2_with fail
  exact bodyPost_ret (v := .agg #[.int .i64 2, .int .i64 (dr (nx x) c), .string (insS ++ s1 ++ comS ++ s2 ++ cloS), .string ⟨#[]⟩]) (by simp [results, Try.results18, go_sem, y0, y1, y2, y3] <;> rfl) rfl ⟨by rw [hoM.out]; rfl, by rw [hoM.out]; exact KQ.out.1, KQ.out.2⟩
set_option maxRecDepth 100000 in
set_option maxHeartbeats 2000000 in
theorem rone_7 {w : World} {g : Nat} {x : Int} (h : StB w g x) (c d : Int) (h1 : 1 ≤ c) (h2 : c ≤ 65536) (ha : dr x 16 = 7) : Calls Try.prog 18 #[.pointer (some ⟨g, 0, none⟩), .int .i64 c, .int .i64 d] w (ronePost w g (oneM x c d)) := by
  have hoM : Hid (oneM x c d = (⟨2, dr (nx x) c, updS ++ dg (dr (nx (nx x)) 4), noS⟩, nx (nx (nx x)))) := Lib.hid (by simp [oneM, ha])
  have HD : Hid (∀ W, StB W g x → Calls Try.prog 27 #[.pointer (some ⟨g, 0, none⟩), .int .i64 16] W fun e w' => e = .returned (.int .i64 7) ∧ StB w' g (nx x) ∧ Touch [g] W w') := Lib.hid fun W hW => by have := rdraw_any hW 16 (by decide) (by decide); rwa [ha] at this
  have S0 := row_start h
  unfold opZ noS at S0
  have HC := Lib.hid (And.intro h1 h2)
  clear h h1 h2 ha
  unfold ronePost
  go_enter Try.func18, Try.ntmps18
  go_upto_region 1 with fail
  generalize (w.alloc (.cells #[.int .i64 0, .int .i64 0, .string ⟨#[]⟩, .string ⟨#[]⟩] 35)) = W0 at *
  generalize w.heap.size = n0 at *
  have S0 := Lib.hid S0
  go_wp2_with fail
  refine (HD.out _ S0.out.b).mono ?_
  rintro e w1 ⟨rfl, b1, t1⟩
  have S1 := Lib.hid (S0.out.step b1 t1)
  clear b1 t1
  go_wp2_with fail
  refine (rdraw_any S1.out.b c HC.out.1 HC.out.2).mono ?_
  rintro e w2 ⟨rfl, b2, t2⟩
  have S2 := Lib.hid (S1.out.step b2 t2)
  clear b2 t2
  go_wp2_with fail
  refine (rdraw_any S2.out.b 4 (by decide) (by decide)).mono ?_
  rintro e w3 ⟨rfl, b3, t3⟩
  have S3 := Lib.hid (S2.out.step b3 t3)
  clear b3 t3
  go_wp2_with fail
  refine (Digits_any (dr (nx (nx x)) 4) (dr_bound _ (by decide)).1 (by have := (dr_bound (nx (nx x)) (n := 4) (by decide)).2; omega) _).mono ?_
  rintro e w4 ⟨rfl, t4⟩
  have S4 := Lib.hid (S3.out.step0 (fun h t => h.kept t) t4)
  clear t4
  have zs1 := dg_size (dr (nx (nx x)) 4)
  generalize hs1 : dg (dr (nx (nx x)) 4) = s1 at *
  have q1 : 33 + s1.size ≤ 9223372036854775807 := by omega
  clear zs1
  go_wp2_with fail
  refine (ask_any _ _ _).mono ?_
  rintro e w5 ⟨rfl, t5⟩
  have S5 := Lib.hid (S4.out.step0 (fun h t => h.kept t) t5)
  clear t5
  have P := S5.out.put (fun h ha => h.set ha) (.head _) (.int .i64 2) (.int .i64 (dr (nx x) c)) (.string (updS ++ s1)) (.string ⟨#[]⟩) _ _ _ _ rfl rfl rfl rfl
  obtain ⟨⟨o0, f0⟩, ⟨o1, f1⟩, ⟨o2, f2⟩, ⟨o3, f3⟩, ⟨y0, y1, y2, y3⟩, bq, tq⟩ := P
  have KQ := Lib.hid (And.intro bq tq)
  clear bq tq
  unfold updS at *
  go_wp2_with fail
  exact bodyPost_ret (v := .agg #[.int .i64 2, .int .i64 (dr (nx x) c), .string (updS ++ s1), .string ⟨#[]⟩]) (by simp [results, Try.results18, go_sem, y0, y1, y2, y3] <;> rfl) rfl ⟨by rw [hoM.out]; rfl, by rw [hoM.out]; exact KQ.out.1, KQ.out.2⟩
set_option maxRecDepth 100000 in
set_option maxHeartbeats 2000000 in
theorem rone_8_0 {w : World} {g : Nat} {x : Int} (h : StB w g x) (c d : Int) (h1 : 1 ≤ c) (h2 : c ≤ 65536) (ha : dr x 16 = 8) (hk : dr (nx (nx x)) 3 = 0) : Calls Try.prog 18 #[.pointer (some ⟨g, 0, none⟩), .int .i64 c, .int .i64 d] w (ronePost w g (oneM x c d)) := by
  have hoM : Hid (oneM x c d = (⟨2, dr (nx x) c, ⟨#[98, 101, 103, 105, 110]⟩, noS⟩, nx (nx (nx x)))) := Lib.hid (by simp [oneM, bndS, ha, hk])
  have HD : Hid (∀ W, StB W g x → Calls Try.prog 27 #[.pointer (some ⟨g, 0, none⟩), .int .i64 16] W fun e w' => e = .returned (.int .i64 8) ∧ StB w' g (nx x) ∧ Touch [g] W w') := Lib.hid fun W hW => by have := rdraw_any hW 16 (by decide) (by decide); rwa [ha] at this
  have S0 := row_start h
  unfold opZ noS at S0
  have HC := Lib.hid (And.intro h1 h2)
  have HE : Hid (∀ W, StB W g (nx (nx x)) → Calls Try.prog 27 #[.pointer (some ⟨g, 0, none⟩), .int .i64 3] W fun e w' => e = .returned (.int .i64 0) ∧ StB w' g (nx (nx (nx x))) ∧ Touch [g] W w') := Lib.hid fun W hW => by have := rdraw_any hW 3 (by decide) (by decide); rwa [hk] at this
  clear hk
  clear h h1 h2 ha
  unfold ronePost
  go_enter Try.func18, Try.ntmps18
  go_upto_region 1 with fail
  generalize (w.alloc (.cells #[.int .i64 0, .int .i64 0, .string ⟨#[]⟩, .string ⟨#[]⟩] 35)) = W0 at *
  generalize w.heap.size = n0 at *
  have S0 := Lib.hid S0
  go_wp2_with fail
  refine (HD.out _ S0.out.b).mono ?_
  rintro e w1 ⟨rfl, b1, t1⟩
  have S1 := Lib.hid (S0.out.step b1 t1)
  clear b1 t1
  go_wp2_with fail
  refine (rdraw_any S1.out.b c HC.out.1 HC.out.2).mono ?_
  rintro e w2 ⟨rfl, b2, t2⟩
  have S2 := Lib.hid (S1.out.step b2 t2)
  clear b2 t2
  go_wp2_with fail
  have t0 : Touch [] w2 (w2.alloc (.cells #[.string ⟨#[98, 101, 103, 105, 110]⟩, .string ⟨#[99, 111, 109, 109, 105, 116]⟩, .string ⟨#[114, 111, 108, 108, 98, 97, 99, 107]⟩] 9)) := (Touch.refl _ _).alloc _
  have S0' := Lib.hid (And.intro (S2.out.step0 (fun h t => h.kept t) t0) (heap_alloc_new w2 (.cells #[.string ⟨#[98, 101, 103, 105, 110]⟩, .string ⟨#[99, 111, 109, 109, 105, 116]⟩, .string ⟨#[114, 111, 108, 108, 98, 97, 99, 107]⟩] 9)))
  have hgw := heap_lt S2.out.b
  clear t0
  refine (HE.out _ S0'.out.1.b).mono ?_
  rintro e w3 ⟨rfl, b3, t3⟩
  have S3 := Lib.hid (S0'.out.1.step b3 t3)
  have cc : w3.cell? ⟨w2.heap.size, 0, none⟩ = some (.string ⟨#[98, 101, 103, 105, 110]⟩) := by rw [cell_of ((t3.block _ (heap_lt S0'.out.2) (by simp; omega)).trans S0'.out.2)]; rfl
  clear b3 t3 hgw
  go_wp2_with fail
  refine (ask_any _ _ _).mono ?_
  rintro e w4 ⟨rfl, t4⟩
  have S4 := Lib.hid (S3.out.step0 (fun h t => h.kept t) t4)
  clear t4
  clear cc
  have P := S4.out.put (fun h ha => h.set ha) (.head _) (.int .i64 2) (.int .i64 (dr (nx x) c)) (.string ⟨#[98, 101, 103, 105, 110]⟩) (.string ⟨#[]⟩) _ _ _ _ rfl rfl rfl rfl
  obtain ⟨⟨o0, f0⟩, ⟨o1, f1⟩, ⟨o2, f2⟩, ⟨o3, f3⟩, ⟨y0, y1, y2, y3⟩, bq, tq⟩ := P
  have KQ := Lib.hid (And.intro bq tq)
  clear bq tq
  go_wp2_with fail
  exact bodyPost_ret (v := .agg #[.int .i64 2, .int .i64 (dr (nx x) c), .string ⟨#[98, 101, 103, 105, 110]⟩, .string ⟨#[]⟩]) (by simp [results, Try.results18, go_sem, y0, y1, y2, y3] <;> rfl) rfl ⟨by rw [hoM.out]; rfl, by rw [hoM.out]; exact KQ.out.1, KQ.out.2⟩
set_option maxRecDepth 100000 in
set_option maxHeartbeats 2000000 in
theorem rone_8_1 {w : World} {g : Nat} {x : Int} (h : StB w g x) (c d : Int) (h1 : 1 ≤ c) (h2 : c ≤ 65536) (ha : dr x 16 = 8) (hk : dr (nx (nx x)) 3 = 1) : Calls Try.prog 18 #[.pointer (some ⟨g, 0, none⟩), .int .i64 c, .int .i64 d] w (ronePost w g (oneM x c d)) := by
  have hoM : Hid (oneM x c d = (⟨2, dr (nx x) c, ⟨#[99, 111, 109, 109, 105, 116]⟩, noS⟩, nx (nx (nx x)))) := Lib.hid (by simp [oneM, bndS, ha, hk])
  have HD : Hid (∀ W, StB W g x → Calls Try.prog 27 #[.pointer (some ⟨g, 0, none⟩), .int .i64 16] W fun e w' => e = .returned (.int .i64 8) ∧ StB w' g (nx x) ∧ Touch [g] W w') := Lib.hid fun W hW => by have := rdraw_any hW 16 (by decide) (by decide); rwa [ha] at this
  have S0 := row_start h
  unfold opZ noS at S0
  have HC := Lib.hid (And.intro h1 h2)
  have HE : Hid (∀ W, StB W g (nx (nx x)) → Calls Try.prog 27 #[.pointer (some ⟨g, 0, none⟩), .int .i64 3] W fun e w' => e = .returned (.int .i64 1) ∧ StB w' g (nx (nx (nx x))) ∧ Touch [g] W w') := Lib.hid fun W hW => by have := rdraw_any hW 3 (by decide) (by decide); rwa [hk] at this
  clear hk
  clear h h1 h2 ha
  unfold ronePost
  go_enter Try.func18, Try.ntmps18
  go_upto_region 1 with fail
  generalize (w.alloc (.cells #[.int .i64 0, .int .i64 0, .string ⟨#[]⟩, .string ⟨#[]⟩] 35)) = W0 at *
  generalize w.heap.size = n0 at *
  have S0 := Lib.hid S0
  go_wp2_with fail
  refine (HD.out _ S0.out.b).mono ?_
  rintro e w1 ⟨rfl, b1, t1⟩
  have S1 := Lib.hid (S0.out.step b1 t1)
  clear b1 t1
  go_wp2_with fail
  refine (rdraw_any S1.out.b c HC.out.1 HC.out.2).mono ?_
  rintro e w2 ⟨rfl, b2, t2⟩
  have S2 := Lib.hid (S1.out.step b2 t2)
  clear b2 t2
  go_wp2_with fail
  have t0 : Touch [] w2 (w2.alloc (.cells #[.string ⟨#[98, 101, 103, 105, 110]⟩, .string ⟨#[99, 111, 109, 109, 105, 116]⟩, .string ⟨#[114, 111, 108, 108, 98, 97, 99, 107]⟩] 9)) := (Touch.refl _ _).alloc _
  have S0' := Lib.hid (And.intro (S2.out.step0 (fun h t => h.kept t) t0) (heap_alloc_new w2 (.cells #[.string ⟨#[98, 101, 103, 105, 110]⟩, .string ⟨#[99, 111, 109, 109, 105, 116]⟩, .string ⟨#[114, 111, 108, 108, 98, 97, 99, 107]⟩] 9)))
  have hgw := heap_lt S2.out.b
  clear t0
  refine (HE.out _ S0'.out.1.b).mono ?_
  rintro e w3 ⟨rfl, b3, t3⟩
  have S3 := Lib.hid (S0'.out.1.step b3 t3)
  have cc : w3.cell? ⟨w2.heap.size, 1, none⟩ = some (.string ⟨#[99, 111, 109, 109, 105, 116]⟩) := by rw [cell_of ((t3.block _ (heap_lt S0'.out.2) (by simp; omega)).trans S0'.out.2)]; rfl
  clear b3 t3 hgw
  go_wp2_with fail
  refine (ask_any _ _ _).mono ?_
  rintro e w4 ⟨rfl, t4⟩
  have S4 := Lib.hid (S3.out.step0 (fun h t => h.kept t) t4)
  clear t4
  clear cc
  have P := S4.out.put (fun h ha => h.set ha) (.head _) (.int .i64 2) (.int .i64 (dr (nx x) c)) (.string ⟨#[99, 111, 109, 109, 105, 116]⟩) (.string ⟨#[]⟩) _ _ _ _ rfl rfl rfl rfl
  obtain ⟨⟨o0, f0⟩, ⟨o1, f1⟩, ⟨o2, f2⟩, ⟨o3, f3⟩, ⟨y0, y1, y2, y3⟩, bq, tq⟩ := P
  have KQ := Lib.hid (And.intro bq tq)
  clear bq tq
  go_wp2_with fail
  exact bodyPost_ret (v := .agg #[.int .i64 2, .int .i64 (dr (nx x) c), .string ⟨#[99, 111, 109, 109, 105, 116]⟩, .string ⟨#[]⟩]) (by simp [results, Try.results18, go_sem, y0, y1, y2, y3] <;> rfl) rfl ⟨by rw [hoM.out]; rfl, by rw [hoM.out]; exact KQ.out.1, KQ.out.2⟩
set_option maxRecDepth 100000 in
set_option maxHeartbeats 2000000 in
theorem rone_8_2 {w : World} {g : Nat} {x : Int} (h : StB w g x) (c d : Int) (h1 : 1 ≤ c) (h2 : c ≤ 65536) (ha : dr x 16 = 8) (hk : dr (nx (nx x)) 3 = 2) : Calls Try.prog 18 #[.pointer (some ⟨g, 0, none⟩), .int .i64 c, .int .i64 d] w (ronePost w g (oneM x c d)) := by
  have hoM : Hid (oneM x c d = (⟨2, dr (nx x) c, ⟨#[114, 111, 108, 108, 98, 97, 99, 107]⟩, noS⟩, nx (nx (nx x)))) := Lib.hid (by simp [oneM, bndS, ha, hk])
  have HD : Hid (∀ W, StB W g x → Calls Try.prog 27 #[.pointer (some ⟨g, 0, none⟩), .int .i64 16] W fun e w' => e = .returned (.int .i64 8) ∧ StB w' g (nx x) ∧ Touch [g] W w') := Lib.hid fun W hW => by have := rdraw_any hW 16 (by decide) (by decide); rwa [ha] at this
  have S0 := row_start h
  unfold opZ noS at S0
  have HC := Lib.hid (And.intro h1 h2)
  have HE : Hid (∀ W, StB W g (nx (nx x)) → Calls Try.prog 27 #[.pointer (some ⟨g, 0, none⟩), .int .i64 3] W fun e w' => e = .returned (.int .i64 2) ∧ StB w' g (nx (nx (nx x))) ∧ Touch [g] W w') := Lib.hid fun W hW => by have := rdraw_any hW 3 (by decide) (by decide); rwa [hk] at this
  clear hk
  clear h h1 h2 ha
  unfold ronePost
  go_enter Try.func18, Try.ntmps18
  go_upto_region 1 with fail
  generalize (w.alloc (.cells #[.int .i64 0, .int .i64 0, .string ⟨#[]⟩, .string ⟨#[]⟩] 35)) = W0 at *
  generalize w.heap.size = n0 at *
  have S0 := Lib.hid S0
  go_wp2_with fail
  refine (HD.out _ S0.out.b).mono ?_
  rintro e w1 ⟨rfl, b1, t1⟩
  have S1 := Lib.hid (S0.out.step b1 t1)
  clear b1 t1
  go_wp2_with fail
  refine (rdraw_any S1.out.b c HC.out.1 HC.out.2).mono ?_
  rintro e w2 ⟨rfl, b2, t2⟩
  have S2 := Lib.hid (S1.out.step b2 t2)
  clear b2 t2
  go_wp2_with fail
  have t0 : Touch [] w2 (w2.alloc (.cells #[.string ⟨#[98, 101, 103, 105, 110]⟩, .string ⟨#[99, 111, 109, 109, 105, 116]⟩, .string ⟨#[114, 111, 108, 108, 98, 97, 99, 107]⟩] 9)) := (Touch.refl _ _).alloc _
  have S0' := Lib.hid (And.intro (S2.out.step0 (fun h t => h.kept t) t0) (heap_alloc_new w2 (.cells #[.string ⟨#[98, 101, 103, 105, 110]⟩, .string ⟨#[99, 111, 109, 109, 105, 116]⟩, .string ⟨#[114, 111, 108, 108, 98, 97, 99, 107]⟩] 9)))
  have hgw := heap_lt S2.out.b
  clear t0
  refine (HE.out _ S0'.out.1.b).mono ?_
  rintro e w3 ⟨rfl, b3, t3⟩
  have S3 := Lib.hid (S0'.out.1.step b3 t3)
  have cc : w3.cell? ⟨w2.heap.size, 2, none⟩ = some (.string ⟨#[114, 111, 108, 108, 98, 97, 99, 107]⟩) := by rw [cell_of ((t3.block _ (heap_lt S0'.out.2) (by simp; omega)).trans S0'.out.2)]; rfl
  clear b3 t3 hgw
  go_wp2_with fail
  refine (ask_any _ _ _).mono ?_
  rintro e w4 ⟨rfl, t4⟩
  have S4 := Lib.hid (S3.out.step0 (fun h t => h.kept t) t4)
  clear t4
  clear cc
  have P := S4.out.put (fun h ha => h.set ha) (.head _) (.int .i64 2) (.int .i64 (dr (nx x) c)) (.string ⟨#[114, 111, 108, 108, 98, 97, 99, 107]⟩) (.string ⟨#[]⟩) _ _ _ _ rfl rfl rfl rfl
  obtain ⟨⟨o0, f0⟩, ⟨o1, f1⟩, ⟨o2, f2⟩, ⟨o3, f3⟩, ⟨y0, y1, y2, y3⟩, bq, tq⟩ := P
  have KQ := Lib.hid (And.intro bq tq)
  clear bq tq
  go_wp2_with fail
  exact bodyPost_ret (v := .agg #[.int .i64 2, .int .i64 (dr (nx x) c), .string ⟨#[114, 111, 108, 108, 98, 97, 99, 107]⟩, .string ⟨#[]⟩]) (by simp [results, Try.results18, go_sem, y0, y1, y2, y3] <;> rfl) rfl ⟨by rw [hoM.out]; rfl, by rw [hoM.out]; exact KQ.out.1, KQ.out.2⟩
set_option maxRecDepth 100000 in
set_option maxHeartbeats 2000000 in
theorem rone_step {w : World} {g : Nat} {x : Int} (h : StB w g x) (c d : Int) (h1 : 1 ≤ c) (h2 : c ≤ 65536) (a : Int) (ha : dr x 16 = a) (ha1 : 9 ≤ a) (ha2 : a ≤ 11) : Calls Try.prog 18 #[.pointer (some ⟨g, 0, none⟩), .int .i64 c, .int .i64 d] w (ronePost w g (oneM x c d)) := by
  have hoM : Hid (oneM x c d = (⟨3, 1 + dr (nx x) 3, noS, noS⟩, nx (nx x))) := Lib.hid (by simp only [oneM, ha]; rw [if_neg (by omega), if_neg (by omega), if_neg (by omega), if_neg (by omega), if_pos (by omega)])
  have HD : Hid (∀ W, StB W g x → Calls Try.prog 27 #[.pointer (some ⟨g, 0, none⟩), .int .i64 16] W fun e w' => e = .returned (.int .i64 a) ∧ StB w' g (nx x) ∧ Touch [g] W w') := Lib.hid fun W hW => by have := rdraw_any hW 16 (by decide) (by decide); rwa [ha] at this
  have S0 := row_start h
  unfold opZ noS at S0
  have HC := Lib.hid (And.intro h1 h2)
  have e6 : (a == 6) = false := by rw [beq_eq_false_iff_ne]; omega
  have e7 : (a == 7) = false := by rw [beq_eq_false_iff_ne]; omega
  have e8 : (a == 8) = false := by rw [beq_eq_false_iff_ne]; omega
  have b5 : ¬ a < 6 := by omega
  have b5' : ¬ a ≤ 5 := by omega
  have b11 : a < 12 := by omega
  have b11' : a ≤ 11 := by omega
  clear ha1 ha2
  clear h h1 h2 ha
  unfold ronePost
  go_enter Try.func18, Try.ntmps18
  go_upto_region 1 with fail
  generalize (w.alloc (.cells #[.int .i64 0, .int .i64 0, .string ⟨#[]⟩, .string ⟨#[]⟩] 35)) = W0 at *
  generalize w.heap.size = n0 at *
  have S0 := Lib.hid S0
  go_wp2_with fail
  refine (HD.out _ S0.out.b).mono ?_
  rintro e w1 ⟨rfl, b1, t1⟩
  have S1 := Lib.hid (S0.out.step b1 t1)
  clear b1 t1
  go_wp2_with fail
  refine (rdraw_any S1.out.b 3 (by decide) (by decide)).mono ?_
  rintro e w2 ⟨rfl, b2, t2⟩
  have S2 := Lib.hid (S1.out.step b2 t2)
  clear b2 t2
  have k0 := (dr_bound (nx x) (n := 3) (by decide)).1
  have k1 := (dr_bound (nx x) (n := 3) (by decide)).2
  generalize hk : dr (nx x) 3 = k at *
  have P := S2.out.put (fun h ha => h.set ha) (.head _) (.int .i64 3) (.int .i64 (k + 1)) (.string ⟨#[]⟩) (.string ⟨#[]⟩) _ _ _ _ rfl rfl rfl rfl
  obtain ⟨⟨o0, f0⟩, ⟨o1, f1⟩, ⟨o2, f2⟩, ⟨o3, f3⟩, ⟨y0, y1, y2, y3⟩, bq, tq⟩ := P
  have KQ := Lib.hid (And.intro bq tq)
  clear bq tq
  go_wp2_with fail
  exact bodyPost_ret (v := .agg #[.int .i64 3, .int .i64 (k + 1), .string ⟨#[]⟩, .string ⟨#[]⟩]) (by simp [results, Try.results18, go_sem, y0, y1, y2, y3] <;> rfl) rfl ⟨by rw [hoM.out, show 1 + k = k + 1 by omega]; rfl, by rw [hoM.out]; exact KQ.out.1, KQ.out.2⟩
set_option maxRecDepth 100000 in
set_option maxHeartbeats 2000000 in
theorem rone_deliver {w : World} {g : Nat} {x : Int} (h : StB w g x) (c d : Int) (h1 : 1 ≤ c) (h2 : c ≤ 65536) (a : Int) (ha : dr x 16 = a) (ha1 : 12 ≤ a) (ha2 : a ≤ 14) : Calls Try.prog 18 #[.pointer (some ⟨g, 0, none⟩), .int .i64 c, .int .i64 d] w (ronePost w g (oneM x c d)) := by
  have hoM : Hid (oneM x c d = (⟨4, 1 + dr (nx x) 3, noS, noS⟩, nx (nx x))) := Lib.hid (by simp only [oneM, ha]; rw [if_neg (by omega), if_neg (by omega), if_neg (by omega), if_neg (by omega), if_neg (by omega), if_pos (by omega)])
  have HD : Hid (∀ W, StB W g x → Calls Try.prog 27 #[.pointer (some ⟨g, 0, none⟩), .int .i64 16] W fun e w' => e = .returned (.int .i64 a) ∧ StB w' g (nx x) ∧ Touch [g] W w') := Lib.hid fun W hW => by have := rdraw_any hW 16 (by decide) (by decide); rwa [ha] at this
  have S0 := row_start h
  unfold opZ noS at S0
  have HC := Lib.hid (And.intro h1 h2)
  have e6 : (a == 6) = false := by rw [beq_eq_false_iff_ne]; omega
  have e7 : (a == 7) = false := by rw [beq_eq_false_iff_ne]; omega
  have e8 : (a == 8) = false := by rw [beq_eq_false_iff_ne]; omega
  have b5 : ¬ a < 6 := by omega
  have b5' : ¬ a ≤ 5 := by omega
  have b11 : ¬ a < 12 := by omega
  have b11' : ¬ a ≤ 11 := by omega
  have b14 : a < 15 := by omega
  have b14' : a ≤ 14 := by omega
  clear ha1 ha2
  clear h h1 h2 ha
  unfold ronePost
  go_enter Try.func18, Try.ntmps18
  go_upto_region 1 with fail
  generalize (w.alloc (.cells #[.int .i64 0, .int .i64 0, .string ⟨#[]⟩, .string ⟨#[]⟩] 35)) = W0 at *
  generalize w.heap.size = n0 at *
  have S0 := Lib.hid S0
  go_wp2_with fail
  refine (HD.out _ S0.out.b).mono ?_
  rintro e w1 ⟨rfl, b1, t1⟩
  have S1 := Lib.hid (S0.out.step b1 t1)
  clear b1 t1
  go_wp2_with fail
  refine (rdraw_any S1.out.b 3 (by decide) (by decide)).mono ?_
  rintro e w2 ⟨rfl, b2, t2⟩
  have S2 := Lib.hid (S1.out.step b2 t2)
  clear b2 t2
  have k0 := (dr_bound (nx x) (n := 3) (by decide)).1
  have k1 := (dr_bound (nx x) (n := 3) (by decide)).2
  generalize hk : dr (nx x) 3 = k at *
  have P := S2.out.put (fun h ha => h.set ha) (.head _) (.int .i64 4) (.int .i64 (k + 1)) (.string ⟨#[]⟩) (.string ⟨#[]⟩) _ _ _ _ rfl rfl rfl rfl
  obtain ⟨⟨o0, f0⟩, ⟨o1, f1⟩, ⟨o2, f2⟩, ⟨o3, f3⟩, ⟨y0, y1, y2, y3⟩, bq, tq⟩ := P
  have KQ := Lib.hid (And.intro bq tq)
  clear bq tq
  go_wp2_with fail
  exact bodyPost_ret (v := .agg #[.int .i64 4, .int .i64 (k + 1), .string ⟨#[]⟩, .string ⟨#[]⟩]) (by simp [results, Try.results18, go_sem, y0, y1, y2, y3] <;> rfl) rfl ⟨by rw [hoM.out, show 1 + k = k + 1 by omega]; rfl, by rw [hoM.out]; exact KQ.out.1, KQ.out.2⟩
set_option maxRecDepth 100000 in
set_option maxHeartbeats 2000000 in
theorem rone_rare {w : World} {g : Nat} {x : Int} (h : StB w g x) (c d : Int) (h1 : 1 ≤ c) (h2 : c ≤ 65536) (a : Int) (ha : dr x 16 = a) (ha1 : 15 ≤ a) : Calls Try.prog 18 #[.pointer (some ⟨g, 0, none⟩), .int .i64 c, .int .i64 d] w (ronePost w g (oneM x c d)) := by
  have hoM : Hid (oneM x c d = ((rareM (nx x) c d).1, (rareM (nx x) c d).2)) := Lib.hid (by simp only [oneM, ha]; rw [if_neg (by omega), if_neg (by omega), if_neg (by omega), if_neg (by omega), if_neg (by omega), if_neg (by omega)])
  have HD : Hid (∀ W, StB W g x → Calls Try.prog 27 #[.pointer (some ⟨g, 0, none⟩), .int .i64 16] W fun e w' => e = .returned (.int .i64 a) ∧ StB w' g (nx x) ∧ Touch [g] W w') := Lib.hid fun W hW => by have := rdraw_any hW 16 (by decide) (by decide); rwa [ha] at this
  have S0 := row_start h
  unfold opZ noS at S0
  have HC := Lib.hid (And.intro h1 h2)
  have e6 : (a == 6) = false := by rw [beq_eq_false_iff_ne]; omega
  have e7 : (a == 7) = false := by rw [beq_eq_false_iff_ne]; omega
  have e8 : (a == 8) = false := by rw [beq_eq_false_iff_ne]; omega
  have b5 : ¬ a < 6 := by omega
  have b6 : ¬ a ≤ 5 := by omega
  have b11 : ¬ a < 12 := by omega
  have b12 : ¬ a ≤ 11 := by omega
  have b14 : ¬ a < 15 := by omega
  have b15 : ¬ a ≤ 14 := by omega
  clear ha1
  clear h h1 h2 ha
  unfold ronePost
  go_enter Try.func18, Try.ntmps18
  go_upto_region 1 with fail
  generalize (w.alloc (.cells #[.int .i64 0, .int .i64 0, .string ⟨#[]⟩, .string ⟨#[]⟩] 35)) = W0 at *
  generalize w.heap.size = n0 at *
  have S0 := Lib.hid S0
  go_wp2_with fail
  refine (HD.out _ S0.out.b).mono ?_
  rintro e w1 ⟨rfl, b1, t1⟩
  have S1 := Lib.hid (S0.out.step b1 t1)
  clear b1 t1
  go_wp2_with fail
  refine (rrare_any S1.out.b c d HC.out.1 HC.out.2).mono ?_
  rintro e w2 ⟨rfl, b2, t2⟩
  have S2 := Lib.hid (S1.out.step b2 t2)
  clear b2 t2
  generalize rareM (nx x) c d = R at *
  obtain ⟨⟨rk, rn, rs, rr⟩, rx⟩ := R
  dsimp only [opV] at *
  have P := S2.out.put (fun h ha => h.set ha) (.head _) (.int .i64 rk) (.int .i64 rn) (.string rs) (.string rr) _ _ _ _ rfl rfl rfl rfl
  obtain ⟨⟨o0, f0⟩, ⟨o1, f1⟩, ⟨o2, f2⟩, ⟨o3, f3⟩, ⟨y0, y1, y2, y3⟩, bq, tq⟩ := P
  have KQ := Lib.hid (And.intro bq tq)
  clear bq tq
  go_wp2_with fail
  exact bodyPost_ret (v := .agg #[.int .i64 rk, .int .i64 rn, .string rs, .string rr]) (by simp [results, Try.results18, go_sem, y0, y1, y2, y3] <;> rfl) rfl ⟨by rw [hoM.out]; rfl, by rw [hoM.out]; exact KQ.out.1, KQ.out.2⟩
set_option maxRecDepth 100000 in
set_option maxHeartbeats 2000000 in
theorem rone_tab0 {w : World} {g : Nat} {x : Int} (h : StB w g x) (c d : Int) (h1 : 1 ≤ c) (h2 : c ≤ 65536) (ha : dr x 16 = 0) : Calls Try.prog 18 #[.pointer (some ⟨g, 0, none⟩), .int .i64 c, .int .i64 d] w (ronePost w g (oneM x c d)) := by
  have hoM : Hid (oneM x c d = (⟨2, dr (nx x) c, selS ++ ⟨#[116]⟩, noS⟩, nx (nx x))) := Lib.hid (by simp [oneM, tabS, ha])
  have HD : Hid (∀ W, StB W g x → Calls Try.prog 27 #[.pointer (some ⟨g, 0, none⟩), .int .i64 16] W fun e w' => e = .returned (.int .i64 0) ∧ StB w' g (nx x) ∧ Touch [g] W w') := Lib.hid fun W hW => by have := rdraw_any hW 16 (by decide) (by decide); rwa [ha] at this
  have S0 := row_start h
  unfold opZ noS at S0
  have HC := Lib.hid (And.intro h1 h2)
  clear h h1 h2 ha
  unfold ronePost
  go_enter Try.func18, Try.ntmps18
  go_upto_region 1 with fail
  generalize (w.alloc (.cells #[.int .i64 0, .int .i64 0, .string ⟨#[]⟩, .string ⟨#[]⟩] 35)) = W0 at *
  generalize w.heap.size = n0 at *
  have S0 := Lib.hid S0
  go_wp2_with fail
  refine (HD.out _ S0.out.b).mono ?_
  rintro e w1 ⟨rfl, b1, t1⟩
  have S1 := Lib.hid (S0.out.step b1 t1)
  clear b1 t1
  go_upto_region 3 with fail
  have td : Touch [] w1 w1.drew := (Touch.refl _ _).drew
  have S1 := Lib.hid (S1.out.step0 (fun h t => h.kept t) td)
  clear td
  have cst : ∀ v : World, Touch [g] w1.drew v → (v.alloc (.cells #[.string ⟨#[116]⟩, .string ⟨#[117]⟩] 9)).cell? ⟨v.heap.size, 0, none⟩ = some (.string ⟨#[116]⟩) := fun v _ => by rw [cell_of (heap_alloc_new v _)]; rfl
  have CST := Lib.hid cst
  clear cst
  have glt := heap_lt S1.out.b
  have GLT : Hid (g < w1.heap.size) := Lib.hid glt
  clear glt
  have e0 : ((w1.alloc (.cells #[.string ⟨#[116]⟩, .string ⟨#[117]⟩] 9)).drew).cell? ⟨w1.heap.size, 0, none⟩ = some (.string ⟨#[116]⟩) := CST.out w1.drew (Touch.refl _ _)
  have ta : Touch [] w1.drew (w1.alloc (.cells #[.string ⟨#[116]⟩, .string ⟨#[117]⟩] 9)).drew := (Touch.refl [] w1.drew).alloc _
  have SA := Lib.hid (S1.out.step0 (fun h t => h.kept t) ta)
  clear ta
  go_region_with
    (first | (go_at_call 27; first | (refine (rdraw_any S1.out.b c HC.out.1 HC.out.2).mono ?_; rintro e w2 ⟨rfl, b2, t2⟩; have S2 := Lib.hid (S1.out.step b2 t2); have u0 := CST.out _ t2; clear b2 t2) | (refine (rdraw_any (SA.out.b) c HC.out.1 HC.out.2).mono ?_; rintro e w2 ⟨rfl, b2, t2⟩; have S2 := Lib.hid (SA.out.step b2 t2); have u0 := t2.cell e0 (by have := GLT.out; simp; omega); clear b2 t2)) | (go_at_call 28; refine (ask_any _ _ _).mono ?_; rintro e w3 ⟨rfl, t3⟩; have S3 := Lib.hid (S2.out.step0 (fun h t => h.kept t) (by first | exact t3 | exact (((Touch.refl _ _).alloc _).trans t3 (by simp)))); clear t3; have P := S3.out.put (fun h ha => h.set ha) (.head _) (.int .i64 2) (.int .i64 (dr (nx x) c)) (.string (⟨#[115, 101, 108, 101, 99, 116, 32, 42, 32, 102, 114, 111, 109, 32]⟩ ++ ⟨#[116]⟩)) (.string ⟨#[]⟩) _ _ _ _ rfl rfl rfl rfl; obtain ⟨⟨o0, f0⟩, ⟨o1, f1⟩, ⟨o2, f2⟩, ⟨o3, f3⟩, ⟨y0, y1, y2, y3⟩, bq, tq⟩ := P; have KQ := Lib.hid (And.intro bq tq); clear bq tq))
  all_goals
    go_wp2_with fail
    exact bodyPost_ret (v := .agg #[.int .i64 2, .int .i64 (dr (nx x) c), .string (⟨#[115, 101, 108, 101, 99, 116, 32, 42, 32, 102, 114, 111, 109, 32]⟩ ++ ⟨#[116]⟩), .string ⟨#[]⟩]) (by simp [results, Try.results18, go_sem, y0, y1, y2, y3] <;> rfl) rfl ⟨by rw [hoM.out]; rfl, by rw [hoM.out]; exact KQ.out.1, KQ.out.2⟩
set_option maxRecDepth 100000 in
set_option maxHeartbeats 2000000 in
theorem rone_tab1 {w : World} {g : Nat} {x : Int} (h : StB w g x) (c d : Int) (h1 : 1 ≤ c) (h2 : c ≤ 65536) (ha : dr x 16 = 1) : Calls Try.prog 18 #[.pointer (some ⟨g, 0, none⟩), .int .i64 c, .int .i64 d] w (ronePost w g (oneM x c d)) := by
  have hoM : Hid (oneM x c d = (⟨2, dr (nx x) c, selS ++ ⟨#[117]⟩, noS⟩, nx (nx x))) := Lib.hid (by simp [oneM, tabS, ha])
  have HD : Hid (∀ W, StB W g x → Calls Try.prog 27 #[.pointer (some ⟨g, 0, none⟩), .int .i64 16] W fun e w' => e = .returned (.int .i64 1) ∧ StB w' g (nx x) ∧ Touch [g] W w') := Lib.hid fun W hW => by have := rdraw_any hW 16 (by decide) (by decide); rwa [ha] at this
  have S0 := row_start h
  unfold opZ noS at S0
  have HC := Lib.hid (And.intro h1 h2)
  clear h h1 h2 ha
  unfold ronePost
  go_enter Try.func18, Try.ntmps18
  go_upto_region 1 with fail
  generalize (w.alloc (.cells #[.int .i64 0, .int .i64 0, .string ⟨#[]⟩, .string ⟨#[]⟩] 35)) = W0 at *
  generalize w.heap.size = n0 at *
  have S0 := Lib.hid S0
  go_wp2_with fail
  refine (HD.out _ S0.out.b).mono ?_
  rintro e w1 ⟨rfl, b1, t1⟩
  have S1 := Lib.hid (S0.out.step b1 t1)
  clear b1 t1
  go_upto_region 3 with fail
  have td : Touch [] w1 w1.drew := (Touch.refl _ _).drew
  have S1 := Lib.hid (S1.out.step0 (fun h t => h.kept t) td)
  clear td
  have cst : ∀ v : World, Touch [g] w1.drew v → (v.alloc (.cells #[.string ⟨#[116]⟩, .string ⟨#[117]⟩] 9)).cell? ⟨v.heap.size, 1, none⟩ = some (.string ⟨#[117]⟩) := fun v _ => by rw [cell_of (heap_alloc_new v _)]; rfl
  have CST := Lib.hid cst
  clear cst
  have glt := heap_lt S1.out.b
  have GLT : Hid (g < w1.heap.size) := Lib.hid glt
  clear glt
  have e0 : ((w1.alloc (.cells #[.string ⟨#[116]⟩, .string ⟨#[117]⟩] 9)).drew).cell? ⟨w1.heap.size, 1, none⟩ = some (.string ⟨#[117]⟩) := CST.out w1.drew (Touch.refl _ _)
  have ta : Touch [] w1.drew (w1.alloc (.cells #[.string ⟨#[116]⟩, .string ⟨#[117]⟩] 9)).drew := (Touch.refl [] w1.drew).alloc _
  have SA := Lib.hid (S1.out.step0 (fun h t => h.kept t) ta)
  clear ta
  go_region_with
    (first | (go_at_call 27; first | (refine (rdraw_any S1.out.b c HC.out.1 HC.out.2).mono ?_; rintro e w2 ⟨rfl, b2, t2⟩; have S2 := Lib.hid (S1.out.step b2 t2); have u0 := CST.out _ t2; clear b2 t2) | (refine (rdraw_any (SA.out.b) c HC.out.1 HC.out.2).mono ?_; rintro e w2 ⟨rfl, b2, t2⟩; have S2 := Lib.hid (SA.out.step b2 t2); have u0 := t2.cell e0 (by have := GLT.out; simp; omega); clear b2 t2)) | (go_at_call 28; refine (ask_any _ _ _).mono ?_; rintro e w3 ⟨rfl, t3⟩; have S3 := Lib.hid (S2.out.step0 (fun h t => h.kept t) (by first | exact t3 | exact (((Touch.refl _ _).alloc _).trans t3 (by simp)))); clear t3; have P := S3.out.put (fun h ha => h.set ha) (.head _) (.int .i64 2) (.int .i64 (dr (nx x) c)) (.string (⟨#[115, 101, 108, 101, 99, 116, 32, 42, 32, 102, 114, 111, 109, 32]⟩ ++ ⟨#[117]⟩)) (.string ⟨#[]⟩) _ _ _ _ rfl rfl rfl rfl; obtain ⟨⟨o0, f0⟩, ⟨o1, f1⟩, ⟨o2, f2⟩, ⟨o3, f3⟩, ⟨y0, y1, y2, y3⟩, bq, tq⟩ := P; have KQ := Lib.hid (And.intro bq tq); clear bq tq))
  all_goals
    go_wp2_with fail
    exact bodyPost_ret (v := .agg #[.int .i64 2, .int .i64 (dr (nx x) c), .string (⟨#[115, 101, 108, 101, 99, 116, 32, 42, 32, 102, 114, 111, 109, 32]⟩ ++ ⟨#[117]⟩), .string ⟨#[]⟩]) (by simp [results, Try.results18, go_sem, y0, y1, y2, y3] <;> rfl) rfl ⟨by rw [hoM.out]; rfl, by rw [hoM.out]; exact KQ.out.1, KQ.out.2⟩
set_option maxRecDepth 100000 in
set_option maxHeartbeats 2000000 in
theorem rone_tab2 {w : World} {g : Nat} {x : Int} (h : StB w g x) (c d : Int) (h1 : 1 ≤ c) (h2 : c ≤ 65536) (ha : dr x 16 = 2) : Calls Try.prog 18 #[.pointer (some ⟨g, 0, none⟩), .int .i64 c, .int .i64 d] w (ronePost w g (oneM x c d)) := by
  have hoM : Hid (oneM x c d = (⟨2, dr (nx x) c, selS ++ ⟨#[116]⟩, noS⟩, nx (nx x))) := Lib.hid (by simp [oneM, tabS, ha])
  have HD : Hid (∀ W, StB W g x → Calls Try.prog 27 #[.pointer (some ⟨g, 0, none⟩), .int .i64 16] W fun e w' => e = .returned (.int .i64 2) ∧ StB w' g (nx x) ∧ Touch [g] W w') := Lib.hid fun W hW => by have := rdraw_any hW 16 (by decide) (by decide); rwa [ha] at this
  have S0 := row_start h
  unfold opZ noS at S0
  have HC := Lib.hid (And.intro h1 h2)
  clear h h1 h2 ha
  unfold ronePost
  go_enter Try.func18, Try.ntmps18
  go_upto_region 1 with fail
  generalize (w.alloc (.cells #[.int .i64 0, .int .i64 0, .string ⟨#[]⟩, .string ⟨#[]⟩] 35)) = W0 at *
  generalize w.heap.size = n0 at *
  have S0 := Lib.hid S0
  go_wp2_with fail
  refine (HD.out _ S0.out.b).mono ?_
  rintro e w1 ⟨rfl, b1, t1⟩
  have S1 := Lib.hid (S0.out.step b1 t1)
  clear b1 t1
  go_upto_region 3 with fail
  have td : Touch [] w1 w1.drew := (Touch.refl _ _).drew
  have S1 := Lib.hid (S1.out.step0 (fun h t => h.kept t) td)
  clear td
  have cst : ∀ v : World, Touch [g] w1.drew v → (v.alloc (.cells #[.string ⟨#[116]⟩, .string ⟨#[117]⟩] 9)).cell? ⟨v.heap.size, 0, none⟩ = some (.string ⟨#[116]⟩) := fun v _ => by rw [cell_of (heap_alloc_new v _)]; rfl
  have CST := Lib.hid cst
  clear cst
  have glt := heap_lt S1.out.b
  have GLT : Hid (g < w1.heap.size) := Lib.hid glt
  clear glt
  have e0 : ((w1.alloc (.cells #[.string ⟨#[116]⟩, .string ⟨#[117]⟩] 9)).drew).cell? ⟨w1.heap.size, 0, none⟩ = some (.string ⟨#[116]⟩) := CST.out w1.drew (Touch.refl _ _)
  have ta : Touch [] w1.drew (w1.alloc (.cells #[.string ⟨#[116]⟩, .string ⟨#[117]⟩] 9)).drew := (Touch.refl [] w1.drew).alloc _
  have SA := Lib.hid (S1.out.step0 (fun h t => h.kept t) ta)
  clear ta
  go_region_with
    (first | (go_at_call 27; first | (refine (rdraw_any S1.out.b c HC.out.1 HC.out.2).mono ?_; rintro e w2 ⟨rfl, b2, t2⟩; have S2 := Lib.hid (S1.out.step b2 t2); have u0 := CST.out _ t2; clear b2 t2) | (refine (rdraw_any (SA.out.b) c HC.out.1 HC.out.2).mono ?_; rintro e w2 ⟨rfl, b2, t2⟩; have S2 := Lib.hid (SA.out.step b2 t2); have u0 := t2.cell e0 (by have := GLT.out; simp; omega); clear b2 t2)) | (go_at_call 28; refine (ask_any _ _ _).mono ?_; rintro e w3 ⟨rfl, t3⟩; have S3 := Lib.hid (S2.out.step0 (fun h t => h.kept t) (by first | exact t3 | exact (((Touch.refl _ _).alloc _).trans t3 (by simp)))); clear t3; have P := S3.out.put (fun h ha => h.set ha) (.head _) (.int .i64 2) (.int .i64 (dr (nx x) c)) (.string (⟨#[115, 101, 108, 101, 99, 116, 32, 42, 32, 102, 114, 111, 109, 32]⟩ ++ ⟨#[116]⟩)) (.string ⟨#[]⟩) _ _ _ _ rfl rfl rfl rfl; obtain ⟨⟨o0, f0⟩, ⟨o1, f1⟩, ⟨o2, f2⟩, ⟨o3, f3⟩, ⟨y0, y1, y2, y3⟩, bq, tq⟩ := P; have KQ := Lib.hid (And.intro bq tq); clear bq tq))
  all_goals
    go_wp2_with fail
    exact bodyPost_ret (v := .agg #[.int .i64 2, .int .i64 (dr (nx x) c), .string (⟨#[115, 101, 108, 101, 99, 116, 32, 42, 32, 102, 114, 111, 109, 32]⟩ ++ ⟨#[116]⟩), .string ⟨#[]⟩]) (by simp [results, Try.results18, go_sem, y0, y1, y2, y3] <;> rfl) rfl ⟨by rw [hoM.out]; rfl, by rw [hoM.out]; exact KQ.out.1, KQ.out.2⟩
set_option maxRecDepth 100000 in
set_option maxHeartbeats 2000000 in
theorem rone_tab3 {w : World} {g : Nat} {x : Int} (h : StB w g x) (c d : Int) (h1 : 1 ≤ c) (h2 : c ≤ 65536) (ha : dr x 16 = 3) : Calls Try.prog 18 #[.pointer (some ⟨g, 0, none⟩), .int .i64 c, .int .i64 d] w (ronePost w g (oneM x c d)) := by
  have hoM : Hid (oneM x c d = (⟨2, dr (nx x) c, selS ++ ⟨#[117]⟩, noS⟩, nx (nx x))) := Lib.hid (by simp [oneM, tabS, ha])
  have HD : Hid (∀ W, StB W g x → Calls Try.prog 27 #[.pointer (some ⟨g, 0, none⟩), .int .i64 16] W fun e w' => e = .returned (.int .i64 3) ∧ StB w' g (nx x) ∧ Touch [g] W w') := Lib.hid fun W hW => by have := rdraw_any hW 16 (by decide) (by decide); rwa [ha] at this
  have S0 := row_start h
  unfold opZ noS at S0
  have HC := Lib.hid (And.intro h1 h2)
  clear h h1 h2 ha
  unfold ronePost
  go_enter Try.func18, Try.ntmps18
  go_upto_region 1 with fail
  generalize (w.alloc (.cells #[.int .i64 0, .int .i64 0, .string ⟨#[]⟩, .string ⟨#[]⟩] 35)) = W0 at *
  generalize w.heap.size = n0 at *
  have S0 := Lib.hid S0
  go_wp2_with fail
  refine (HD.out _ S0.out.b).mono ?_
  rintro e w1 ⟨rfl, b1, t1⟩
  have S1 := Lib.hid (S0.out.step b1 t1)
  clear b1 t1
  go_upto_region 3 with fail
  have td : Touch [] w1 w1.drew := (Touch.refl _ _).drew
  have S1 := Lib.hid (S1.out.step0 (fun h t => h.kept t) td)
  clear td
  have cst : ∀ v : World, Touch [g] w1.drew v → (v.alloc (.cells #[.string ⟨#[116]⟩, .string ⟨#[117]⟩] 9)).cell? ⟨v.heap.size, 1, none⟩ = some (.string ⟨#[117]⟩) := fun v _ => by rw [cell_of (heap_alloc_new v _)]; rfl
  have CST := Lib.hid cst
  clear cst
  have glt := heap_lt S1.out.b
  have GLT : Hid (g < w1.heap.size) := Lib.hid glt
  clear glt
  have e0 : ((w1.alloc (.cells #[.string ⟨#[116]⟩, .string ⟨#[117]⟩] 9)).drew).cell? ⟨w1.heap.size, 1, none⟩ = some (.string ⟨#[117]⟩) := CST.out w1.drew (Touch.refl _ _)
  have ta : Touch [] w1.drew (w1.alloc (.cells #[.string ⟨#[116]⟩, .string ⟨#[117]⟩] 9)).drew := (Touch.refl [] w1.drew).alloc _
  have SA := Lib.hid (S1.out.step0 (fun h t => h.kept t) ta)
  clear ta
  go_region_with
    (first | (go_at_call 27; first | (refine (rdraw_any S1.out.b c HC.out.1 HC.out.2).mono ?_; rintro e w2 ⟨rfl, b2, t2⟩; have S2 := Lib.hid (S1.out.step b2 t2); have u0 := CST.out _ t2; clear b2 t2) | (refine (rdraw_any (SA.out.b) c HC.out.1 HC.out.2).mono ?_; rintro e w2 ⟨rfl, b2, t2⟩; have S2 := Lib.hid (SA.out.step b2 t2); have u0 := t2.cell e0 (by have := GLT.out; simp; omega); clear b2 t2)) | (go_at_call 28; refine (ask_any _ _ _).mono ?_; rintro e w3 ⟨rfl, t3⟩; have S3 := Lib.hid (S2.out.step0 (fun h t => h.kept t) (by first | exact t3 | exact (((Touch.refl _ _).alloc _).trans t3 (by simp)))); clear t3; have P := S3.out.put (fun h ha => h.set ha) (.head _) (.int .i64 2) (.int .i64 (dr (nx x) c)) (.string (⟨#[115, 101, 108, 101, 99, 116, 32, 42, 32, 102, 114, 111, 109, 32]⟩ ++ ⟨#[117]⟩)) (.string ⟨#[]⟩) _ _ _ _ rfl rfl rfl rfl; obtain ⟨⟨o0, f0⟩, ⟨o1, f1⟩, ⟨o2, f2⟩, ⟨o3, f3⟩, ⟨y0, y1, y2, y3⟩, bq, tq⟩ := P; have KQ := Lib.hid (And.intro bq tq); clear bq tq))
  all_goals
    go_wp2_with fail
    exact bodyPost_ret (v := .agg #[.int .i64 2, .int .i64 (dr (nx x) c), .string (⟨#[115, 101, 108, 101, 99, 116, 32, 42, 32, 102, 114, 111, 109, 32]⟩ ++ ⟨#[117]⟩), .string ⟨#[]⟩]) (by simp [results, Try.results18, go_sem, y0, y1, y2, y3] <;> rfl) rfl ⟨by rw [hoM.out]; rfl, by rw [hoM.out]; exact KQ.out.1, KQ.out.2⟩
set_option maxRecDepth 100000 in
set_option maxHeartbeats 2000000 in
theorem rone_tab4 {w : World} {g : Nat} {x : Int} (h : StB w g x) (c d : Int) (h1 : 1 ≤ c) (h2 : c ≤ 65536) (ha : dr x 16 = 4) : Calls Try.prog 18 #[.pointer (some ⟨g, 0, none⟩), .int .i64 c, .int .i64 d] w (ronePost w g (oneM x c d)) := by
  have hoM : Hid (oneM x c d = (⟨2, dr (nx x) c, selS ++ ⟨#[116]⟩, noS⟩, nx (nx x))) := Lib.hid (by simp [oneM, tabS, ha])
  have HD : Hid (∀ W, StB W g x → Calls Try.prog 27 #[.pointer (some ⟨g, 0, none⟩), .int .i64 16] W fun e w' => e = .returned (.int .i64 4) ∧ StB w' g (nx x) ∧ Touch [g] W w') := Lib.hid fun W hW => by have := rdraw_any hW 16 (by decide) (by decide); rwa [ha] at this
  have S0 := row_start h
  unfold opZ noS at S0
  have HC := Lib.hid (And.intro h1 h2)
  clear h h1 h2 ha
  unfold ronePost
  go_enter Try.func18, Try.ntmps18
  go_upto_region 1 with fail
  generalize (w.alloc (.cells #[.int .i64 0, .int .i64 0, .string ⟨#[]⟩, .string ⟨#[]⟩] 35)) = W0 at *
  generalize w.heap.size = n0 at *
  have S0 := Lib.hid S0
  go_wp2_with fail
  refine (HD.out _ S0.out.b).mono ?_
  rintro e w1 ⟨rfl, b1, t1⟩
  have S1 := Lib.hid (S0.out.step b1 t1)
  clear b1 t1
  go_upto_region 3 with fail
  have td : Touch [] w1 w1.drew := (Touch.refl _ _).drew
  have S1 := Lib.hid (S1.out.step0 (fun h t => h.kept t) td)
  clear td
  have cst : ∀ v : World, Touch [g] w1.drew v → (v.alloc (.cells #[.string ⟨#[116]⟩, .string ⟨#[117]⟩] 9)).cell? ⟨v.heap.size, 0, none⟩ = some (.string ⟨#[116]⟩) := fun v _ => by rw [cell_of (heap_alloc_new v _)]; rfl
  have CST := Lib.hid cst
  clear cst
  have glt := heap_lt S1.out.b
  have GLT : Hid (g < w1.heap.size) := Lib.hid glt
  clear glt
  have e0 : ((w1.alloc (.cells #[.string ⟨#[116]⟩, .string ⟨#[117]⟩] 9)).drew).cell? ⟨w1.heap.size, 0, none⟩ = some (.string ⟨#[116]⟩) := CST.out w1.drew (Touch.refl _ _)
  have ta : Touch [] w1.drew (w1.alloc (.cells #[.string ⟨#[116]⟩, .string ⟨#[117]⟩] 9)).drew := (Touch.refl [] w1.drew).alloc _
  have SA := Lib.hid (S1.out.step0 (fun h t => h.kept t) ta)
  clear ta
  go_region_with
    (first | (go_at_call 27; first | (refine (rdraw_any S1.out.b c HC.out.1 HC.out.2).mono ?_; rintro e w2 ⟨rfl, b2, t2⟩; have S2 := Lib.hid (S1.out.step b2 t2); have u0 := CST.out _ t2; clear b2 t2) | (refine (rdraw_any (SA.out.b) c HC.out.1 HC.out.2).mono ?_; rintro e w2 ⟨rfl, b2, t2⟩; have S2 := Lib.hid (SA.out.step b2 t2); have u0 := t2.cell e0 (by have := GLT.out; simp; omega); clear b2 t2)) | (go_at_call 28; refine (ask_any _ _ _).mono ?_; rintro e w3 ⟨rfl, t3⟩; have S3 := Lib.hid (S2.out.step0 (fun h t => h.kept t) (by first | exact t3 | exact (((Touch.refl _ _).alloc _).trans t3 (by simp)))); clear t3; have P := S3.out.put (fun h ha => h.set ha) (.head _) (.int .i64 2) (.int .i64 (dr (nx x) c)) (.string (⟨#[115, 101, 108, 101, 99, 116, 32, 42, 32, 102, 114, 111, 109, 32]⟩ ++ ⟨#[116]⟩)) (.string ⟨#[]⟩) _ _ _ _ rfl rfl rfl rfl; obtain ⟨⟨o0, f0⟩, ⟨o1, f1⟩, ⟨o2, f2⟩, ⟨o3, f3⟩, ⟨y0, y1, y2, y3⟩, bq, tq⟩ := P; have KQ := Lib.hid (And.intro bq tq); clear bq tq))
  all_goals
    go_wp2_with fail
    exact bodyPost_ret (v := .agg #[.int .i64 2, .int .i64 (dr (nx x) c), .string (⟨#[115, 101, 108, 101, 99, 116, 32, 42, 32, 102, 114, 111, 109, 32]⟩ ++ ⟨#[116]⟩), .string ⟨#[]⟩]) (by simp [results, Try.results18, go_sem, y0, y1, y2, y3] <;> rfl) rfl ⟨by rw [hoM.out]; rfl, by rw [hoM.out]; exact KQ.out.1, KQ.out.2⟩
set_option maxRecDepth 100000 in
set_option maxHeartbeats 2000000 in
theorem rone_tab5 {w : World} {g : Nat} {x : Int} (h : StB w g x) (c d : Int) (h1 : 1 ≤ c) (h2 : c ≤ 65536) (ha : dr x 16 = 5) : Calls Try.prog 18 #[.pointer (some ⟨g, 0, none⟩), .int .i64 c, .int .i64 d] w (ronePost w g (oneM x c d)) := by
  have hoM : Hid (oneM x c d = (⟨2, dr (nx x) c, selS ++ ⟨#[117]⟩, noS⟩, nx (nx x))) := Lib.hid (by simp [oneM, tabS, ha])
  have HD : Hid (∀ W, StB W g x → Calls Try.prog 27 #[.pointer (some ⟨g, 0, none⟩), .int .i64 16] W fun e w' => e = .returned (.int .i64 5) ∧ StB w' g (nx x) ∧ Touch [g] W w') := Lib.hid fun W hW => by have := rdraw_any hW 16 (by decide) (by decide); rwa [ha] at this
  have S0 := row_start h
  unfold opZ noS at S0
  have HC := Lib.hid (And.intro h1 h2)
  clear h h1 h2 ha
  unfold ronePost
  go_enter Try.func18, Try.ntmps18
  go_upto_region 1 with fail
  generalize (w.alloc (.cells #[.int .i64 0, .int .i64 0, .string ⟨#[]⟩, .string ⟨#[]⟩] 35)) = W0 at *
  generalize w.heap.size = n0 at *
  have S0 := Lib.hid S0
  go_wp2_with fail
  refine (HD.out _ S0.out.b).mono ?_
  rintro e w1 ⟨rfl, b1, t1⟩
  have S1 := Lib.hid (S0.out.step b1 t1)
  clear b1 t1
  go_upto_region 3 with fail
  have td : Touch [] w1 w1.drew := (Touch.refl _ _).drew
  have S1 := Lib.hid (S1.out.step0 (fun h t => h.kept t) td)
  clear td
  have cst : ∀ v : World, Touch [g] w1.drew v → (v.alloc (.cells #[.string ⟨#[116]⟩, .string ⟨#[117]⟩] 9)).cell? ⟨v.heap.size, 1, none⟩ = some (.string ⟨#[117]⟩) := fun v _ => by rw [cell_of (heap_alloc_new v _)]; rfl
  have CST := Lib.hid cst
  clear cst
  have glt := heap_lt S1.out.b
  have GLT : Hid (g < w1.heap.size) := Lib.hid glt
  clear glt
  have e0 : ((w1.alloc (.cells #[.string ⟨#[116]⟩, .string ⟨#[117]⟩] 9)).drew).cell? ⟨w1.heap.size, 1, none⟩ = some (.string ⟨#[117]⟩) := CST.out w1.drew (Touch.refl _ _)
  have ta : Touch [] w1.drew (w1.alloc (.cells #[.string ⟨#[116]⟩, .string ⟨#[117]⟩] 9)).drew := (Touch.refl [] w1.drew).alloc _
  have SA := Lib.hid (S1.out.step0 (fun h t => h.kept t) ta)
  clear ta
  go_region_with
    (first | (go_at_call 27; first | (refine (rdraw_any S1.out.b c HC.out.1 HC.out.2).mono ?_; rintro e w2 ⟨rfl, b2, t2⟩; have S2 := Lib.hid (S1.out.step b2 t2); have u0 := CST.out _ t2; clear b2 t2) | (refine (rdraw_any (SA.out.b) c HC.out.1 HC.out.2).mono ?_; rintro e w2 ⟨rfl, b2, t2⟩; have S2 := Lib.hid (SA.out.step b2 t2); have u0 := t2.cell e0 (by have := GLT.out; simp; omega); clear b2 t2)) | (go_at_call 28; refine (ask_any _ _ _).mono ?_; rintro e w3 ⟨rfl, t3⟩; have S3 := Lib.hid (S2.out.step0 (fun h t => h.kept t) (by first | exact t3 | exact (((Touch.refl _ _).alloc _).trans t3 (by simp)))); clear t3; have P := S3.out.put (fun h ha => h.set ha) (.head _) (.int .i64 2) (.int .i64 (dr (nx x) c)) (.string (⟨#[115, 101, 108, 101, 99, 116, 32, 42, 32, 102, 114, 111, 109, 32]⟩ ++ ⟨#[117]⟩)) (.string ⟨#[]⟩) _ _ _ _ rfl rfl rfl rfl; obtain ⟨⟨o0, f0⟩, ⟨o1, f1⟩, ⟨o2, f2⟩, ⟨o3, f3⟩, ⟨y0, y1, y2, y3⟩, bq, tq⟩ := P; have KQ := Lib.hid (And.intro bq tq); clear bq tq))
  all_goals
    go_wp2_with fail
    exact bodyPost_ret (v := .agg #[.int .i64 2, .int .i64 (dr (nx x) c), .string (⟨#[115, 101, 108, 101, 99, 116, 32, 42, 32, 102, 114, 111, 109, 32]⟩ ++ ⟨#[117]⟩), .string ⟨#[]⟩]) (by simp [results, Try.results18, go_sem, y0, y1, y2, y3] <;> rfl) rfl ⟨by rw [hoM.out]; rfl, by rw [hoM.out]; exact KQ.out.1, KQ.out.2⟩
end Go.Proofs.Ytmgcmheiabmajab
end
section
/- load: Make, the program's and the document's. -/
namespace Go.Proofs.Ytmgcmheiabmajab
open Go Go.RowKit

theorem one_any {w : World} {g : Nat} {x c : Int} (h : MkB w g x c) (d : Int) (h1 : 1 ≤ c) (h2 : c ≤ 65536) : Calls Try.prog 17 #[.pointer (some ⟨g, 0, none⟩), .int .i64 d] w (onePost w g c (oneM x c d)) := by
  have hb := dr_bound x (n := 16) (by decide)
  have hk := dr_bound (nx (nx x)) (n := 3) (by decide)
  obtain ⟨a, ha⟩ : ∃ a, dr x 16 = a := ⟨_, rfl⟩
  rw [ha] at hb
  by_cases c1 : 15 ≤ a
  · exact one_rare h d h1 h2 a ha c1
  by_cases c2 : 12 ≤ a
  · exact one_deliver h d h1 h2 a ha c2 (by omega)
  by_cases c3 : 9 ≤ a
  · exact one_step h d h1 h2 a ha c3 (by omega)
  have hc : a = 0 ∨ a = 1 ∨ a = 2 ∨ a = 3 ∨ a = 4 ∨ a = 5 ∨ a = 6 ∨ a = 7 ∨ a = 8 := by omega
  rcases hc with rfl | rfl | rfl | rfl | rfl | rfl | rfl | rfl | rfl
  · exact one_tab0 h d h1 h2 ha
  · exact one_tab1 h d h1 h2 ha
  · exact one_tab2 h d h1 h2 ha
  · exact one_tab3 h d h1 h2 ha
  · exact one_tab4 h d h1 h2 ha
  · exact one_tab5 h d h1 h2 ha
  · exact one_6 h d h1 h2 ha
  · exact one_7 h d h1 h2 ha
  · obtain ⟨k, hkk⟩ : ∃ k, dr (nx (nx x)) 3 = k := ⟨_, rfl⟩
    rw [hkk] at hk
    have hd : k = 0 ∨ k = 1 ∨ k = 2 := by omega
    rcases hd with rfl | rfl | rfl
    · exact one_8_0 h d h1 h2 ha hkk
    · exact one_8_1 h d h1 h2 ha hkk
    · exact one_8_2 h d h1 h2 ha hkk
theorem rone_any {w : World} {g : Nat} {x : Int} (h : StB w g x) (c d : Int) (h1 : 1 ≤ c) (h2 : c ≤ 65536) : Calls Try.prog 18 #[.pointer (some ⟨g, 0, none⟩), .int .i64 c, .int .i64 d] w (ronePost w g (oneM x c d)) := by
  have hb := dr_bound x (n := 16) (by decide)
  have hk := dr_bound (nx (nx x)) (n := 3) (by decide)
  obtain ⟨a, ha⟩ : ∃ a, dr x 16 = a := ⟨_, rfl⟩
  rw [ha] at hb
  by_cases c1 : 15 ≤ a
  · exact rone_rare h c d h1 h2 a ha c1
  by_cases c2 : 12 ≤ a
  · exact rone_deliver h c d h1 h2 a ha c2 (by omega)
  by_cases c3 : 9 ≤ a
  · exact rone_step h c d h1 h2 a ha c3 (by omega)
  have hc : a = 0 ∨ a = 1 ∨ a = 2 ∨ a = 3 ∨ a = 4 ∨ a = 5 ∨ a = 6 ∨ a = 7 ∨ a = 8 := by omega
  rcases hc with rfl | rfl | rfl | rfl | rfl | rfl | rfl | rfl | rfl
  · exact rone_tab0 h c d h1 h2 ha
  · exact rone_tab1 h c d h1 h2 ha
  · exact rone_tab2 h c d h1 h2 ha
  · exact rone_tab3 h c d h1 h2 ha
  · exact rone_tab4 h c d h1 h2 ha
  · exact rone_tab5 h c d h1 h2 ha
  · exact rone_6 h c d h1 h2 ha
  · exact rone_7 h c d h1 h2 ha
  · obtain ⟨k, hkk⟩ : ∃ k, dr (nx (nx x)) 3 = k := ⟨_, rfl⟩
    rw [hkk] at hk
    have hd : k = 0 ∨ k = 1 ∨ k = 2 := by omega
    rcases hd with rfl | rfl | rfl
    · exact rone_8_0 h c d h1 h2 ha hkk
    · exact rone_8_1 h c d h1 h2 ha hkk
    · exact rone_8_2 h c d h1 h2 ha hkk

def connM (k : Nat) : List OpL := (List.range k).map fun i : Nat => ⟨1, (i : Int), ⟨#[100]⟩, ⟨#[114]⟩⟩
theorem connM_succ (k : Nat) : connM (k + 1) = connM k ++ [⟨1, (k : Int), ⟨#[100]⟩, ⟨#[114]⟩⟩] := by simp [connM, List.range_succ]
theorem connM_len (k : Nat) : (connM k).length = k := by simp [connM]
/-- What happens of a number, and the number behind it. -/
def stepsM (c x : Int) : Nat → List OpL × Int
  | 0 => ([], x)
  | i + 1 => ((stepsM c x i).1 ++ [(oneM (stepsM c x i).2 c i).1], (oneM (stepsM c x i).2 c i).2)
theorem stepsM_len (c x : Int) : ∀ i, (stepsM c x i).1.length = i
  | 0 => rfl
  | i + 1 => by simp [stepsM, stepsM_len c x i]
def makeM (x c n : Int) : List OpL := if 1 ≤ c ∧ c ≤ 20 ∧ 0 ≤ n ∧ n ≤ 1000 then connM c.toNat ++ (stepsM c x n.toNat).1 else []
theorem infoOp : (Try.prog.info? 35).map (fun i => (i.zero, i.size, i.bytes)) = some (some (.agg #[.int .i64 0, .int .i64 0, .string ⟨#[]⟩, .string ⟨#[]⟩]), 4, 48) := by kernel_rfl
def makePost (w : World) (l : List OpL) : Ending → World → Prop := fun e w' => ∃ v, e = .returned v ∧ w'.ownsRow w.heap.size 35 4 v l.length (l.flatMap opC) ∧ Below w.heap.size w w'
/-- A loop's state: the row that is the call's own. -/
structure MI (w wr : World) (v : Value) (l : List OpL) : Prop where
  own : wr.ownsRow w.heap.size 35 4 v l.length (l.flatMap opC)
  t : Touch [] w wr
def one4 (o : OpL) : Obj := .cells #[.int .i64 o.kind, .int .i64 o.n, .string o.s, .string o.r] 35
theorem MI.src (wr : World) (o : OpL) : Src (wr.alloc (one4 o)) (some ⟨wr.heap.size, 0, none⟩) 1 4 (opC o) := .inr ⟨_, rfl, rfl, news_of (cs := #[.int .i64 o.kind, .int .i64 o.n, .string o.s, .string o.r]) (heap_alloc_new wr _)⟩
theorem MI.next {w wr w5 : World} {v v5 : Value} {l : List OpL} {o : OpL} (h : MI w wr v l) (hown : w5.ownsRow w.heap.size 35 4 v5 (l.length + 1) (l.flatMap opC ++ opC o)) (hg : (wr.alloc (one4 o)).grownBy w5 v.ownBlock) : MI w w5 v5 (l ++ [o]) ∧ Touch v.ownBlock.toList wr w5 := by
  have t1 : Touch v.ownBlock.toList wr w5 := ((Touch.refl _ _).alloc (one4 o)).trans (grown_touch hg) (fun i hi => .inl hi)
  have hl := own_list h.own
  exact ⟨⟨by simpa using hown, h.t.trans t1 (fun i hi => .inr (hl i hi).1)⟩, t1⟩
theorem opC_one (o : OpL) : ∀ u ∈ opC o, u.oneCell' = true := by
  intro u hu
  simp [opC] at hu
  rcases hu with rfl | rfl | rfl | rfl <;> rfl
set_option maxRecDepth 100000 in
set_option maxHeartbeats 2000000 in
theorem Make_ok (x c n : Int) (w : World) (hc1 : 1 ≤ c) (hc2 : c ≤ 20) (hn0 : 0 ≤ n) (hn1 : n ≤ 1000) :
    Calls Try.prog 12 #[.int .u64 x, .int .i64 c, .int .i64 n] w (makePost w (makeM x c n)) := by
  obtain ⟨j0, hj0, hjz, hj1, hj2⟩ := info_parts infoOp
  have J := Lib.hid (And.intro hj0 (And.intro hjz (And.intro hj1 hj2)))
  obtain ⟨c, rfl⟩ := Int.eq_ofNat_of_zero_le (show 0 ≤ c by omega)
  obtain ⟨n, rfl⟩ := Int.eq_ofNat_of_zero_le hn0
  have hM : Hid (makeM x c n = connM c ++ (stepsM c x n).1) := Lib.hid (by unfold makeM; rw [if_pos ⟨hc1, hc2, hn0, hn1⟩]; rfl)
  have HC := Lib.hid (And.intro hc1 (And.intro hc2 hn1))
  have g1 : decide ((c : Int) < 1) = false := decide_eq_false (by omega)
  have g2 : decide ((20 : Int) < c) = false := decide_eq_false (by omega)
  have g3 : decide ((n : Int) < 0) = false := decide_eq_false (by omega)
  have g4 : decide ((1000 : Int) < n) = false := decide_eq_false (by omega)
  clear hj0 hjz hj1 hj2
  unfold makePost
  go_enter Try.func12, Try.ntmps12
  go_wp2_with fail
  clear hc1 hn0
  go_loopw [7, 26] (fun v i wr => ∃ k : Nat, i = .int .i64 k ∧ k ≤ c ∧ Hid (MI w wr v (connM k))) (fun _ i _ => c - (intOf i).toNat)
  case atStart => exact ⟨0, rfl, Nat.zero_le _, Lib.hid ⟨World.ownsRow_nil _ _ _ _, Touch.refl _ _⟩⟩
  case round =>
    obtain ⟨k, rfl, hk, M⟩ := hrel
    by_cases hlt : k < c
    · have hlt' : (k : Int) < c := by omega
      obtain ⟨A1, c1, rfl⟩ := own_slice2 M.out.own
      have OWN := Lib.hid (M.out.own.alloc (one4 ⟨1, k, ⟨#[100]⟩, ⟨#[114]⟩⟩))
      have SRC := Lib.hid (MI.src wr ⟨1, k, ⟨#[100]⟩, ⟨#[114]⟩⟩)
      have SZ : Hid (k + 1 ≤ 5000 ∧ w.heap.size ≤ (wr.alloc (one4 ⟨1, k, ⟨#[100]⟩, ⟨#[114]⟩⟩)).heap.size ∧ k < c) := Lib.hid ⟨by have := HC.out; omega, by have := M.out.t.size; simp; omega, hlt⟩
      have NEXT : Hid (∀ v5 w5, w5.ownsRow w.heap.size 35 4 v5 ((connM k).length + 1) ((connM k).flatMap opC ++ opC ⟨1, k, ⟨#[100]⟩, ⟨#[114]⟩⟩) → (wr.alloc (one4 ⟨1, k, ⟨#[100]⟩, ⟨#[114]⟩⟩)).grownBy w5 (Value.slice A1 (connM k).length c1).ownBlock → MI w w5 v5 (connM (k + 1))) := Lib.hid fun v5 w5 ho hg => by
        rw [connM_succ]
        exact (M.out.next ho hg).1
      clear hlt
      unfold one4 at OWN SRC NEXT SZ
      unfold opC at SRC NEXT
      dsimp only at OWN SRC NEXT SZ
      have hlen : Hid ((connM k).length = k) := Lib.hid (connM_len k)
      go_wp2_with (at_builtin; go_must (refine wpList_append_src _ rfl _ _ 28 rfl w.heap.size 35 j0 _ 4 48 Try.underlying28 J.out.1 J.out.2.1 J.out.2.2.1 J.out.2.2.2 rfl (by decide) (.slice A1 (connM k).length c1) (connM k).length _ rfl OWN.out (some ⟨wr.heap.size, 0, none⟩) 1 1 _ rfl SRC.out (by simp [Value.oneCell']) (by have := SZ.out.1; rw [hlen.out]; simp [maxLen]; omega) (by have := SZ.out.1; rw [hlen.out]; omega) SZ.out.2.1 ?_); go_must (intro v5 w5 hown5 hg5 hloc5; have M5 := Lib.hid (NEXT.out v5 w5 hown5 hg5); clear hown5 hg5 hloc5))
      go_roundw
      case rel => exact ⟨k + 1, by go_num, SZ.out.2.2, M5⟩
      case measure => have := SZ.out.2.2; simp [intOf]; omega
    · have hkc : k = c := by omega
      have M1 : Hid (MI w (wr.alloc (.cells #[.int .u64 x, .int .i64 c] 42)) u7 (connM c) ∧ MkB (wr.alloc (.cells #[.int .u64 x, .int .i64 c] 42)) wr.heap.size x c ∧ w.heap.size ≤ wr.heap.size) := Lib.hid (by
        rw [← hkc]
        exact ⟨⟨M.out.own.alloc _, M.out.t.alloc _⟩, heap_alloc_new wr _, M.out.t.size⟩)
      obtain ⟨A1, c1, rfl⟩ := own_slice2 M.out.own
      clear M hkc
      go_wp2_with fail
      generalize (wr.alloc (.cells #[.int .u64 x, .int .i64 c] 42)) = W1 at *
      generalize wr.heap.size = g at *
      go_loopw [7, 40] (fun v i wr => ∃ k : Nat, i = .int .i64 k ∧ k ≤ n ∧ Hid (MI w wr v (connM c ++ (stepsM c x k).1) ∧ MkB wr g (stepsM c x k).2 c)) (fun _ i _ => n - (intOf i).toNat)
      case atStart => exact ⟨0, rfl, Nat.zero_le _, Lib.hid ⟨by simpa [stepsM] using M1.out.1, M1.out.2.1⟩⟩
      case round =>
        obtain ⟨k, rfl, hk, M⟩ := hrel
        by_cases hlt : k < n
        · have hlt' : (k : Int) < n := by omega
          obtain ⟨l, hl⟩ : ∃ l, l = connM c ++ (stepsM c x k).1 := ⟨_, rfl⟩
          obtain ⟨y, hy⟩ : ∃ y, y = (stepsM c x k).2 := ⟨_, rfl⟩
          have hlen : l.length = c + k := by rw [hl, List.length_append, connM_len, stepsM_len]
          rw [← hl, ← hy] at M
          obtain ⟨R, hR⟩ : ∃ R, R = oneM y c k := ⟨_, rfl⟩
          have hnext : Hid (connM c ++ (stepsM c x (k + 1)).1 = l ++ [R.1] ∧ (stepsM c x (k + 1)).2 = R.2) := Lib.hid (by rw [hR, hl, hy]; simp [stepsM])
          have CALL := Lib.hid (one_any M.out.2 (k : Int) (by have := HC.out; omega) (by have := HC.out; omega))
          rw [← hR] at CALL
          obtain ⟨⟨rk, rn, rs, rr⟩, rx⟩ := R
          obtain ⟨A2, c2, rfl⟩ := own_slice2 M.out.1.own
          have SZ : Hid (l.length + 1 ≤ 5000 ∧ k < n) := Lib.hid ⟨by have := HC.out; omega, hlt⟩
          have GT : Hid (∀ i, (Value.slice A2 l.length c2).ownBlock = some i → i ∉ [g]) := Lib.hid fun i hi => by
            have h := M.out.2
            unfold MkB at h
            simpa using own_ne M.out.1.own h (by decide) hi
          clear hl hy hlen hR hlt
          unfold onePost opV at CALL
          dsimp only at CALL
          go_wp2_with fail
          refine CALL.out.mono ?_
          rintro e w2 ⟨rfl, b2, t2⟩
          have M2 : Hid (MI w w2 (.slice A2 l.length c2) l ∧ MkB w2 g rx c) := Lib.hid ⟨⟨own_touch' M.out.1.own t2 GT.out, M.out.1.t.trans t2 (fun i hi => by simp at hi; exact .inr (by rw [hi]; exact M1.out.2.2))⟩, b2⟩
          clear b2 t2
          have OWN := Lib.hid (M2.out.1.own.alloc (one4 ⟨rk, rn, rs, rr⟩))
          have SRC := Lib.hid (MI.src w2 ⟨rk, rn, rs, rr⟩)
          have HB : Hid (w.heap.size ≤ (w2.alloc (one4 ⟨rk, rn, rs, rr⟩)).heap.size) := Lib.hid (by have := M2.out.1.t.size; simp; omega)
          have NEXT : Hid (∀ v5 w5, w5.ownsRow w.heap.size 35 4 v5 (l.length + 1) (l.flatMap opC ++ opC ⟨rk, rn, rs, rr⟩) → (w2.alloc (one4 ⟨rk, rn, rs, rr⟩)).grownBy w5 (Value.slice A2 l.length c2).ownBlock → MI w w5 v5 (connM c ++ (stepsM c x (k + 1)).1) ∧ MkB w5 g (stepsM c x (k + 1)).2 c) := Lib.hid fun v5 w5 ho hg => by
            rw [hnext.out.1, hnext.out.2]
            obtain ⟨m1, t1⟩ := M2.out.1.next ho hg
            refine ⟨m1, (t1.block g (heap_lt M2.out.2) (fun hm => ?_)).trans M2.out.2⟩
            have hx : (Value.slice A2 l.length c2).ownBlock = some g := by simpa using hm
            exact absurd (GT.out g hx) (by simp)
          unfold one4 at OWN SRC NEXT HB
          unfold opC at SRC NEXT
          dsimp only at OWN SRC NEXT HB
          go_wp2_with (at_builtin; go_must (refine wpList_append_src _ rfl _ _ 28 rfl w.heap.size 35 j0 _ 4 48 Try.underlying28 J.out.1 J.out.2.1 J.out.2.2.1 J.out.2.2.2 rfl (by decide) (.slice A2 l.length c2) l.length _ rfl OWN.out (some ⟨w2.heap.size, 0, none⟩) 1 1 _ rfl SRC.out (by simp [Value.oneCell']) (by have := SZ.out.1; simp [maxLen]; omega) (by have := SZ.out.1; omega) HB.out ?_); go_must (intro v5 w5 hown5 hg5 hloc5; have M5 := Lib.hid (NEXT.out v5 w5 hown5 hg5); clear hown5 hg5 hloc5))
          go_roundw
          case rel => exact ⟨k + 1, by go_num, SZ.out.2, M5⟩
          case measure => have := SZ.out.2; simp [intOf]; omega
        · have hkn : k = n := by omega
          have FIN : Hid (wr.ownsRow w.heap.size 35 4 u7 (makeM x c n).length ((makeM x c n).flatMap opC) ∧ Below w.heap.size w wr) := Lib.hid (by
            rw [hM.out, ← hkn]
            exact ⟨M.out.1.own, M.out.1.t.below (Nat.le_refl _) (by simp)⟩)
          clear hkn
          go_wp2_with fail
          go_ret
          exact ⟨_, rfl, FIN.out.1, FIN.out.2⟩
theorem Make_no (x c n : Int) (w : World) (h : ¬ (1 ≤ c ∧ c ≤ 20 ∧ 0 ≤ n ∧ n ≤ 1000)) :
    Calls Try.prog 12 #[.int .u64 x, .int .i64 c, .int .i64 n] w (makePost w (makeM x c n)) := by
  have hM : Hid (makeM x c n = []) := Lib.hid (by unfold makeM; rw [if_neg h])
  unfold makePost
  by_cases c1 : c < 1
  · clear h
    go_enter Try.func12, Try.ntmps12
    go_wp2
    go_ret
    rw [hM.out]
    exact ⟨_, rfl, World.ownsRow_nil _ _ _ _, Below.refl _ _⟩
  by_cases c2 : 20 < c
  · clear h
    go_enter Try.func12, Try.ntmps12
    go_wp2
    go_ret
    rw [hM.out]
    exact ⟨_, rfl, World.ownsRow_nil _ _ _ _, Below.refl _ _⟩
  by_cases c3 : n < 0
  · clear h
    go_enter Try.func12, Try.ntmps12
    go_wp2
    go_ret
    rw [hM.out]
    exact ⟨_, rfl, World.ownsRow_nil _ _ _ _, Below.refl _ _⟩
  have c4 : 1000 < n := by omega
  clear h
  go_enter Try.func12, Try.ntmps12
  go_wp2
  go_ret
  rw [hM.out]
  exact ⟨_, rfl, World.ownsRow_nil _ _ _ _, Below.refl _ _⟩
theorem Make_any (x c n : Int) (w : World) : Calls Try.prog 12 #[.int .u64 x, .int .i64 c, .int .i64 n] w (makePost w (makeM x c n)) := by
  by_cases h : 1 ≤ c ∧ c ≤ 20 ∧ 0 ≤ n ∧ n ≤ 1000
  · exact Make_ok x c n w h.1 h.2.1 h.2.2.1 h.2.2.2
  · exact Make_no x c n w h
end Go.Proofs.Ytmgcmheiabmajab
end
section
/- load: the document's Make. -/
namespace Go.Proofs.Ytmgcmheiabmajab
open Go Go.RowKit

set_option maxRecDepth 100000 in
set_option maxHeartbeats 2000000 in
theorem rMake_ok (x c n : Int) (w : World) (hc1 : 1 ≤ c) (hc2 : c ≤ 20) (hn0 : 0 ≤ n) (hn1 : n ≤ 1000) :
    Calls Try.prog 13 #[.int .u64 x, .int .i64 c, .int .i64 n] w (makePost w (makeM x c n)) := by
  obtain ⟨j0, hj0, hjz, hj1, hj2⟩ := info_parts infoOp
  have J := Lib.hid (And.intro hj0 (And.intro hjz (And.intro hj1 hj2)))
  obtain ⟨c, rfl⟩ := Int.eq_ofNat_of_zero_le (show 0 ≤ c by omega)
  obtain ⟨n, rfl⟩ := Int.eq_ofNat_of_zero_le hn0
  have hM : Hid (makeM x c n = connM c ++ (stepsM c x n).1) := Lib.hid (by unfold makeM; rw [if_pos ⟨hc1, hc2, hn0, hn1⟩]; rfl)
  have HC := Lib.hid (And.intro hc1 (And.intro hc2 hn1))
  have g1 : decide ((c : Int) < 1) = false := decide_eq_false (by omega)
  have g2 : decide ((20 : Int) < c) = false := decide_eq_false (by omega)
  have g3 : decide ((n : Int) < 0) = false := decide_eq_false (by omega)
  have g4 : decide ((1000 : Int) < n) = false := decide_eq_false (by omega)
  clear hj0 hjz hj1 hj2
  unfold makePost
  go_enter Try.func13, Try.ntmps13
  go_wp2_with fail
  clear hc1 hn0
  go_loopw [7, 8] (fun v i wr => ∃ k : Nat, i = .int .i64 k ∧ k ≤ c ∧ Hid (MI w wr v (connM k))) (fun _ i _ => c - (intOf i).toNat)
  case atStart => exact ⟨0, rfl, Nat.zero_le _, Lib.hid ⟨World.ownsRow_nil _ _ _ _, Touch.refl _ _⟩⟩
  case round =>
    obtain ⟨k, rfl, hk, M⟩ := hrel
    by_cases hlt : k < c
    · have hlt' : (k : Int) < c := by omega
      obtain ⟨A1, c1, rfl⟩ := own_slice2 M.out.own
      have OWN := Lib.hid (M.out.own.alloc (one4 ⟨1, k, ⟨#[100]⟩, ⟨#[114]⟩⟩))
      have SRC := Lib.hid (MI.src wr ⟨1, k, ⟨#[100]⟩, ⟨#[114]⟩⟩)
      have SZ : Hid (k + 1 ≤ 5000 ∧ w.heap.size ≤ (wr.alloc (one4 ⟨1, k, ⟨#[100]⟩, ⟨#[114]⟩⟩)).heap.size ∧ k < c) := Lib.hid ⟨by have := HC.out; omega, by have := M.out.t.size; simp; omega, hlt⟩
      have NEXT : Hid (∀ v5 w5, w5.ownsRow w.heap.size 35 4 v5 ((connM k).length + 1) ((connM k).flatMap opC ++ opC ⟨1, k, ⟨#[100]⟩, ⟨#[114]⟩⟩) → (wr.alloc (one4 ⟨1, k, ⟨#[100]⟩, ⟨#[114]⟩⟩)).grownBy w5 (Value.slice A1 (connM k).length c1).ownBlock → MI w w5 v5 (connM (k + 1))) := Lib.hid fun v5 w5 ho hg => by
        rw [connM_succ]
        exact (M.out.next ho hg).1
      clear hlt
      unfold one4 at OWN SRC NEXT SZ
      unfold opC at SRC NEXT
      dsimp only at OWN SRC NEXT SZ
      have hlen : Hid ((connM k).length = k) := Lib.hid (connM_len k)
      go_wp2_with (at_builtin; go_must (refine wpList_append_src _ rfl _ _ 28 rfl w.heap.size 35 j0 _ 4 48 Try.underlying28 J.out.1 J.out.2.1 J.out.2.2.1 J.out.2.2.2 rfl (by decide) (.slice A1 (connM k).length c1) (connM k).length _ rfl OWN.out (some ⟨wr.heap.size, 0, none⟩) 1 1 _ rfl SRC.out (by simp [Value.oneCell']) (by have := SZ.out.1; rw [hlen.out]; simp [maxLen]; omega) (by have := SZ.out.1; rw [hlen.out]; omega) SZ.out.2.1 ?_); go_must (intro v5 w5 hown5 hg5 hloc5; have M5 := Lib.hid (NEXT.out v5 w5 hown5 hg5); clear hown5 hg5 hloc5))
      go_roundw
      case rel => exact ⟨k + 1, by go_num, SZ.out.2.2, M5⟩
      case measure => have := SZ.out.2.2; simp [intOf]; omega
    · have hkc : k = c := by omega
      have M1 : Hid (MI w (wr.alloc (.cells #[.int .u64 x] 46)) u7 (connM c) ∧ StB (wr.alloc (.cells #[.int .u64 x] 46)) wr.heap.size x ∧ w.heap.size ≤ wr.heap.size) := Lib.hid (by
        rw [← hkc]
        exact ⟨⟨M.out.own.alloc _, M.out.t.alloc _⟩, heap_alloc_new wr _, M.out.t.size⟩)
      obtain ⟨A1, c1, rfl⟩ := own_slice2 M.out.own
      clear M hkc
      go_wp2_with fail
      generalize (wr.alloc (.cells #[.int .u64 x] 46)) = W1 at *
      generalize wr.heap.size = g at *
      go_loopw [7, 10] (fun v i wr => ∃ k : Nat, i = .int .i64 k ∧ k ≤ n ∧ Hid (MI w wr v (connM c ++ (stepsM c x k).1) ∧ StB wr g (stepsM c x k).2)) (fun _ i _ => n - (intOf i).toNat)
      case atStart => exact ⟨0, rfl, Nat.zero_le _, Lib.hid ⟨by simpa [stepsM] using M1.out.1, M1.out.2.1⟩⟩
      case round =>
        obtain ⟨k, rfl, hk, M⟩ := hrel
        by_cases hlt : k < n
        · have hlt' : (k : Int) < n := by omega
          obtain ⟨l, hl⟩ : ∃ l, l = connM c ++ (stepsM c x k).1 := ⟨_, rfl⟩
          obtain ⟨y, hy⟩ : ∃ y, y = (stepsM c x k).2 := ⟨_, rfl⟩
          have hlen : l.length = c + k := by rw [hl, List.length_append, connM_len, stepsM_len]
          rw [← hl, ← hy] at M
          obtain ⟨R, hR⟩ : ∃ R, R = oneM y c k := ⟨_, rfl⟩
          have hnext : Hid (connM c ++ (stepsM c x (k + 1)).1 = l ++ [R.1] ∧ (stepsM c x (k + 1)).2 = R.2) := Lib.hid (by rw [hR, hl, hy]; simp [stepsM])
          have CALL := Lib.hid (rone_any M.out.2 c (k : Int) (by have := HC.out; omega) (by have := HC.out; omega))
          rw [← hR] at CALL
          obtain ⟨⟨rk, rn, rs, rr⟩, rx⟩ := R
          obtain ⟨A2, c2, rfl⟩ := own_slice2 M.out.1.own
          have SZ : Hid (l.length + 1 ≤ 5000 ∧ k < n) := Lib.hid ⟨by have := HC.out; omega, hlt⟩
          have GT : Hid (∀ i, (Value.slice A2 l.length c2).ownBlock = some i → i ∉ [g]) := Lib.hid fun i hi => by
            have h := M.out.2
            unfold StB at h
            simpa using own_ne M.out.1.own h (by decide) hi
          clear hl hy hlen hR hlt
          unfold ronePost opV at CALL
          dsimp only at CALL
          go_wp2_with fail
          refine CALL.out.mono ?_
          rintro e w2 ⟨rfl, b2, t2⟩
          have M2 : Hid (MI w w2 (.slice A2 l.length c2) l ∧ StB w2 g rx) := Lib.hid ⟨⟨own_touch' M.out.1.own t2 GT.out, M.out.1.t.trans t2 (fun i hi => by simp at hi; exact .inr (by rw [hi]; exact M1.out.2.2))⟩, b2⟩
          clear b2 t2
          have M3 : Hid (MI w (w2.alloc (one4 ⟨rk, rn, rs, rr⟩)) (.slice A2 l.length c2) l ∧ StB (w2.alloc (one4 ⟨rk, rn, rs, rr⟩)) g rx) := Lib.hid ⟨⟨M2.out.1.own.alloc _, M2.out.1.t.alloc _⟩, M2.out.2.kept ((Touch.refl _ _).alloc _)⟩
          have hb3 : (w2.alloc (one4 ⟨rk, rn, rs, rr⟩)).heap[w2.heap.size]? = some (one4 ⟨rk, rn, rs, rr⟩) := heap_alloc_new w2 _
          unfold one4 at M3 hb3
          dsimp only at M3 hb3
          clear M2
          go_upto_region 13 with fail
          generalize (w2.alloc (.cells #[.int .i64 rk, .int .i64 rn, .string rs, .string rr] 35)) = w3 at *
          generalize w2.heap.size = g3 at *
          have x0 : w3.cell? ⟨g3, 0, none⟩ = some (.int .i64 rk) := by rw [cell_of hb3]; rfl
          have x1 : w3.cell? ⟨g3, 1, none⟩ = some (.int .i64 rn) := by rw [cell_of hb3]; rfl
          have x2 : w3.cell? ⟨g3, 2, none⟩ = some (.string rs) := by rw [cell_of hb3]; rfl
          have x3 : w3.cell? ⟨g3, 3, none⟩ = some (.string rr) := by rw [cell_of hb3]; rfl
          clear hb3
          have M2 := M3
          clear M3
          have OWN := Lib.hid (M2.out.1.own.alloc (one4 ⟨rk, rn, rs, rr⟩))
          have SRC := Lib.hid (MI.src w3 ⟨rk, rn, rs, rr⟩)
          have HB : Hid (w.heap.size ≤ (w3.alloc (one4 ⟨rk, rn, rs, rr⟩)).heap.size) := Lib.hid (by have := M2.out.1.t.size; simp; omega)
          have NEXT : Hid (∀ v5 w5, w5.ownsRow w.heap.size 35 4 v5 (l.length + 1) (l.flatMap opC ++ opC ⟨rk, rn, rs, rr⟩) → (w3.alloc (one4 ⟨rk, rn, rs, rr⟩)).grownBy w5 (Value.slice A2 l.length c2).ownBlock → MI w w5 v5 (connM c ++ (stepsM c x (k + 1)).1) ∧ StB w5 g (stepsM c x (k + 1)).2) := Lib.hid fun v5 w5 ho hg => by
            rw [hnext.out.1, hnext.out.2]
            obtain ⟨m1, t1⟩ := M2.out.1.next ho hg
            refine ⟨m1, (t1.block g (heap_lt M2.out.2) (fun hm => ?_)).trans M2.out.2⟩
            have hx : (Value.slice A2 l.length c2).ownBlock = some g := by simpa using hm
            exact absurd (GT.out g hx) (by simp)
          unfold one4 at OWN SRC NEXT HB
          unfold opC at SRC NEXT
          dsimp only at OWN SRC NEXT HB
          go_wp2_with (at_builtin; go_must (refine wpList_append_src _ rfl _ _ 28 rfl w.heap.size 35 j0 _ 4 48 Try.underlying28 J.out.1 J.out.2.1 J.out.2.2.1 J.out.2.2.2 rfl (by decide) (.slice A2 l.length c2) l.length _ rfl OWN.out (some ⟨w3.heap.size, 0, none⟩) 1 1 _ rfl SRC.out (by simp [Value.oneCell']) (by have := SZ.out.1; simp [maxLen]; omega) (by have := SZ.out.1; omega) HB.out ?_); go_must (intro v5 w5 hown5 hg5 hloc5; have M5 := Lib.hid (NEXT.out v5 w5 hown5 hg5); clear hown5 hg5 hloc5))
          go_roundw
          case rel => exact ⟨k + 1, by go_num, SZ.out.2, M5⟩
          case measure => have := SZ.out.2; simp [intOf]; omega
        · have hkn : k = n := by omega
          have FIN : Hid (wr.ownsRow w.heap.size 35 4 u7 (makeM x c n).length ((makeM x c n).flatMap opC) ∧ Below w.heap.size w wr) := Lib.hid (by
            rw [hM.out, ← hkn]
            exact ⟨M.out.1.own, M.out.1.t.below (Nat.le_refl _) (by simp)⟩)
          clear hkn
          go_wp2_with fail
          go_ret
          exact ⟨_, rfl, FIN.out.1, FIN.out.2⟩
theorem rMake_no (x c n : Int) (w : World) (h : ¬ (1 ≤ c ∧ c ≤ 20 ∧ 0 ≤ n ∧ n ≤ 1000)) :
    Calls Try.prog 13 #[.int .u64 x, .int .i64 c, .int .i64 n] w (makePost w (makeM x c n)) := by
  have hM : Hid (makeM x c n = []) := Lib.hid (by unfold makeM; rw [if_neg h])
  unfold makePost
  by_cases c1 : c < 1
  · clear h
    go_enter Try.func13, Try.ntmps13
    go_wp2
    go_ret
    rw [hM.out]
    exact ⟨_, rfl, World.ownsRow_nil _ _ _ _, Below.refl _ _⟩
  by_cases c2 : 20 < c
  · clear h
    go_enter Try.func13, Try.ntmps13
    go_wp2
    go_ret
    rw [hM.out]
    exact ⟨_, rfl, World.ownsRow_nil _ _ _ _, Below.refl _ _⟩
  by_cases c3 : n < 0
  · clear h
    go_enter Try.func13, Try.ntmps13
    go_wp2
    go_ret
    rw [hM.out]
    exact ⟨_, rfl, World.ownsRow_nil _ _ _ _, Below.refl _ _⟩
  have c4 : 1000 < n := by omega
  clear h
  go_enter Try.func13, Try.ntmps13
  go_wp2
  go_ret
  rw [hM.out]
  exact ⟨_, rfl, World.ownsRow_nil _ _ _ _, Below.refl _ _⟩
theorem rMake_any (x c n : Int) (w : World) : Calls Try.prog 13 #[.int .u64 x, .int .i64 c, .int .i64 n] w (makePost w (makeM x c n)) := by
  by_cases h : 1 ≤ c ∧ c ≤ 20 ∧ 0 ≤ n ∧ n ≤ 1000
  · exact rMake_ok x c n w h.1 h.2.1 h.2.2.1 h.2.2.2
  · exact rMake_no x c n w h
end Go.Proofs.Ytmgcmheiabmajab
end
section
/- load: letters, a range over a text. -/
namespace Go.Proofs.Ytmgcmheiabmajab
open Go Go.RowKit

def letB (b : UInt8) : Bool := decide (97 ≤ b.toNat) && decide (b.toNat ≤ 122)
def lettersF (s : ByteArray) : Bool := decide (0 < s.size) && s.data.toList.all letB
theorem letters_false {s : ByteArray} {k : Nat} (hk : k < s.size) (h : letB s[k] = false) : lettersF s = false := by
  unfold lettersF
  rw [Bool.and_eq_false_iff]
  right
  rw [List.all_eq_false]
  have hl : k < s.data.toList.length := by simpa using hk
  refine ⟨s.data.toList[k], List.getElem_mem hl, ?_⟩
  have : s.data.toList[k] = s[k] := by simp [ByteArray.getElem_eq_getElem_data]
  rw [this, h]
  simp
theorem letters_true {s : ByteArray} (h0 : 0 < s.size) (h : ∀ (k : Nat) (hk : k < s.size), letB s[k] = true) : lettersF s = true := by
  unfold lettersF
  rw [Bool.and_eq_true]
  refine ⟨decide_eq_true h0, List.all_eq_true.2 fun b hb => ?_⟩
  obtain ⟨k, hk, rfl⟩ := List.getElem_of_mem hb
  have hk' : k < s.size := by simpa using hk
  have : s.data.toList[k] = s[k] := by simp [ByteArray.getElem_eq_getElem_data]
  rw [this]
  exact h k hk'
/-- What comes next: a rune that is no letter, or one that is. -/
theorem next_rune (w : World) (s : ByteArray) (k : Nat) (hk : k < s.size) :
    (∃ (c : Int) (k' : Nat), (∀ ty, (Instr.next (.pointer (some ⟨w.heap.size, 0, none⟩)) true ty).run Try.prog (w.iter s k) = .ok (.tuple #[.bool true, .int .i64 k, .int .i32 c]) (w.iter s k')) ∧ c < 97 ∧ lettersF s = false) ∨
    (∃ (c : Int) (k' : Nat), (∀ ty, (Instr.next (.pointer (some ⟨w.heap.size, 0, none⟩)) true ty).run Try.prog (w.iter s k) = .ok (.tuple #[.bool true, .int .i64 k, .int .i32 c]) (w.iter s k')) ∧ ¬ c < 97 ∧ 122 < c ∧ lettersF s = false) ∨
    (∃ c : Int, (∀ ty, (Instr.next (.pointer (some ⟨w.heap.size, 0, none⟩)) true ty).run Try.prog (w.iter s k) = .ok (.tuple #[.bool true, .int .i64 k, .int .i32 c]) (w.iter s (k + 1))) ∧ ¬ c < 97 ∧ ¬ 122 < c ∧ letB s[k] = true) := by
  by_cases ha : (s[k]'hk).toNat < 128
  · have hn := fun ty => run_next_ascii (P := Try.prog) w s k ty hk ha
    by_cases h1 : (s[k]'hk).toNat < 97
    · exact .inl ⟨_, _, hn, by omega, letters_false hk (by simp [letB]; omega)⟩
    · by_cases h2 : 122 < (s[k]'hk).toNat
      · exact .inr (.inl ⟨_, _, hn, by omega, by omega, letters_false hk (by simp [letB]; omega)⟩)
      · exact .inr (.inr ⟨_, hn, by omega, by omega, by simp [letB]; omega⟩)
  · have hn := fun ty => run_next_any (P := Try.prog) w s k ty hk
    have hd := decode_high s k hk (by omega)
    exact .inr (.inl ⟨_, _, hn, by omega, by omega, letters_false hk (by simp [letB]; omega)⟩)
set_option maxHeartbeats 1000000 in
theorem letters_any (s : ByteArray) (w : World) (hs : s.size ≤ 9223372036854775807) : Calls Try.prog 35 #[.string s] w fun e w' => e = .returned (.bool (lettersF s)) ∧ Below w.heap.size w w' := by
  have HB : Hid (∀ k, Below w.heap.size w (w.iter s k)) := Lib.hid fun k => (Below.refl _ _).alloc (Nat.le_refl _) _
  have HN : Hid (∀ k (hk : k < s.size), _) := Lib.hid fun k hk => next_rune w s k hk
  go_enter Try.func35, Try.ntmps35
  go_wp2_with fail
  go_loopw [4] (fun _ wr => ∃ k : Nat, k ≤ s.size ∧ wr = w.iter s k ∧ Hid (∀ (j : Nat) (hj : j < s.size), j < k → letB s[j] = true)) (fun _ wr => s.size - wr.iterPos w.heap.size)
  case atStart => exact ⟨0, Nat.zero_le _, rfl, Lib.hid fun j hj h => absurd h (Nat.not_lt_zero _)⟩
  case round =>
    obtain ⟨k, hk, rfl, H⟩ := hrel
    by_cases hlt : k < s.size
    · rcases HN.out k hlt with ⟨c, k', hn, h1, hf⟩ | ⟨c, k', hn, h1, h2, hf⟩ | ⟨c, hn, h1, h2, hl⟩
      · have HF := Lib.hid hf
        clear hf hlt
        go_wp2_with fail
        go_ret
        exact ⟨by rw [HF.out]; rfl, HB.out _⟩
      · have HF := Lib.hid hf
        clear hf hlt
        go_wp2_with fail
        go_ret
        exact ⟨by rw [HF.out]; rfl, HB.out _⟩
      · have hnx : Hid (∀ (j : Nat) (hj : j < s.size), j < k + 1 → letB s[j] = true) := Lib.hid fun j hj hjk => by
          by_cases hjj : j < k
          · exact H.out j hj hjj
          · have : j = k := by omega
            subst this
            exact hl
        have HLT := Lib.hid hlt
        clear hl hlt
        go_wp2_with fail
        go_roundw
        case rel => exact ⟨k + 1, HLT.out, rfl, hnx⟩
        case measure => have := HLT.out; simp; omega
    · have hn := fun ty => run_next_end (P := Try.prog) w s k ty hlt
      have hks : k = s.size := by omega
      by_cases h0 : 0 < s.size
      · have HF : Hid (lettersF s = true) := Lib.hid (letters_true h0 (fun j hj => H.out j hj (by omega)))
        have hne : s.toList.isEmpty = false := by rw [ByteArray.toList_eq]; cases hc : s.data.toList with | nil => (have : s.data.toList.length = s.size := by simp); rw [hc] at this; simp at this; omega | cons a b => rfl
        have hne2 : (s.toList == ([] : List UInt8)) = false := by cases hc : s.toList with | nil => rw [hc] at hne; cases hne | cons a b => rfl
        clear hks h0
        go_wp2_with fail
        go_ret
        exact ⟨by rw [HF.out]; simp_all, HB.out _⟩
      · have HF : Hid (lettersF s = false) := Lib.hid (by unfold lettersF; rw [decide_eq_false h0]; rfl)
        have hs0 : s = ByteArray.empty := by
          apply ByteArray.ext
          apply Array.toList_inj.1
          exact List.eq_nil_of_length_eq_zero (by (have : s.data.toList.length = s.size := by simp); omega)
        have hne : s.toList = [] := by rw [hs0, ByteArray.toList_eq]; rfl
        clear hks h0 hs0
        go_wp2_with fail
        go_ret
        exact ⟨by rw [HF.out]; simp_all, HB.out _⟩
end Go.Proofs.Ytmgcmheiabmajab
end
section
/- load: lists' cells, for the print's own words. -/
namespace Go.Proofs.Ytmgcmheiabmajab
open Go Go.RowKit

theorem ops_len (l : List OpL) : (l.flatMap opC).length = l.length * 4 := by
  induction l with
  | nil => rfl
  | cons o l ih => rw [List.flatMap_cons, List.length_append, ih, List.length_cons]; simp [opC]; omega
theorem ops_at : ∀ (l : List OpL) (j : Nat) (o : OpL), l[j]? = some o → ((l.flatMap opC).drop (j * 4)).take 4 = opC o := by
  intro l
  induction l with
  | nil => intro j o h; simp at h
  | cons y l ih =>
    intro j o h
    rw [List.flatMap_cons]
    have hy : (opC y).length = 4 := rfl
    cases j with
    | zero =>
      simp at h
      subst h
      rw [Nat.zero_mul, List.drop_zero, List.take_append_of_le_length (by omega), List.take_of_length_le (by omega)]
    | succ j =>
      simp at h
      rw [show (j + 1) * 4 = (opC y).length + j * 4 by omega, List.drop_append, List.drop_of_length_le (by omega), List.nil_append]
      rw [show (opC y).length + j * 4 - (opC y).length = j * 4 by omega]
      exact ih j o h
end Go.Proofs.Ytmgcmheiabmajab
end
section
/- load: digits; words. -/
namespace Go.Proofs.Ytmgcmheiabmajab
open Go Go.RowKit

def digL (n : Nat) : List UInt8 := if n < 10 then [UInt8.ofNat (48 + n)] else digL (n / 10) ++ [UInt8.ofNat (48 + n % 10)]
termination_by n
decreasing_by omega
def digB (n : Nat) : ByteArray := ⟨(digL n).toArray⟩
theorem digL_small {n : Nat} (h : n < 10) : digL n = [UInt8.ofNat (48 + n)] := by rw [digL, if_pos h]
theorem digL_big {n : Nat} (h : ¬ n < 10) : digL n = digL (n / 10) ++ [UInt8.ofNat (48 + n % 10)] := by rw [digL, if_neg h]
theorem digB_small {n : Nat} (h : n < 10) : digB n = ⟨#[UInt8.ofNat (48 + n)]⟩ := by unfold digB; rw [digL_small h]
theorem digB_big {n : Nat} (h : ¬ n < 10) : digB n = digB (n / 10) ++ ⟨#[UInt8.ofNat (48 + n % 10)]⟩ := by
  unfold digB
  rw [digL_big h]
  apply ByteArray.ext
  simp
theorem digL_len (n : Nat) : (digL n).length ≤ n + 1 := by
  induction n using Nat.strongRecOn with
  | _ n ih =>
    by_cases h : n < 10
    · rw [digL_small h]; simp
    · rw [digL_big h]
      have := ih (n / 10) (by omega)
      simp; omega
theorem digB_size (n : Nat) : (digB n).size ≤ n + 1 := by
  have := digL_len n
  simpa [digB, ByteArray.size] using this
theorem dec_one (n : Nat) (h : n < 10) : strOfNums [wrap64 (48 + (n : Int)) % 256] = digB n := by
  rw [digB_small h, IntWalk.wrap64_in _ (by omega), show (48 + (n : Int)) % 256 = ((48 + n : Nat) : Int) by omega]
  rfl
theorem decimal_f : ∀ (k n : Nat), n < 10 ^ (k + 1) → k ≤ 16 → Pd.script_decimal.f (k + 1) n = some (digB n) ∧ (digB n).size ≤ k + 1 := by
  intro k
  induction k with
  | zero =>
    intro n h _
    have h10 : n < 10 := by simpa using h
    refine ⟨?_, by rw [digB_small h10]; exact Nat.le_refl _⟩
    rw [Pd.script_decimal.f, if_neg (by omega), if_pos (by omega), dec_one n h10]
  | succ k ih =>
    intro n h hk
    by_cases h10 : n < 10
    · refine ⟨?_, by rw [digB_small h10]; show 1 ≤ _; omega⟩
      rw [Pd.script_decimal.f, if_neg (by omega), if_pos (by omega), dec_one n h10]
    · have hp : n / 10 < 10 ^ (k + 1) := by
        rw [Nat.div_lt_iff_lt_mul (by decide)]
        rwa [Nat.pow_succ] at h
      obtain ⟨i1, i2⟩ := ih (n / 10) hp (by omega)
      have hb : n < 1000000000000000000 := Nat.lt_of_lt_of_le h (Nat.pow_le_pow_right (n := 10) (by decide) (show k + 1 + 1 ≤ 18 by omega))
      have e1 : wrap64 (Int.tdiv n 10) = ((n / 10 : Nat) : Int) := by rw [Int.tdiv_eq_ediv_of_nonneg (by omega), IntWalk.wrap64_in _ (by omega)]; omega
      have e2 : Int.tmod n 10 = ((n % 10 : Nat) : Int) := by rw [Int.tmod_eq_emod_of_nonneg (by omega)]; omega
      have e3 : strOfNums [wrap64 (48 + Int.tmod n 10) % 256] = ⟨#[UInt8.ofNat (48 + n % 10)]⟩ := by
        rw [e2, IntWalk.wrap64_in _ (by omega), show (48 + ((n % 10 : Nat) : Int)) % 256 = ((48 + n % 10 : Nat) : Int) by omega]
        rfl
      refine ⟨?_, by rw [digB_big h10, ByteArray.size_append]; show _ + 1 ≤ _; omega⟩
      rw [Pd.script_decimal.f, if_neg (by omega), if_neg (by omega), e1, i1, Option.bind_some, Option.bind_some, e3, if_pos (by show _ + 1 ≤ _; omega), digB_big h10]
theorem decimal_any (n : Nat) (h : n ≤ 1000) (w : World) : Calls Try.prog 33 #[.int .i64 n] w fun e w' => e = .returned (.string (digB n)) ∧ Touch [] w w' :=
  (Pd.script_decimal.calls 4 n _ w (decimal_f 3 n (by omega) (by omega)).1).mono fun _ _ ⟨he, hb⟩ => ⟨he, Touch.of_below hb⟩
theorem digB_few (n : Nat) (h : n ≤ 1000) : (digB n).size ≤ 4 := (decimal_f 3 n (by omega) (by omega)).2
def wordsL : List ByteArray := [⟨#[]⟩, ⟨#[99, 111, 110, 110, 101, 99, 116]⟩, ⟨#[113, 117, 101, 114, 121]⟩, ⟨#[115, 116, 101, 112]⟩, ⟨#[100, 101, 108, 105, 118, 101, 114]⟩, ⟨#[98, 114, 101, 97, 107]⟩, ⟨#[108, 101, 97, 118, 101]⟩, ⟨#[116, 105, 99, 107]⟩, ⟨#[102, 108, 117, 115, 104]⟩]
def wordsO : Obj := .cells #[.string ⟨#[]⟩, .string ⟨#[99, 111, 110, 110, 101, 99, 116]⟩, .string ⟨#[113, 117, 101, 114, 121]⟩, .string ⟨#[115, 116, 101, 112]⟩, .string ⟨#[100, 101, 108, 105, 118, 101, 114]⟩, .string ⟨#[98, 114, 101, 97, 107]⟩, .string ⟨#[108, 101, 97, 118, 101]⟩, .string ⟨#[116, 105, 99, 107]⟩, .string ⟨#[102, 108, 117, 115, 104]⟩] 9
def wordK (k : Nat) : ByteArray := wordsL.getD k ⟨#[]⟩
theorem words_any (w : World) : Calls Try.prog 32 #[] w fun e w' => e = .returned (.slice (some ⟨w.heap.size, 0, none⟩) 9 9) ∧ Touch [] w w' ∧ ∀ k, k < 9 → w'.cell? ⟨w.heap.size, k, none⟩ = some (.string (wordK k)) := by
  have K : Hid (Touch [] w (w.alloc wordsO) ∧ ∀ k, k < 9 → (w.alloc wordsO).cell? ⟨w.heap.size, k, none⟩ = some (.string (wordK k))) := Lib.hid (by
    refine ⟨(Touch.refl _ _).alloc _, fun k hk => ?_⟩
    have hb := heap_alloc_new w wordsO
    unfold wordsO at hb ⊢
    rw [cell_of hb]
    match k, hk with
    | 0, _ => rfl
    | 1, _ => rfl
    | 2, _ => rfl
    | 3, _ => rfl
    | 4, _ => rfl
    | 5, _ => rfl
    | 6, _ => rfl
    | 7, _ => rfl
    | 8, _ => rfl)
  unfold wordsO at K
  go_enter Try.func32, Try.ntmps32
  go_wp2_with fail
  go_ret
  exact ⟨rfl, K.out⟩
/-- A line of text. -/
def lineM (o : OpL) : ByteArray :=
  wordK o.kind.toNat ++ (if o.kind = 1 then ⟨#[32]⟩ ++ digB o.n.toNat ++ ⟨#[32]⟩ ++ o.s ++ ⟨#[32]⟩ ++ o.r else if o.kind = 2 then ⟨#[32]⟩ ++ digB o.n.toNat ++ ⟨#[32]⟩ ++ o.s else if o.kind = 8 then ⟨#[]⟩ else ⟨#[32]⟩ ++ digB o.n.toNat) ++ ⟨#[10]⟩
def showM (l : List OpL) : ByteArray := l.foldl (fun s o => s ++ lineM o) ⟨#[]⟩
theorem showM_snoc (l : List OpL) (o : OpL) : showM (l ++ [o]) = showM l ++ lineM o := by simp [showM]
end Go.Proofs.Ytmgcmheiabmajab
end
