/- A Go map in memory as a list of keys (of a Lean type of one's own) and values, in the order in which they were put: what a look-up, a store, an entry, a delete and len do to it. Elements may be anything. -/
import Derived.Maps.Keyed
import Derived.Maps.OwnSet
import Derived.WideKeyEntry
import Derived.OwnWalk
namespace Go.Proofs.Ythafopnaecbjdaa
open Go Go.Maps Go.MapKept Go.ChangeMaps

/-! ### lists of keys and values -/
section
variable {K : Type} [DecidableEq K] {α β : Type}
def mget : List (K × α) → K → Option α
  | [], _ => none
  | (y, u) :: r, x => if y = x then some u else mget r x
def mput : List (K × α) → K → α → List (K × α)
  | [], x, v => [(x, v)]
  | (y, u) :: r, x, v => if y = x then (y, v) :: r else (y, u) :: mput r x v
def mdel (l : List (K × α)) (x : K) : List (K × α) := l.filter fun p => decide (p.1 ≠ x)

theorem mget_none {l : List (K × α)} {x : K} : mget l x = none ↔ ∀ p ∈ l, p.1 ≠ x := by
  induction l with
  | nil => simp [mget]
  | cons p r ih =>
    obtain ⟨y, u⟩ := p
    unfold mget
    by_cases h : y = x
    · simp [h]
    · simp [h, ih]
theorem mget_mem {l : List (K × α)} {x : K} {v : α} (h : mget l x = some v) : (x, v) ∈ l := by
  induction l with
  | nil => simp [mget] at h
  | cons p r ih =>
    obtain ⟨y, u⟩ := p
    unfold mget at h
    by_cases e : y = x
    · subst e; simp at h; simp [h]
    · rw [if_neg e] at h; exact List.mem_cons_of_mem _ (ih h)
theorem mem_mget {l : List (K × α)} (hn : (l.map (·.1)).Nodup) {x : K} {v : α} (h : (x, v) ∈ l) : mget l x = some v := by
  induction l with
  | nil => cases h
  | cons p r ih =>
    obtain ⟨y, u⟩ := p
    simp only [List.map_cons, List.nodup_cons] at hn
    unfold mget
    rcases List.mem_cons.1 h with h | h
    · cases h; simp
    · have : y ≠ x := fun e => hn.1 (List.mem_map.2 ⟨(x, v), h, e.symm⟩)
      rw [if_neg this]; exact ih hn.2 h
theorem mput_new {l : List (K × α)} {x : K} {v : α} (h : ∀ p ∈ l, p.1 ≠ x) : mput l x v = l ++ [(x, v)] := by
  induction l with
  | nil => rfl
  | cons p r ih =>
    obtain ⟨y, u⟩ := p
    unfold mput
    rw [if_neg (h (y, u) (by simp)), ih (fun q hq => h q (by simp [hq]))]
    rfl
theorem mput_keys (l : List (K × α)) (x : K) (v : α) : (mput l x v).map (·.1) = if x ∈ l.map (·.1) then l.map (·.1) else l.map (·.1) ++ [x] := by
  induction l with
  | nil => rfl
  | cons p r ih =>
    obtain ⟨y, u⟩ := p
    unfold mput
    by_cases e : y = x
    · subst e; simp
    · rw [if_neg e]
      simp only [List.map_cons, ih]
      by_cases hm : x ∈ r.map (·.1)
      · rw [if_pos hm, if_pos (List.mem_cons_of_mem _ hm)]
      · rw [if_neg hm, if_neg (by simp [hm, Ne.symm e])]; rfl
theorem mget_mput (l : List (K × α)) (x y : K) (v : α) : mget (mput l x v) y = if x = y then some v else mget l y := by
  induction l with
  | nil => by_cases h : x = y <;> simp [mput, mget, h]
  | cons p r ih =>
    obtain ⟨z, u⟩ := p
    unfold mput
    by_cases e : z = x
    · subst e
      rw [if_pos rfl]
      by_cases h : z = y <;> simp [mget, h]
    · rw [if_neg e]
      unfold mget
      by_cases h : z = y
      · subst h; simp [Ne.symm e]
      · rw [if_neg h, if_neg h, ih]
theorem mget_mdel (l : List (K × α)) (x y : K) : mget (mdel l x) y = if x = y then none else mget l y := by
  induction l with
  | nil => simp [mdel, mget]
  | cons p r ih =>
    obtain ⟨z, u⟩ := p
    by_cases e : z = x
    · subst e
      have : mdel ((z, u) :: r) z = mdel r z := by simp [mdel]
      rw [this, ih]
      by_cases h : z = y
      · rw [if_pos h, if_pos h]
      · rw [if_neg h, if_neg h]; simp [mget, h]
    · have : mdel ((z, u) :: r) x = (z, u) :: mdel r x := by simp [mdel, e]
      rw [this]
      unfold mget
      by_cases h : z = y
      · subst h; simp [Ne.symm e]
      · rw [if_neg h, if_neg h, ih]
theorem mput_mem {l : List (K × α)} {x : K} {v : α} {p : K × α} (h : p ∈ mput l x v) : p = (x, v) ∨ p ∈ l := by
  induction l with
  | nil => simp [mput] at h; exact .inl h
  | cons q r ih =>
    obtain ⟨y, u⟩ := q
    unfold mput at h
    by_cases e : y = x
    · subst e
      rw [if_pos rfl] at h
      rcases List.mem_cons.1 h with h | h
      · exact .inl h
      · exact .inr (List.mem_cons_of_mem _ h)
    · rw [if_neg e] at h
      rcases List.mem_cons.1 h with h | h
      · exact .inr (by simp [h])
      · rcases ih h with h | h
        · exact .inl h
        · exact .inr (List.mem_cons_of_mem _ h)
theorem mput_length (l : List (K × α)) (x : K) (v : α) : (mput l x v).length ≤ l.length + 1 := by
  induction l with
  | nil => simp [mput]
  | cons q r ih =>
    obtain ⟨y, u⟩ := q
    unfold mput
    split
    · simp
    · simp; exact ih
theorem mget_map (f : α → β) (l : List (K × α)) (x : K) : mget (l.map fun p => (p.1, f p.2)) x = (mget l x).map f := by
  induction l with
  | nil => rfl
  | cons q r ih =>
    obtain ⟨y, u⟩ := q
    simp only [List.map_cons, mget]
    split
    · rfl
    · exact ih
theorem mput_map (f : α → β) (l : List (K × α)) (x : K) (v : α) : mput (l.map fun p => (p.1, f p.2)) x (f v) = (mput l x v).map fun p => (p.1, f p.2) := by
  induction l with
  | nil => rfl
  | cons q r ih =>
    obtain ⟨y, u⟩ := q
    simp only [List.map_cons, mput]
    split
    · rfl
    · simp [ih]
theorem mdel_map (f : α → β) (l : List (K × α)) (x : K) : mdel (l.map fun p => (p.1, f p.2)) x = (mdel l x).map fun p => (p.1, f p.2) := by
  simp [mdel, List.filter_map, Function.comp_def]
end

/-! ### a map in memory -/
/-- Keys of a Lean type as keys of the map's key type. -/
structure KeyEnc {K : Type} (P : Program) (k : TypeId) (enc : K → Value) (good : K → Prop) : Prop where
  keyed : Keyed P k
  inj : ∀ {x y : K}, enc x = enc y → x = y
  key : ∀ {x : K}, good x → ∃ kl, keyOf P k (enc x) = some kl

section
variable {K : Type}
/-- Block b is a map that holds l, in the order in which the keys were put. -/
def MapT (w : World) (b : Nat) (enc : K → Value) (good : K → Prop) (l : List (K × Value)) : Prop :=
  ∃ es clock, w.heap[b]? = some (.map es clock) ∧ Stamped es clock ∧ es.size ≤ maxLen ∧ (∀ p ∈ l, good p.1) ∧ es.toList.map (fun e => (e.key, e.val)) = l.map (fun p => (enc p.1, p.2))

variable {P : Program} {k : TypeId} {enc : K → Value} {good : K → Prop} {w : World} {b : Nat} {l : List (K × Value)}

theorem MapT.lt (h : MapT w b enc good l) : b < w.heap.size := by
  obtain ⟨es, clock, hb, _⟩ := h
  exact (Array.getElem?_eq_some_iff.1 hb).1
theorem MapT.of_block {w' : World} (h : MapT w b enc good l) (hb : w'.heap[b]? = w.heap[b]?) : MapT w' b enc good l := by
  obtain ⟨es, clock, h0, r⟩ := h
  exact ⟨es, clock, hb.trans h0, r⟩
theorem MapT.of_eq {l' : List (K × Value)} (h : MapT w b enc good l) (e : l = l') : MapT w b enc good l' := e ▸ h
theorem MapT.made (w : World) : MapT (w.alloc (.map #[] 0)) w.heap.size enc good [] :=
  ⟨#[], 0, (heap_alloc w _).1, stamped_empty 0, by simp [maxLen], by simp, by simp⟩
theorem MapT.length (h : MapT w b enc good l) : l.length ≤ maxLen := by
  obtain ⟨es, clock, _, _, hs, _, hm⟩ := h
  have := congrArg List.length hm
  simp at this
  omega
theorem MapT.nodup (h : MapT w b enc good l) : (l.map (·.1)).Nodup := by
  obtain ⟨es, clock, _, hst, _, _, hm⟩ := h
  have h1 : (es.toList.map (·.key)) = (l.map (·.1)).map enc := by
    have := congrArg (List.map Prod.fst) hm
    simpa [List.map_map, Function.comp_def] using this
  have h2 := hst.2.2
  rw [h1] at h2
  exact (List.pairwise_map.1 h2).imp (fun hne e => hne (by rw [e]))
theorem entry_of {es : Array MapEntry} (hm : es.toList.map (fun e => (e.key, e.val)) = l.map (fun p => (enc p.1, p.2))) {j : Nat} {e0 : MapEntry} (h : es.toList[j]? = some e0) : ∃ p, l[j]? = some p ∧ e0.key = enc p.1 ∧ e0.val = p.2 := by
  have h1 := congrArg (fun z : List (Value × Value) => z[j]?) hm
  simp only [List.getElem?_map, h, Option.map_some] at h1
  cases hp : l[j]? with
  | none => rw [hp] at h1; simp at h1
  | some p => rw [hp] at h1; simp only [Option.map_some, Option.some.injEq, Prod.mk.injEq] at h1; exact ⟨p, rfl, h1.1, h1.2⟩
theorem entries_good (KE : KeyEnc P k enc good) {es : Array MapEntry} (hg : ∀ p ∈ l, good p.1) (hm : es.toList.map (fun e => (e.key, e.val)) = l.map (fun p => (enc p.1, p.2))) : ∀ e ∈ es.toList, ∃ kl, keyOf P k e.key = some kl := by
  intro e he
  obtain ⟨j, hj⟩ := List.mem_iff_getElem?.1 he
  obtain ⟨p, hp, e1, _⟩ := entry_of hm hj
  rw [e1]
  exact KE.key (hg p (List.mem_of_getElem? hp))

theorem MapT.len (h : MapT w b enc good l) {t e : TypeId} (ht : P.underlying t = some (.map k e)) (ty : TypeId) : (Builtin.len_ #[t] ty #[.map (some b)]).run P w = .ok (.int .i64 l.length) w := by
  obtain ⟨es, clock, hb, _, _, _, hm⟩ := h
  have e1 := congrArg List.length hm
  simp at e1
  rw [← e1]
  simp [Builtin.len_, run_underlying ht, MapKept.run_getObj_map hb, goInt, Result.andThen]
end
section
variable {K : Type} [DecidableEq K] {P : Program} {k : TypeId} {enc : K → Value} {good : K → Prop} {w : World} {b : Nat} {l : List (K × Value)}
/-- The one search of all the laws. -/
theorem MapT.find (KE : KeyEnc P k enc good) {es : Array MapEntry} {clock : Nat} (hg : ∀ p ∈ l, good p.1) (hm : es.toList.map (fun e => (e.key, e.val)) = l.map (fun p => (enc p.1, p.2))) (hst : Stamped es clock) {x : K} (hx : good x) (w : World) :
    ((Instr.findKey k (enc x) es.toList).run P w = .ok none w ∧ (∀ e ∈ es.toList, e.key ≠ enc x) ∧ mget l x = none) ∨
    ∃ j e0 p, (Instr.findKey k (enc x) es.toList).run P w = .ok (some (j, e0.val)) w ∧ es.toList[j]? = some e0 ∧ e0.key = enc x ∧ l[j]? = some p ∧ p.1 = x ∧ p.2 = e0.val ∧ mget l x = some e0.val := by
  obtain ⟨kl, hkl⟩ := KE.key hx
  have hgood := entries_good KE hg hm
  rcases KE.keyed.find w hkl es.toList hgood with ⟨h1, h2⟩ | ⟨j, e0, h1, h2, h3⟩
  · refine .inl ⟨h1, h2, mget_none.2 fun p hp e => ?_⟩
    obtain ⟨j, hj⟩ := List.mem_iff_getElem?.1 hp
    have h4 := congrArg (fun z : List (Value × Value) => z[j]?) hm
    simp only [List.getElem?_map, hj, Option.map_some] at h4
    cases he : es.toList[j]? with
    | none => rw [he] at h4; simp at h4
    | some e0 =>
      rw [he] at h4
      simp only [Option.map_some, Option.some.injEq, Prod.mk.injEq] at h4
      exact h2 e0 (List.mem_of_getElem? he) (by rw [h4.1, e])
  · obtain ⟨p, hp, e1, e2⟩ := entry_of hm h2
    have hpx : p.1 = x := KE.inj (by rw [← e1, h3])
    have hnd : (l.map (·.1)).Nodup := by
      have h1' : (es.toList.map (·.key)) = (l.map (·.1)).map enc := by
        have := congrArg (List.map Prod.fst) hm
        simpa [List.map_map, Function.comp_def] using this
      have h2' := hst.2.2
      rw [h1'] at h2'
      exact (List.pairwise_map.1 h2').imp (fun hne e => hne (by rw [e]))
    exact .inr ⟨j, e0, p, h1, h2, h3, hp, hpx, e2.symm, by rw [e2]; exact mem_mget hnd (by rw [← hpx]; exact List.mem_of_getElem? hp)⟩

theorem MapT.look_hit (KE : KeyEnc P k enc good) {t e : TypeId} (ht : P.underlying t = some (.map k e)) (h : MapT w b enc good l) {x : K} (hx : good x) {v : Value} (hv : mget l x = some v) (c : Bool) :
    (Instr.lookup t (.map (some b)) (enc x) c).run P w = .ok (if c then .tuple #[v, .bool true] else v) w := by
  obtain ⟨kl, hkl⟩ := KE.key hx
  obtain ⟨es, clock, hb, hst, _, hg, hm⟩ := h
  rcases MapT.find KE hg hm hst hx w with ⟨_, _, h3⟩ | ⟨j, e0, p, h1, _, _, _, _, _, h7⟩
  · rw [h3] at hv; cases hv
  · rw [h7] at hv; cases hv
    cases c <;> simp [Instr.lookup, run_underlying ht, MapKept.run_getObj_map hb, KE.keyed.check w _ hkl, h1, Result.andThen]
theorem MapT.look_miss (KE : KeyEnc P k enc good) {t e : TypeId} (ht : P.underlying t = some (.map k e)) {z : Value} (hz : (zeroValue e).run P w = .ok z w) (h : MapT w b enc good l) {x : K} (hx : good x) (hv : mget l x = none) (c : Bool) :
    (Instr.lookup t (.map (some b)) (enc x) c).run P w = .ok (if c then .tuple #[z, .bool false] else z) w := by
  obtain ⟨kl, hkl⟩ := KE.key hx
  obtain ⟨es, clock, hb, hst, _, hg, hm⟩ := h
  rcases MapT.find KE hg hm hst hx w with ⟨h1, _, _⟩ | ⟨j, e0, p, h1, _, _, _, _, _, h7⟩
  · cases c <;> simp [Instr.lookup, run_underlying ht, MapKept.run_getObj_map hb, KE.keyed.check w _ hkl, h1, hz, Result.andThen]
  · rw [h7] at hv; cases hv
theorem put_at {es : Array MapEntry} (hm : es.toList.map (fun e => (e.key, e.val)) = l.map (fun p => (enc p.1, p.2))) (hnd : (l.map (·.1)).Nodup) {j : Nat} {p : K × Value} (hp : l[j]? = some p) (v : Value) (f : MapEntry → MapEntry)
    (hf : ∀ e0, es.toList[j]? = some e0 → (f e0).key = enc p.1 ∧ (f e0).val = v) : (es.modify j f).toList.map (fun e => (e.key, e.val)) = (mput l p.1 v).map (fun p => (enc p.1, p.2)) := by
  have hmput : ∀ (l : List (K × Value)) (j : Nat), (l.map (·.1)).Nodup → l[j]? = some p → mput l p.1 v = l.set j (p.1, v) := by
    intro l
    induction l with
    | nil => intro j _ h; simp at h
    | cons q r ih =>
      intro j hn h
      obtain ⟨y, u⟩ := q
      simp only [List.map_cons, List.nodup_cons] at hn
      cases j with
      | zero => simp at h; subst h; simp [mput]
      | succ j =>
        simp at h
        have hne : y ≠ p.1 := fun e => hn.1 (List.mem_map.2 ⟨p, List.mem_of_getElem? h, e.symm⟩)
        simp only [mput, if_neg hne, ih j hn.2 h, List.set_cons_succ]
  rw [hmput l j hnd hp]
  have hlen := congrArg List.length hm
  simp at hlen
  have hj : j < es.toList.length := by
    have := (List.getElem?_eq_some_iff.1 hp).1
    simp; omega
  have he0 : es.toList[j]? = some es.toList[j] := List.getElem?_eq_getElem hj
  obtain ⟨f1, f2⟩ := hf _ he0
  rw [Array.toList_modify, ChangeMaps.modify_eq_set _ _ _ _ he0, List.map_set, List.map_set, hm, f1, f2]

theorem MapT.store (KE : KeyEnc P k enc good) {t e : TypeId} (ht : P.underlying t = some (.map k e)) (h : MapT w b enc good l) (hn : l.length < maxLen) {x : K} (hx : good x) (v : Value) :
    ∃ es' clock', (Instr.mapUpdate t (.map (some b)) (enc x) v).run P w = .ok () (setBlock w b (.map es' clock')) ∧ Stamped es' clock' ∧ es'.size ≤ maxLen ∧ (∀ p ∈ mput l x v, good p.1) ∧ es'.toList.map (fun e => (e.key, e.val)) = (mput l x v).map (fun p => (enc p.1, p.2)) := by
  obtain ⟨kl, hkl⟩ := KE.key hx
  have hnd := h.nodup
  obtain ⟨es, clock, hb, hst, hs, hg, hm⟩ := h
  have hlen := congrArg List.length hm
  simp at hlen
  have hgood : ∀ p ∈ mput l x v, good p.1 := fun p hp => by
    rcases mput_mem hp with rfl | hp
    · exact hx
    · exact hg p hp
  rcases MapT.find KE hg hm hst hx w with ⟨h1, h2, h3⟩ | ⟨j, e0, p, h1, h2, h3, h4, h5, h6, h7⟩
  · refine ⟨es.push ⟨enc x, v, clock⟩, clock + 1, ?_, stamped_push hst h2, by simp; omega, hgood, ?_⟩
    · simp [Instr.mapUpdate, run_underlying ht, MapKept.run_getObj_map hb, KE.keyed.check w _ hkl, h1, MapKept.run_setObj_map _ hb, Result.andThen, setBlock]
    · rw [mput_new (mget_none.1 h3)]; simp [hm]
  · have hj : es[j]? = some e0 := by simpa using h2
    refine ⟨es.modify j (fun e => { e with key := enc x, val := v }), clock, ?_, stamped_modify hst _ _ (fun _ _ => rfl) (fun e1 _ he => ?_), by simp; omega, hgood, ?_⟩
    · simp [Instr.mapUpdate, run_underlying ht, MapKept.run_getObj_map hb, KE.keyed.check w _ hkl, h1, hj, h3, KE.keyed.stays w hkl, MapKept.run_setObj_map _ hb, Result.andThen, setBlock]
    · rw [hj] at he; cases he; exact h3.symm
    · have := put_at hm hnd h4 v (fun e => { e with key := enc x, val := v }) (fun _ _ => ⟨by simp [h5], rfl⟩)
      rw [h5] at this
      exact this

theorem MapT.drop (KE : KeyEnc P k enc good) {t e : TypeId} (ht : P.underlying t = some (.map k e)) (h : MapT w b enc good l) {x : K} (hx : good x) (ty : TypeId) :
    ∃ es' clock', (Builtin.delete_ #[t, k] ty #[.map (some b), enc x]).run P w = .ok (.tuple #[]) (setBlock w b (.map es' clock')) ∧ Stamped es' clock' ∧ es'.size ≤ maxLen ∧ (∀ p ∈ mdel l x, good p.1) ∧ es'.toList.map (fun e => (e.key, e.val)) = (mdel l x).map (fun p => (enc p.1, p.2)) := by
  obtain ⟨kl, hkl⟩ := KE.key hx
  have hnd := h.nodup
  obtain ⟨es, clock, hb, hst, hs, hg, hm⟩ := h
  have hgood : ∀ p ∈ mdel l x, good p.1 := fun p hp => hg p (List.mem_filter.1 hp).1
  rcases MapT.find KE hg hm hst hx w with ⟨h1, h2, h3⟩ | ⟨j, e0, p, h1, h2, h3, h4, h5, h6, h7⟩
  · refine ⟨es, clock, ?_, hst, hs, hgood, ?_⟩
    · simp [Builtin.delete_, run_underlying ht, MapKept.run_getObj_map hb, KE.keyed.check w _ hkl, h1, MapKept.run_setObj_map _ hb, Result.andThen, setBlock]
    · rw [hm]
      have : mdel l x = l := List.filter_eq_self.2 (fun p hp => by simpa using mget_none.1 h3 p hp)
      rw [this]
  · have hjl : j < es.toList.length := (List.getElem?_eq_some_iff.1 h2).1
    have hsub : (es.eraseIdxIfInBounds j).toList = es.toList.eraseIdx j := by
      unfold Array.eraseIdxIfInBounds
      rw [dif_pos (by simpa using hjl)]
      simp
    have hdel : ∀ (l : List (K × Value)) (j : Nat), (l.map (·.1)).Nodup → l[j]? = some p → mdel l p.1 = l.eraseIdx j := by
      intro l
      induction l with
      | nil => intro j _ h; simp at h
      | cons q r ih =>
        intro j hn h
        simp only [List.map_cons, List.nodup_cons] at hn
        cases j with
        | zero =>
          simp at h
          subst h
          have hr : mdel r q.1 = r := List.filter_eq_self.2 (fun p hp => by
            have : p.1 ≠ q.1 := fun e => hn.1 (List.mem_map.2 ⟨p, hp, e⟩)
            simpa using this)
          simp only [List.eraseIdx_cons_zero]
          rw [← hr]
          simp [mdel]
        | succ j =>
          simp at h
          have hne : q.1 ≠ p.1 := fun e => hn.1 (List.mem_map.2 ⟨p, List.mem_of_getElem? h, e.symm⟩)
          simp only [List.eraseIdx_cons_succ, ← ih j hn.2 h]
          simp [mdel, hne]
    refine ⟨es.eraseIdxIfInBounds j, clock, ?_, stamped_erase hst j, ?_, hgood, ?_⟩
    · simp [Builtin.delete_, run_underlying ht, MapKept.run_getObj_map hb, KE.keyed.check w _ hkl, h1, MapKept.run_setObj_map _ hb, Result.andThen, setBlock]
    · rw [← Array.length_toList, hsub]
      have := List.length_eraseIdx_le es.toList j
      simp at this
      omega
    · rw [hsub, map_eraseIdx, hm, ← h5, hdel l j hnd h4, map_eraseIdx]

/-- 'm[k] = f(m[k])': the entry, and what is stored at it. -/
theorem MapT.entry (KE : KeyEnc P k enc good) {t e : TypeId} (ht : P.underlying t = some (.map k e)) {z : Value} (hz : ∀ u : World, (zeroValue e).run P u = .ok z u) (h : MapT w b enc good l) (hn : l.length < maxLen) {x : K} (hx : good x) :
    ∃ (st : Nat) (es1 : Array MapEntry) (clock1 : Nat), (∀ u : World, u.heap[b]? = w.heap[b]? → (Instr.mapEntry t (.map (some b)) (enc x)).run P u = .ok (.tuple #[(mget l x).getD z, goInt st]) (setBlock u b (.map es1 clock1))) ∧
      ∀ (v : Value), ∃ es' clock', (∀ u : World, u.heap[b]? = some (.map es1 clock1) → (Instr.entryStore t (.map (some b)) (goInt st) v).run P u = .ok () (setBlock u b (.map es' clock'))) ∧
        Stamped es' clock' ∧ es'.size ≤ maxLen ∧ (∀ p ∈ mput l x v, good p.1) ∧ es'.toList.map (fun e => (e.key, e.val)) = (mput l x v).map (fun p => (enc p.1, p.2)) := by
  obtain ⟨kl, hkl⟩ := KE.key hx
  have hnd := h.nodup
  obtain ⟨es, clock, hb, hst, hs, hg, hm⟩ := h
  have hlen := congrArg List.length hm
  simp at hlen
  obtain ⟨s1, s2, s3⟩ := hst
  have hgood : ∀ v, ∀ p ∈ mput l x v, good p.1 := fun v p hp => by
    rcases mput_mem hp with rfl | hp
    · exact hx
    · exact hg p hp
  rcases MapT.find KE hg hm ⟨s1, s2, s3⟩ hx w with ⟨h1, h2, h3⟩ | ⟨j, e0, p, h1, h2, h3, h4, h5, h6, h7⟩
  · refine ⟨clock, es.push ⟨enc x, z, clock⟩, clock + 1, fun u hu => ?_, fun v => ⟨es.push ⟨enc x, v, clock⟩, clock + 1, fun u hu => ?_, stamped_push ⟨s1, s2, s3⟩ h2, by simp; omega, hgood v, ?_⟩⟩
    · rw [hb] at hu
      have h1u : (Instr.findKey k (enc x) es.toList).run P u = .ok none u := by
        rcases MapT.find KE hg hm ⟨s1, s2, s3⟩ hx u with ⟨g1, _, _⟩ | ⟨j, e0, p, g1, _, _, _, _, _, g7⟩
        · exact g1
        · rw [h3] at g7; cases g7
      simp [Instr.mapEntry, run_underlying ht, MapKept.run_getObj_map hu, KE.keyed.check u false hkl, h1u, hz, h3, MapKept.run_setObj_map _ hu, Result.andThen, setBlock]
    · have hidx : (es.push ⟨enc x, z, clock⟩).findIdx? (fun e => ((e.born : Nat) : Int) == ((clock : Nat) : Int)) = some es.size := by
        rw [WideElems.findIdx_arr]
        exact WideElems.findIdx_born (l := (es.push ⟨enc x, z, clock⟩).toList) (j := es.size) (e0 := ⟨enc x, z, clock⟩) (by
          simp only [Array.toList_push, List.map_append, List.map_cons, List.map_nil]
          refine List.nodup_append.2 ⟨s2, by simp, fun a ha c hc e1 => ?_⟩
          simp only [List.mem_singleton] at hc
          obtain ⟨x, hx, rfl⟩ := List.mem_map.1 ha
          have := s1 x hx
          omega) (by simp)
      have hmod : (es.push ⟨enc x, z, clock⟩).modify es.size (fun e => { e with val := v }) = es.push ⟨enc x, v, clock⟩ := by
        apply Array.ext'
        rw [Array.toList_modify, Array.toList_push, Array.toList_push, ← Array.length_toList, WideElems.modify_last]
      simp [Instr.entryStore, MapKept.run_getObj_map hu, asInt, asIntOf, goInt, hidx, hmod, MapKept.run_setObj_map _ hu, Result.andThen, setBlock]
    · rw [mput_new (mget_none.1 h3)]; simp [hm]
  · have hj : es[j]? = some e0 := by simpa using h2
    have hsame : es.modify j (fun e => { e with key := enc x }) = es := by
      apply Array.ext'
      rw [Array.toList_modify, ChangeMaps.modify_eq_set _ _ _ _ h2]
      have : ({ e0 with key := enc x } : MapEntry) = e0 := by rw [← h3]
      rw [this]
      exact WideElems.set_self _ _ _ h2
    refine ⟨e0.born, es, clock, fun u hu => ?_, fun v => ⟨es.modify j (fun e' => { e' with val := v }), clock, fun u hu => ?_, stamped_modify ⟨s1, s2, s3⟩ _ _ (fun _ _ => rfl) (fun _ _ _ => rfl), by simp; omega, hgood v, ?_⟩⟩
    · rw [hb] at hu
      have h1u : (Instr.findKey k (enc x) es.toList).run P u = .ok (some (j, e0.val)) u := by
        rcases KE.keyed.find u hkl es.toList (entries_good KE hg hm) with ⟨_, g2⟩ | ⟨j', e', g1, g2, g3⟩
        · exact absurd h3 (g2 e0 (List.mem_of_getElem? h2))
        · have hjj : j' = j := by
            have l1 := (List.getElem?_eq_some_iff.1 h2).1
            have l2 := (List.getElem?_eq_some_iff.1 g2).1
            have k1 : (es.toList.map (·.key))[j]'(by simpa using l1) = enc x := by
              have := (List.getElem?_eq_some_iff.1 h2).2
              simp only [List.getElem_map, this, h3]
            have k2 : (es.toList.map (·.key))[j']'(by simpa using l2) = enc x := by
              have := (List.getElem?_eq_some_iff.1 g2).2
              simp only [List.getElem_map, this, g3]
            exact (List.getElem_inj s3).1 (k2.trans k1.symm)
          subst hjj
          rw [h2] at g2
          cases g2
          exact g1
      simp [Instr.mapEntry, run_underlying ht, MapKept.run_getObj_map hu, KE.keyed.check u false hkl, h1u, hj, h3, h7, KE.keyed.stays u hkl, hsame, MapKept.run_setObj_map _ hu, Result.andThen, setBlock]
    · have hidx : es.findIdx? (fun e => ((e.born : Nat) : Int) == ((e0.born : Nat) : Int)) = some j := by
        rw [WideElems.findIdx_arr]
        exact WideElems.findIdx_born s2 h2
      simp [Instr.entryStore, MapKept.run_getObj_map hu, asInt, asIntOf, goInt, hidx, MapKept.run_setObj_map _ hu, Result.andThen, setBlock]
    · have := put_at hm hnd h4 v (fun e => { e with val := v }) (fun e1 he => ⟨by rw [h2] at he; cases he; simp [h3, h5], rfl⟩)
      rw [h5] at this
      exact this
end
end Go.Proofs.Ythafopnaecbjdaa
