/- 'for k, v := range m' over a map (MapT), in whatever order: what is still to come. -/
import Derived.Test.YthafopnaecbjdaaMapOps
import Derived.Maps.RangeRun
import Derived.Maps.RangeWalk
namespace Go.Proofs.Ythafopnaecbjdaa
open Go Go.Maps Go.MapKept Go.ChangeMaps

section
variable {K : Type} [DecidableEq K]
/-- Block b is a map that holds l; block r goes over it; todo is still to come. -/
def MapIt (w : World) (b r : Nat) (enc : K → Value) (good : K → Prop) (l todo : List (K × Value)) : Prop :=
  ∃ es clock since seen c0, w.heap[b]? = some (.map es clock) ∧ Stamped es clock ∧ es.size ≤ maxLen ∧ (∀ p ∈ l, good p.1) ∧ es.toList.map (fun e => (e.key, e.val)) = l.map (fun p => (enc p.1, p.2)) ∧
    w.heap[r]? = some (.mapIter (some b) since seen c0) ∧ (∀ x ∈ es.toList, x.born < since) ∧ since ≤ c0 ∧ since ≤ clock ∧
    (leftOf es seen).toList.map (fun e => (e.key, e.val)) = todo.map (fun p => (enc p.1, p.2))

variable {P : Program} {k : TypeId} {enc : K → Value} {good : K → Prop} {w : World} {b r : Nat} {l todo : List (K × Value)}

omit [DecidableEq K] in
theorem MapIt.map (h : MapIt w b r enc good l todo) : MapT w b enc good l := by
  obtain ⟨es, clock, _, _, _, h1, h2, h3, h4, h5, _⟩ := h
  exact ⟨es, clock, h1, h2, h3, h4, h5⟩
omit [DecidableEq K] in
theorem MapIt.ltr (h : MapIt w b r enc good l todo) : r < w.heap.size := by
  obtain ⟨es, clock, _, _, _, _, _, _, _, _, h6, _⟩ := h
  exact heap_lt h6
omit [DecidableEq K] in
theorem MapIt.kept {w' : World} {S : List Nat} (h : MapIt w b r enc good l todo) (t : Touch S w w') (hb : b ∉ S) (hr : r ∉ S) : MapIt w' b r enc good l todo := by
  have l1 := h.map.lt
  have l2 := h.ltr
  obtain ⟨es, clock, since, seen, c0, h1, h2, h3, h4, h5, h6, rest⟩ := h
  exact ⟨es, clock, since, seen, c0, (t.block b l1 hb).trans h1, h2, h3, h4, h5, (t.block r l2 hr).trans h6, rest⟩
omit [DecidableEq K] in
theorem MapIt.start {w' : World} (h : MapT w b enc good l) : ∀ es clock, w.heap[b]? = some (.map es clock) → w' = w.alloc (.mapIter (some b) clock #[] clock) → MapIt w' b w.heap.size enc good l l := by
  rintro es clock hb rfl
  obtain ⟨es', clock', hb', h2, h3, h4, h5⟩ := h
  rw [hb] at hb'; cases hb'
  refine ⟨es, clock, clock, #[], clock, (RowKit.Below.heap_alloc _ _ _ (heap_lt hb)).trans hb, h2, h3, h4, h5, heap_alloc_new w _, h2.1, Nat.le_refl _, Nat.le_refl _, ?_⟩
  rw [← h5]
  have : leftOf es #[] = es := by
    unfold leftOf
    exact Array.filter_eq_self.2 fun a _ => by simp
  rw [this]

omit [DecidableEq K] in
theorem MapIt.left (h : MapIt w b r enc good l todo) : w.rangeLeft b r = todo.length := by
  obtain ⟨es, clock, since, seen, c0, h1, _, _, _, _, h6, _, _, _, h10⟩ := h
  simp only [World.rangeLeft, h1, h6]
  have := congrArg List.length h10
  simpa using this
theorem mdel_shorter {l : List (K × Value)} {x : K} {v : Value} (h : (x, v) ∈ l) : (mdel l x).length < l.length := by
  unfold mdel
  induction l with
  | nil => cases h
  | cons p l ih =>
    rw [List.filter_cons]
    by_cases e : p.1 = x
    · have := List.length_filter_le (fun p : K × Value => decide (p.1 ≠ x)) l
      simp only [e, ne_eq, not_true_eq_false, decide_false, Bool.false_eq_true, if_false, List.length_cons]
      simp only [ne_eq] at this
      omega
    · rcases List.mem_cons.1 h with rfl | h
      · exact absurd rfl e
      · have := ih h
        simp only [e, ne_eq, not_false_eq_true, decide_true, if_true, List.length_cons]
        simp only [ne_eq] at this
        omega

omit [DecidableEq K] in
theorem MapT.goods (h : MapT w b enc good l) : ∀ p ∈ l, good p.1 := by
  obtain ⟨_, _, _, _, _, h4, _⟩ := h
  exact h4
theorem filter_beside {α β γ : Type} {f : α → γ} {g : β → γ} {p : α → Bool} {q : β → Bool} : ∀ {L : List α} {T : List β}, L.map f = T.map g → (∀ a ∈ L, ∀ t ∈ T, f a = g t → p a = q t) → (L.filter p).map f = (T.filter q).map g
  | [], [], _, _ => rfl
  | [], _ :: _, h, _ => by simp at h
  | _ :: _, [], h, _ => by simp at h
  | a :: L, t :: T, h, hp => by
    simp only [List.map_cons, List.cons.injEq] at h
    have h1 := hp a (by simp) t (by simp) h.1
    have h2 := filter_beside (p := p) (q := q) h.2 fun a' ha t' ht => hp a' (by simp [ha]) t' (by simp [ht])
    simp only [List.filter_cons, h1]
    cases q t <;> simp [h.1, h2]

theorem key_inj {l : List MapEntry} (h : (l.map (·.key)).Nodup) {x y : MapEntry} (hx : x ∈ l) (hy : y ∈ l) (e : x.key = y.key) : x = y := by
  induction l with
  | nil => cases hx
  | cons z l ih =>
    simp only [List.map_cons, List.nodup_cons] at h
    rcases List.mem_cons.1 hx with rfl | hx'
    · rcases List.mem_cons.1 hy with rfl | hy'
      · rfl
      · exact absurd (List.mem_map.2 ⟨y, hy', e.symm⟩) h.1
    · rcases List.mem_cons.1 hy with rfl | hy'
      · exact absurd (List.mem_map.2 ⟨x, hx', e⟩) h.1
      · exact ih h.2 hx' hy'

theorem MapIt.next (h : MapIt w b r enc good l todo) (inj : ∀ {x y : K}, enc x = enc y → x = y) (ty : TypeId) :
    (todo = [] ∧ (Instr.next (.pointer (some ⟨r, 0, none⟩)) false ty).run P w = .ok (.tuple #[.bool false]) w) ∨
    ∃ x v w', (x, v) ∈ todo ∧ (Instr.next (.pointer (some ⟨r, 0, none⟩)) false ty).run P w = .ok (.tuple #[.bool true, enc x, v]) w' ∧ MapIt w' b r enc good l (mdel todo x) ∧ Touch [r] w w' ∧
      (Instr.entry (.pointer (some ⟨r, 0, none⟩))).run P w' = .ok (.tuple #[enc x, v]) w' := by
  have hne : r ≠ b := fun e => by
    obtain ⟨es, clock, since, seen, c0, h1, _, _, _, _, h6, _⟩ := h
    rw [e, h1] at h6; cases h6
  have lb := h.map.lt
  obtain ⟨es, clock, since, seen, c0, h1, h2, h3, h4, h5, h6, h7, h8, h9, h10⟩ := h
  rcases run_next_at (P := P) w ty r b since c0 seen es clock h6 h1 h7 h8 with ⟨h0, hrun⟩ | ⟨e, he, w1, hal, hrun⟩
  · refine .inl ⟨?_, hrun⟩
    have : (leftOf es seen).toList = [] := by rw [Array.eq_empty_of_size_eq_zero h0]
    rw [this] at h10
    simpa using h10.symm
  · obtain ⟨hem, hes⟩ := mem_left he
    have hx : (e.key, e.val) ∈ todo.map (fun p => (enc p.1, p.2)) := by rw [← h10]; exact List.mem_map.2 ⟨e, he, rfl⟩
    obtain ⟨⟨x, v⟩, hxm, hxe⟩ := List.mem_map.1 hx
    simp only [Prod.mk.injEq] at hxe
    obtain ⟨hk, hv⟩ := hxe
    have hr1 : w1.heap[r]? = some (.mapIter (some b) since seen c0) := by rcases hal with rfl | rfl <;> exact h6
    have hb1 : w1.heap[b]? = some (.map es clock) := by rcases hal with rfl | rfl <;> exact h1
    have hset := heap_set (o' := .mapIter (some b) since (seen.push e.born) clock) hr1
    have hb' : (setBlock w1 r (.mapIter (some b) since (seen.push e.born) clock)).heap[b]? = some (.map es clock) := (hset.2 b (fun e1 => hne e1.symm)).trans hb1
    refine .inr ⟨x, v, _, hxm, by rw [hrun, hk, hv], ⟨es, clock, since, seen.push e.born, clock, hb', h2, h3, h4, h5, hset.1, h7, h9, h9, ?_⟩, ?_, ?_⟩
    · have hl : leftOf es (seen.push e.born) = (leftOf es seen).filter fun y => y.born != e.born := by
        unfold leftOf
        rw [Array.filter_filter]
        congr 1
        funext y
        rw [contains_push]
        cases seen.contains y.born <;> cases hh : (y.born == e.born) <;> simp [bne, hh]
      rw [hl, Array.toList_filter]
      refine filter_beside h10 fun a ha t ht hat => ?_
      simp only [Prod.mk.injEq] at hat
      have ham := (mem_left ha).1
      by_cases hxt : t.1 = x
      · have : a = e := by
          have hkk : a.key = e.key := by rw [hat.1, hxt, hk]
          exact key_inj h2.2.2 ham hem hkk
        subst this
        simp [hxt]
      · have hnk : a.key ≠ e.key := fun hh => hxt (inj (by rw [← hat.1, hh, hk]))
        have hnb : a.born ≠ e.born := fun hh => hnk (by rw [born_inj h2.2.1 ham hem hh])
        simp [hxt, hnb]
    · rcases hal with rfl | rfl
      · exact (Touch.refl [r] _).setBlock r _ (by simp)
      · exact ((Touch.refl [r] w).drew).setBlock r _ (by simp)
    · have hen := run_entry_at (P := P) _ r b since seen es clock e hset.1 hb' hem h2.2.1
      rw [← hk, ← hv] at hen
      exact hen
end

section
variable {K : Type} [DecidableEq K] {P : Program} {k : TypeId} {enc : K → Value} {good : K → Prop} (w : World) {b r : Nat} {l todo : List (K × Value)}
variable {ops : Array Oper} {rest : List Oper} {o : Oper} {a : Act} {Q : Exit → Act → World → Prop}

omit [DecidableEq K] in
theorem wpList_mt_range (hg : o.guard = none) (m : Operand) (t e : TypeId) (hop : o.op = Op.range t m) (ht : P.underlying t = some (.map k e)) (hM : MapT w b enc good l) (hm : a.eval m = .map (some b))
    (hK : ∀ w', MapIt w' b w.heap.size enc good l l → Touch [] w w' → wpList P ops Q rest (a.put o.dst (.pointer (some ⟨w.heap.size, 0, none⟩))) w') : wpList P ops Q (o :: rest) a w := by
  refine wpList_plain hg fun K' hK' => ?_
  have hM' := hM
  obtain ⟨es, clock, hb, _⟩ := hM
  unfold Oper.wp
  simp [execOp, hop, hm, run_range_map w t k e b es clock ht hb, Result.andThen]
  exact hK' _ _ (hK _ (MapIt.start hM' es clock hb rfl) ((Touch.refl [] w).alloc _))

theorem wpList_mt_next (hg : o.guard = none) (it : Operand) (hop : o.op = Op.next it false) (inj : ∀ {x y : K}, enc x = enc y → x = y) (h : MapIt w b r enc good l todo) (hit : a.eval it = .pointer (some ⟨r, 0, none⟩))
    (hDone : todo = [] → wpList P ops Q rest (a.put o.dst (.tuple #[.bool false])) w)
    (hMore : ∀ x v w', (x, v) ∈ todo → MapIt w' b r enc good l (mdel todo x) → Touch [r] w w' → (Instr.entry (.pointer (some ⟨r, 0, none⟩))).run P w' = .ok (.tuple #[enc x, v]) w' → wpList P ops Q rest (a.put o.dst (.tuple #[.bool true, enc x, v])) w') :
    wpList P ops Q (o :: rest) a w := by
  refine wpList_plain hg fun K' hK' => ?_
  unfold Oper.wp
  rcases h.next inj o.type (P := P) with ⟨h0, hrun⟩ | ⟨x, v, w', hm, hrun, hIt, ht, hen⟩
  · simp [execOp, hop, hit, hrun, Result.andThen]
    exact hK' _ _ (hDone h0)
  · simp [execOp, hop, hit, hrun, Result.andThen]
    exact hK' _ _ (hMore x v w' hm hIt ht hen)
end
end Go.Proofs.Ythafopnaecbjdaa
