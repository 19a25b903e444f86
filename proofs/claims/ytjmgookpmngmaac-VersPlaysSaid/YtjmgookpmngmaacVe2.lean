/- vers: at, whatever is there; Bump. -/
import Derived.Test.YtjmgookpmngmaacVe1
namespace Go.Proofs.Ytjmgookpmngmaac
open Go Go.RowKit Go.Maps

/-- Few tables, small numbers. -/
structure Small (rs : List (ByteArray × Tab)) (n : Nat) : Prop where
  len : rs.length ≤ n
  num : ∀ r ∈ rs, 0 ≤ r.2.num ∧ r.2.num ≤ n
  dirty : ∀ r ∈ rs, r.2.dirty.length ≤ n
theorem Small.mono {rs : List (ByteArray × Tab)} {n m : Nat} (h : Small rs n) (hm : n ≤ m) : Small rs m :=
  ⟨Nat.le_trans h.len hm, fun r hr => ⟨(h.num r hr).1, by have := (h.num r hr).2; omega⟩, fun r hr => Nat.le_trans (h.dirty r hr) hm⟩
theorem Small.put {rs : List (ByteArray × Tab)} {n : Nat} (h : Small rs n) {s : ByteArray} {t t' : Tab} (hm : mget rs s = some t) (hn : (rs.map (·.1)).Nodup) (h1 : 0 ≤ t'.num ∧ t'.num ≤ n) (h2 : t'.dirty.length ≤ n) : Small (mput rs s t') n := by
  refine ⟨?_, fun r hr => ?_, fun r hr => ?_⟩
  · have := congrArg List.length (mapN_mput (t := t) (t' := { t' with pt := t.pt }) rfl hm)
    have e : (mput rs s t').length = (mput rs s { t' with pt := t.pt }).length := by
      clear this hm h h1 h2 hn
      induction rs with
      | nil => rfl
      | cons q rs ih => obtain ⟨y, u⟩ := q; unfold mput; split <;> simp [*]
    simp only [mapN, List.length_map] at this
    have := h.len; omega
  · rcases mput_mem2 hn hr with rfl | ⟨hr', _⟩
    · exact h1
    · exact h.num r hr'
  · rcases mput_mem2 hn hr with rfl | ⟨hr', _⟩
    · exact h2
    · exact h.dirty r hr'

theorem mget_append {K α : Type} [DecidableEq K] {l : List (K × α)} {x : K} {v : α} (h : mget l x = none) (y : K) : mget (l ++ [(x, v)]) y = if x = y then some v else mget l y := by
  rw [← mput_new (mget_none.1 h), mget_mput]

/-- What is told of the tables is the same. -/
structure SameT (rs rs' : List (ByteArray × Tab)) : Prop where
  num : ∀ s, numOf rs' s = numOf rs s
  dirty : ∀ s c, dirtyOf rs' s c = dirtyOf rs s c
theorem SameT.refl (rs : List (ByteArray × Tab)) : SameT rs rs := ⟨fun _ => rfl, fun _ _ => rfl⟩

theorem at_any {w : World} {pv bm : Nat} {ep : Int} {rs : List (ByteArray × Tab)} {n : Nat} (h : VerC w pv bm ep rs) (sm : Small rs n) (hn : n < 1000000) (s : ByteArray) (hs : goodS s) :
    Calls Try.prog 31 #[.pointer (some ⟨pv, 0, none⟩), .string s] w fun e w' => ∃ (rs' : List (ByteArray × Tab)) (t : Tab), e = .returned (.pointer (some ⟨t.pt, 0, none⟩)) ∧ VerC w' pv bm ep rs' ∧ mget rs' s = some t ∧
      Touch [bm] w w' ∧ (∀ i ∈ blocks pv bm rs', i ∈ blocks pv bm rs ∨ w.heap.size ≤ i) ∧ SameT rs rs' ∧ Small rs' (n + 1) ∧ t.dirty.length ≤ n := by
  cases hm : mget rs s with
  | some t =>
    refine (at_has h s hs hm).mono ?_
    rintro e w' ⟨rfl, rfl⟩
    exact ⟨rs, t, rfl, h, hm, Touch.refl _ _, fun i hi => .inl hi, SameT.refl _, sm.mono (by omega), sm.dirty _ (mget_mem hm)⟩
  | none =>
    have h2 := sm.len
    refine (at_new h s hs hm (by simp [maxLen]; omega)).mono ?_
    rintro e w' ⟨t, rfl, h', t1, t2, t3, t4, t5⟩
    refine ⟨_, t, rfl, h', mget_append_new hm t, t5, fun i hi => ?_, ⟨fun s' => ?_, fun s' c => ?_⟩, ⟨by simp; exact h2, fun r hr => ?_, fun r hr => ?_⟩, by simp [t2]⟩
    · unfold blocks at hi ⊢
      rw [tabBlocks_append] at hi
      simp only [List.mem_cons, List.mem_append, List.not_mem_nil, or_false] at hi ⊢
      rcases hi with hi | hi | hi | hi | hi
      · exact .inl (.inl hi)
      · exact .inl (.inr (.inl hi))
      · exact .inl (.inr (.inr hi))
      · exact .inr (by omega)
      · exact .inr (by omega)
    · unfold numOf
      rw [mget_append hm]
      by_cases e : s = s'
      · subst e; rw [if_pos rfl, hm]; simp [t1]
      · rw [if_neg e]
    · unfold dirtyOf
      rw [mget_append hm]
      by_cases e : s = s'
      · subst e; rw [if_pos rfl, hm]; simp [t2, mget]
      · rw [if_neg e]
    · rcases List.mem_append.1 hr with hr | hr
      · have := sm.num r hr; omega
      · simp only [List.mem_singleton] at hr; subst hr; simp only [t1]; omega
    · rcases List.mem_append.1 hr with hr | hr
      · have := sm.dirty r hr; omega
      · simp only [List.mem_singleton] at hr; subst hr; simp [t2]

theorem numOf_put {rs : List (ByteArray × Tab)} {s : ByteArray} {t' : Tab} (s' : ByteArray) : numOf (mput rs s t') s' = if s = s' then t'.num else numOf rs s' := by
  unfold numOf
  rw [mget_mput]
  by_cases e : s = s'
  · rw [if_pos e, if_pos e]; rfl
  · rw [if_neg e, if_neg e]
theorem dirtyOf_put {rs : List (ByteArray × Tab)} {s : ByteArray} {t' : Tab} (s' : ByteArray) (c : Int) : dirtyOf (mput rs s t') s' c = if s = s' then (mget t'.dirty c).isSome else dirtyOf rs s' c := by
  unfold dirtyOf
  rw [mget_mput]
  by_cases e : s = s'
  · rw [if_pos e, if_pos e]; rfl
  · rw [if_neg e, if_neg e]
/-- A table's number is written. -/
theorem VerC.store {w : World} {pv bm : Nat} {ep : Int} {rs : List (ByteArray × Tab)} {s : ByteArray} {t : Tab} (h : VerC w pv bm ep rs) (hm : mget rs s = some t) (x : Int) : VerC (w.setCell ⟨t.pt, 0, none⟩ (.int .i64 x)) pv bm ep (mput rs s { t with num := x }) := by
  have ht := h.tabs _ (mget_mem hm)
  have ha := h.apart hm
  refine h.turn hm rfl rfl ((Touch.refl _ _).setCell _ (by simp)) ⟨?_, ht.map.of_block (((Touch.refl [t.pt] w).setCell (a := ⟨t.pt, 0, none⟩) (.int .i64 x) (by simp)).block _ ht.lt.2 (by simpa using ha.2.2.2.2.2.symm))⟩
  exact block_set ht.cells _
theorem blocks_put {rs : List (ByteArray × Tab)} {s : ByteArray} {t t' : Tab} {pv bm : Nat} (hm : mget rs s = some t) (h1 : t'.pt = t.pt) (h2 : t'.bd = t.bd) : blocks pv bm (mput rs s t') = blocks pv bm rs := by
  unfold blocks; rw [tabBlocks_mput h1 h2 hm]

/-- Is a text one of some; how often. -/
def hasB (l : List ByteArray) (s : ByteArray) : Bool := l.any fun x => decide (x = s)
def cntB (l : List ByteArray) (s : ByteArray) : Nat := (l.filter fun x => decide (x = s)).length
theorem hasB_iff {l : List ByteArray} {s : ByteArray} : hasB l s = true ↔ s ∈ l := by simp [hasB]
theorem hasB_append (l l' : List ByteArray) (s : ByteArray) : hasB (l ++ l') s = (hasB l s || hasB l' s) := by simp [hasB]
theorem hasB_one (x s : ByteArray) : hasB [x] s = decide (x = s) := by simp [hasB]
theorem cntB_append (l l' : List ByteArray) (s : ByteArray) : cntB (l ++ l') s = cntB l s + cntB l' s := by simp [cntB]
theorem cntB_pos {l : List ByteArray} {s : ByteArray} (h : hasB l s = true) : 1 ≤ cntB l s := by
  obtain ⟨x, hx, he⟩ := List.any_eq_true.1 h
  exact List.length_pos_of_mem (List.mem_filter.2 ⟨hx, he⟩)
theorem cntB_zero {l : List ByteArray} {s : ByteArray} (h : hasB l s = false) : cntB l s = 0 := by
  unfold cntB
  rw [List.length_eq_zero_iff, List.filter_eq_nil_iff]
  intro x hx he
  have := List.any_eq_false.1 h x hx
  exact this he
theorem cntB_le (l : List ByteArray) (s : ByteArray) : cntB l s ≤ l.length := List.length_filter_le _ _

/-- While the names are bumped: k of them are done. -/
structure BumpK (w wr : World) (pv bm bh : Nat) (ep : Int) (rs0 : List (ByteArray × Tab)) (n : Nat) (l : List ByteArray) (k : Nat) (rs : List (ByteArray × Tab)) (hl : List (ByteArray × Value)) : Prop where
  ver : VerC wr pv bm ep rs
  had : MapT wr bh strV goodS hl
  hlen : hl.length ≤ k
  hget : ∀ s, mget hl s = if hasB (l.take k) s then some (Value.int .i64 (cntB (l.take k) s)) else none
  num : ∀ s, numOf rs s = numOf rs0 s + if hasB (l.take k) s then 1 else 0
  dirty : ∀ s c, dirtyOf rs s c = dirtyOf rs0 s c
  small : Small rs (n + k)
  new : ∀ i ∈ blocks pv bm rs, i ∈ blocks pv bm rs0 ∨ w.heap.size ≤ i
  bh1 : w.heap.size ≤ bh
  bh2 : bh ∉ blocks pv bm rs
  touch : Touch (blocks pv bm rs0) w wr

theorem take_succ' {α : Type} [Inhabited α] (l : List α) (k : Nat) (hk : k < l.length) (d : α) : l.take (k + 1) = l.take k ++ [l.getD k d] := by
  rw [List.take_succ_eq_append_getElem hk]
  simp [List.getD_eq_getElem?_getD, List.getElem?_eq_getElem hk]
theorem had_next {l : List ByteArray} {k : Nat} {hl : List (ByteArray × Value)} {s : ByteArray} (hs : l.take (k + 1) = l.take k ++ [s]) (h : ∀ s, mget hl s = if hasB (l.take k) s then some (Value.int .i64 (cntB (l.take k) s)) else none) :
    ∀ s', mget (mput hl s (Value.int .i64 ((cntB (l.take k) s : Nat) + 1))) s' = if hasB (l.take (k + 1)) s' then some (Value.int .i64 (cntB (l.take (k + 1)) s')) else none := by
  intro s'
  rw [mget_mput, hs, hasB_append, hasB_one, cntB_append]
  by_cases e : s = s'
  · subst e
    simp [cntB]
  · rw [if_neg e, h]
    simp [e, cntB]
end Go.Proofs.Ytjmgookpmngmaac
