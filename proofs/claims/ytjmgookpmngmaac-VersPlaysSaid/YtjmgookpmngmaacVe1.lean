/- vers' functions, the small ones: what each comes to. -/
import Derived.Test.YtjmgookpmngmaacVeRep
namespace Go.Proofs.Ytjmgookpmngmaac
open Go Go.RowKit Go.Maps

theorem neqNilM (b : Nat) (W : World) : (binOp .neq 57 (.map (some b)) (.map none)).run Try.prog W = .ok (.bool true) W :=
  run_neq_map_nil W 57 9 64 (some b) Try.underlying57
theorem neqNilM' (W : World) : (binOp .neq 57 (.map none) (.map none)).run Try.prog W = .ok (.bool false) W :=
  run_neq_map_nil W 57 9 64 none Try.underlying57
theorem zeroP (w : World) : (zeroValue 64).run Try.prog w = .ok (.pointer none) w := by kernel_rfl
theorem zeroI (w : World) : (zeroValue 3).run Try.prog w = .ok (.int .i64 0) w := by kernel_rfl

theorem there_any {w : World} {pv bm : Nat} {ep : Int} {rs : List (ByteArray × Tab)} (h : VerC w pv bm ep rs) :
    Calls Try.prog 30 #[.pointer (some ⟨pv, 0, none⟩)] w fun e w' => e = .returned (.bool true) ∧ w = w' := by
  have c1 := h.c1
  have e1 := neqNilM bm
  go_enter Try.func30, Try.ntmps30
  go_wp2
  go_ret
  exact ⟨rfl, rfl⟩
theorem there_zero {w : World} {pv : Nat} (c1 : w.cell? ⟨pv, 1, none⟩ = some (.map none)) :
    Calls Try.prog 30 #[.pointer (some ⟨pv, 0, none⟩)] w fun e w' => e = .returned (.bool false) ∧ w = w' := by
  have e1 := neqNilM'
  go_enter Try.func30, Try.ntmps30
  go_wp2
  go_ret
  exact ⟨rfl, rfl⟩
theorem there_nil (w : World) :
    Calls Try.prog 30 #[.pointer none] w fun e w' => e = .returned (.bool false) ∧ w = w' := by
  go_enter Try.func30, Try.ntmps30
  go_wp2
  go_ret
  exact ⟨rfl, rfl⟩
theorem New_any (w : World) : Calls Try.prog 8 #[] w fun e w' => ∃ pv bm, e = .returned (.pointer (some ⟨pv, 0, none⟩)) ∧ VerC w' pv bm 0 [] ∧ Touch [] w w' ∧ w.heap.size ≤ pv ∧ w.heap.size ≤ bm := by
  have hmm := @run_makeMap Try.prog
  go_enter Try.func8, Try.ntmps8
  go_wp2
  go_ret
  have b1 := (MapT.made (enc := strV) (good := goodS) w)
  refine ⟨_, w.heap.size, rfl, ⟨?_, b1.of_block (RowKit.Below.heap_alloc _ _ _ b1.lt), by simp, by simp [blocks, tabBlocks]⟩, ((Touch.refl _ _).alloc _).alloc _, by simp, Nat.le_refl _⟩
  have := heap_alloc_new (w.alloc (Obj.map #[] 0)) (.cells #[.int .i64 0, .map (some w.heap.size)] 59)
  simpa using this

theorem at_has {w : World} {pv bm : Nat} {ep : Int} {rs : List (ByteArray × Tab)} (h : VerC w pv bm ep rs) (s : ByteArray) (hs : goodS s) {t : Tab} (hm : mget rs s = some t) :
    Calls Try.prog 31 #[.pointer (some ⟨pv, 0, none⟩), .string s] w fun e w' => e = .returned (.pointer (some ⟨t.pt, 0, none⟩)) ∧ w = w' := by
  have c1 := h.c1
  have hl := h.map.look_hit encS Try.underlying57 hs (v := ptrV t) (by rw [mget_mapN, hm]; rfl) false
  simp only [Bool.false_eq_true, if_false, strV, ptrV] at hl
  clear hm h
  go_enter Try.func31, Try.ntmps31
  go_wp2
  go_ret
  exact ⟨rfl, rfl⟩
theorem mget_append_new {K α : Type} [DecidableEq K] {l : List (K × α)} {x : K} (h : mget l x = none) (v : α) : mget (l ++ [(x, v)]) x = some v := by
  rw [← mput_new (mget_none.1 h), mget_mput]; simp
theorem tabBlocks_append (rs : List (ByteArray × Tab)) (s : ByteArray) (t : Tab) : tabBlocks (rs ++ [(s, t)]) = tabBlocks rs ++ [t.pt, t.bd] := by
  induction rs with
  | nil => rfl
  | cons r rs ih => simp [tabBlocks, ih]
theorem at_new {w : World} {pv bm : Nat} {ep : Int} {rs : List (ByteArray × Tab)} (h : VerC w pv bm ep rs) (s : ByteArray) (hs : goodS s) (hm : mget rs s = none) (hn : rs.length < maxLen) :
    Calls Try.prog 31 #[.pointer (some ⟨pv, 0, none⟩), .string s] w fun e w' => ∃ t : Tab, e = .returned (.pointer (some ⟨t.pt, 0, none⟩)) ∧ VerC w' pv bm ep (rs ++ [(s, t)]) ∧ t.num = 0 ∧ t.dirty = [] ∧ w.heap.size ≤ t.pt ∧ w.heap.size ≤ t.bd ∧ Touch [bm] w w' := by
  have c1 := h.c1
  have hl := h.map.look_miss encS Try.underlying57 (zeroP w) hs (by rw [mget_mapN, hm]; rfl) false
  simp only [Bool.false_eq_true, if_false, strV] at hl
  have hmm := @run_makeMap Try.prog
  have hpv := heap_lt h.cells
  have Hm := Lib.hid hm
  clear hm
  have t1 : Touch [] w ((w.alloc (.map #[] 0)).alloc (.cells #[.int .i64 0, .map (some w.heap.size)] 63)) := ((Touch.refl _ _).alloc _).alloc _
  have h1 := h.kept0 t1
  go_enter Try.func31, Try.ntmps31
  go_wp2_with (at_mapUpdate; go_must (refine wpList_mt_store _ rfl _ _ _ 57 64 rfl encS Try.underlying57 h1.map (by simpa [mapN] using hn) hs rfl rfl (.pointer (some ⟨w.heap.size + 1, 0, none⟩)) rfl ?_); intro w2 hM2 t2)
  go_wp2
  go_ret
  have b1 := MapT.made (enc := intV) (good := goodI) w
  have hnew : ∀ i, w.heap.size ≤ i → i ≠ bm := fun i hi e => by have := h.map.lt; omega
  have hmn : mget (mapN rs) s = none := by rw [mget_mapN, Hm.out]; rfl
  refine ⟨⟨w.heap.size + 1, w.heap.size, 0, []⟩, by simp, ⟨(t2.block pv (by simp; omega) ?_).trans h1.cells, ?_, fun r hr => ?_, ?_⟩, rfl, rfl, by simp, Nat.le_refl _, (t1.mono (by simp)).trans t2 (by simp)⟩
  · have := h.nodup; simp only [blocks, List.nodup_cons, List.mem_cons, not_or] at this; simpa using this.1.1
  · have := hM2.of_eq (mput_new (mget_none.1 hmn))
    refine this.of_eq ?_
    simp [mapN, ptrV]
  · rcases List.mem_append.1 hr with hr | hr
    · have hb : ∀ i ∈ tabBlocks rs, i ≠ bm := fun i hi e => by
        have := h.nodup; simp only [blocks, List.nodup_cons, List.mem_cons, not_or] at this; exact this.2.1 (e ▸ hi)
      exact (h1.tabs r hr).kept t2 (by simpa using hb _ (mem_tabBlocks.2 ⟨r, hr, .inl rfl⟩)) (by simpa using hb _ (mem_tabBlocks.2 ⟨r, hr, .inr rfl⟩))
    · simp only [List.mem_singleton] at hr
      subst hr
      refine ⟨(t2.block _ (by simp) (by simpa using hnew (w.heap.size + 1) (by omega))).trans ?_, (b1.of_block (RowKit.Below.heap_alloc _ _ _ b1.lt)).of_block (t2.block _ (by simp; omega) (by simpa using hnew w.heap.size (Nat.le_refl _)))⟩
      have := heap_alloc_new (w.alloc (Obj.map #[] 0)) (.cells #[.int .i64 0, .map (some w.heap.size)] 63)
      simpa using this
  · have hb := h.nodup
    have hlt := h.lt
    unfold blocks at hb hlt ⊢
    rw [tabBlocks_append, ← List.cons_append, ← List.cons_append]
    refine List.nodup_append.2 ⟨hb, by simp, fun a ha b hb e => ?_⟩
    have := hlt a ha
    simp only [List.mem_cons, List.not_mem_nil, or_false] at hb
    omega

/-! ### what is asked of the tables -/
def numOf (rs : List (ByteArray × Tab)) (s : ByteArray) : Int := ((mget rs s).map (·.num)).getD 0
def dirtyOf (rs : List (ByteArray × Tab)) (s : ByteArray) (c : Int) : Bool := ((mget rs s).bind fun t => mget t.dirty c).isSome

theorem Num_any {w : World} {pv bm : Nat} {ep : Int} {rs : List (ByteArray × Tab)} (h : VerC w pv bm ep rs) (s : ByteArray) (hs : goodS s) :
    Calls Try.prog 19 #[.pointer (some ⟨pv, 0, none⟩), .string s] w fun e w' => e = .returned (.int .i64 (numOf rs s)) ∧ w = w' := by
  have c1 := h.c1
  cases hm : mget rs s with
  | some t =>
    have hl := h.map.look_hit encS Try.underlying57 hs (v := ptrV t) (by rw [mget_mapN, hm]; rfl) false
    simp only [Bool.false_eq_true, if_false, strV, ptrV] at hl
    have d0 := (h.tabs _ (mget_mem hm)).c0
    simp only at d0
    have Hr : Hid (numOf rs s = t.num) := Lib.hid (by simp [numOf, hm])
    clear hm
    go_enter Try.func19, Try.ntmps19
    go_wp2_with fail
    refine (there_any h).mono ?_
    rintro e w1 ⟨rfl, rfl⟩
    go_wp2
    go_ret
    exact ⟨by rw [Hr.out]; rfl, rfl⟩
  | none =>
    have hl := h.map.look_miss encS Try.underlying57 (zeroP w) hs (by rw [mget_mapN, hm]; rfl) false
    simp only [Bool.false_eq_true, if_false, strV] at hl
    have Hr : Hid (numOf rs s = 0) := Lib.hid (by simp [numOf, hm])
    clear hm
    go_enter Try.func19, Try.ntmps19
    go_wp2_with fail
    refine (there_any h).mono ?_
    rintro e w1 ⟨rfl, rfl⟩
    go_wp2
    go_ret
    exact ⟨by rw [Hr.out]; rfl, rfl⟩
end Go.Proofs.Ytjmgookpmngmaac
