/- flight's functions, the small ones: what each comes to. -/
import Derived.Test.YtjmgookpmngmaabFlRep
namespace Go.Proofs.Ytjmgookpmngmaab
open Go Go.RowKit Go.Maps

theorem neqNil (bf : Nat) (W : World) : (binOp .neq 61 (.map (some bf)) (.map none)).run Try.prog W = .ok (.bool true) W :=
  run_neq_map_nil W 61 28 37 (some bf) Try.underlying61
theorem neqNil' (W : World) : (binOp .neq 61 (.map none) (.map none)).run Try.prog W = .ok (.bool false) W :=
  run_neq_map_nil W 61 28 37 none Try.underlying61
theorem there_cell {w : World} {pb bf : Nat} (c0 : w.cell? ⟨pb, 0, none⟩ = some (.map (some bf))) :
    Calls Try.prog 25 #[.pointer (some ⟨pb, 0, none⟩)] w fun e w' => e = .returned (.bool true) ∧ w = w' := by
  have e1 := neqNil bf
  go_enter Try.func25, Try.ntmps25
  go_wp2
  go_ret
  exact ⟨rfl, rfl⟩
theorem there_zero {w : World} {pb : Nat} (c0 : w.cell? ⟨pb, 0, none⟩ = some (.map none)) :
    Calls Try.prog 25 #[.pointer (some ⟨pb, 0, none⟩)] w fun e w' => e = .returned (.bool false) ∧ w = w' := by
  have e1 := neqNil'
  go_enter Try.func25, Try.ntmps25
  go_wp2
  go_ret
  exact ⟨rfl, rfl⟩
theorem there_nil (w : World) :
    Calls Try.prog 25 #[.pointer none] w fun e w' => e = .returned (.bool false) ∧ w = w' := by
  go_enter Try.func25, Try.ntmps25
  go_wp2
  go_ret
  exact ⟨rfl, rfl⟩
theorem New_any (w : World) : Calls Try.prog 8 #[] w fun e w' => ∃ pb F, e = .returned (.pointer (some ⟨pb, 0, none⟩)) ∧ BoardR w' pb F ⟨[], []⟩ ∧ Touch [] w w' ∧ ∀ i ∈ F, w.heap.size ≤ i := by
  have hmm := @run_makeMap Try.prog
  go_enter Try.func8, Try.ntmps8
  go_wp2
  go_ret
  have s1 : ((w.alloc (Obj.map #[] 0)).alloc (Obj.map #[] 0)).heap.size = w.heap.size + 1 + 1 := by simp
  have b1 := (MapT.made (enc := keyV) (good := goodK) w)
  have b2 := (MapT.made (enc := intV) (good := goodI) (w.alloc (Obj.map #[] 0)))
  refine ⟨w.heap.size + 1 + 1, [w.heap.size + 1 + 1, w.heap.size, w.heap.size + 1], rfl, ⟨w.heap.size, w.heap.size + 1, [], ?_, ?_, ?_, rfl, by simp, rfl, by simp; omega⟩, (((Touch.refl _ _).alloc _).alloc _).alloc _, by simp; omega⟩
  · have := heap_alloc_new ((w.alloc (Obj.map #[] 0)).alloc (Obj.map #[] 0)) (.cells #[.map (some w.heap.size), .map (some (w.heap.size + 1))] 64)
    rw [s1] at this
    exact this
  · refine (b1.of_block (RowKit.Below.heap_alloc _ _ _ b1.lt)).of_block (RowKit.Below.heap_alloc _ _ _ ?_)
    simp; omega
  · have b3 : MapT ((w.alloc (Obj.map #[] 0)).alloc (Obj.map #[] 0)) (w.heap.size + 1) intV goodI [] := by simpa using b2
    exact b3.of_block (RowKit.Below.heap_alloc _ _ _ b3.lt)

theorem own_slice' {w : World} {base n : Nat} {e : TypeId} {size : Nat} {v : Value} {xs : List Value} (h : w.ownsRow base e size v n xs) : ∃ A c, v = .slice A n c := by
  rcases h.2 with ⟨rfl, rfl⟩ | ⟨g, cap, cur, rfl, _⟩
  · exact ⟨none, 0, rfl⟩
  · exact ⟨_, cap, rfl⟩
theorem own_cells {w : World} {base : Nat} {e : TypeId} {v : Value} {x : Value} {xs : List Value} {n : Nat} (h : w.ownsRow base e 1 v (n + 1) (x :: xs)) :
    ∃ g cap, v = .slice (some ⟨g, 0, none⟩) (n + 1) cap ∧ ∀ j u, (x :: xs)[j]? = some u → w.cell? ⟨g, j, none⟩ = some u := by
  have hc := fun g => h.cells (g := g)
  rcases h.2 with ⟨_, h0⟩ | ⟨g, cap, cur, rfl, _⟩
  · omega
  · refine ⟨g, cap, rfl, fun j u hu => ?_⟩
    have hadd : (⟨g, 0, none⟩ : Addr).add j = ⟨g, j, none⟩ := by unfold Addr.add; split <;> simp_all
    have := hc g rfl j u hu
    rwa [hadd] at this
/-- What a client waits for. -/
def BM.waits (M : BM) (c : Int) : Key × Bool := match mget M.cl c with | none => (⟨⟨#[]⟩, ⟨#[]⟩, 0, ⟨#[]⟩⟩, false) | some k => (k, true)
set_option maxHeartbeats 400000 in
theorem Waits_any {w : World} {pb : Nat} {F : List Nat} {M : BM} (h : BoardR w pb F M) (c : Int) (hc : goodI c) :
    Calls Try.prog 13 #[.pointer (some ⟨pb, 0, none⟩), .int .i64 c] w fun e w' => e = .returned (.tuple #[keyV (M.waits c).1, .bool (M.waits c).2]) ∧ Touch [] w w' := by
  obtain ⟨bf, bc, rs, h1, h2, h3, _⟩ := h
  have c0 : w.cell? ⟨pb, 0, none⟩ = some (.map (some bf)) := by rw [cell_of h1]; rfl
  have c1 : w.cell? ⟨pb, 1, none⟩ = some (.map (some bc)) := by rw [cell_of h1]; rfl
  have hpb := heap_lt h1
  have hg : mget (M.cl.map fun c => (c.1, keyV c.2)) c = (mget M.cl c).map keyV := mget_map keyV M.cl c
  have h3' := h3.of_block (w' := w.alloc (.cells #[.string ⟨#[]⟩, .string ⟨#[]⟩, .int .i64 0, .string ⟨#[]⟩] 28)) (RowKit.Below.heap_alloc _ _ _ h3.lt)
  cases hm : mget M.cl c with
  | none =>
    have Hr : Hid (M.waits c = (⟨⟨#[]⟩, ⟨#[]⟩, 0, ⟨#[]⟩⟩, false)) := Lib.hid (by simp [BM.waits, hm])
    have hl := h3'.look_miss encI Try.underlying62 (zeroK _) hc (by rw [hg, hm]; rfl) true
    simp only [if_true, intV] at hl
    clear h1 h2 h3 h3' hg hm
    go_enter Try.func13, Try.ntmps13
    go_wp2_with fail
    refine (there_cell (bf := bf) (((Touch.refl [] _).alloc _).cell c0 (by simp))).mono ?_
    rintro e w1 ⟨rfl, rfl⟩
    go_wp2
    exact bodyPost_ret (v := .tuple #[keyV ⟨⟨#[]⟩, ⟨#[]⟩, 0, ⟨#[]⟩⟩, .bool false]) (by simp [results, Try.results13, go_sem, keyV]) rfl ⟨by rw [Hr.out], ((Touch.refl _ _).alloc _).alloc _⟩
  | some k =>
    have Hr : Hid (M.waits c = (k, true)) := Lib.hid (by simp [BM.waits, hm])
    have hl := h3'.look_hit encI Try.underlying62 hc (by rw [hg, hm]; rfl) true
    simp only [if_true, intV, keyV] at hl
    clear h1 h2 h3 h3' hg hm
    go_enter Try.func13, Try.ntmps13
    go_wp2_with fail
    refine (there_cell (bf := bf) (((Touch.refl [] _).alloc _).cell c0 (by simp))).mono ?_
    rintro e w1 ⟨rfl, rfl⟩
    go_wp2
    exact bodyPost_ret (v := .tuple #[keyV k, .bool true]) (by simp [results, Try.results13, go_sem, keyV]) rfl ⟨by rw [Hr.out], ((Touch.refl _ _).alloc _).alloc _⟩

theorem Open_any {w : World} {pb : Nat} {F : List Nat} {M : BM} (h : BoardR w pb F M) :
    Calls Try.prog 14 #[.pointer (some ⟨pb, 0, none⟩)] w fun e w' => e = .returned (.int .i64 M.fl.length) ∧ w = w' := by
  obtain ⟨bf, bc, rs, h1, h2, h3, h4, _⟩ := h
  have c0 : w.cell? ⟨pb, 0, none⟩ = some (.map (some bf)) := by rw [cell_of h1]; rfl
  have hl := fun ty => h2.len Try.underlying61 ty
  simp only [List.length_map] at hl
  have Hl : Hid (M.fl.length = rs.length) := Lib.hid (by rw [h4]; simp)
  rw [Hl.out]
  clear h1 h2 h3 h4
  go_enter Try.func14, Try.ntmps14
  go_wp2_with fail
  refine (there_cell (bf := bf) c0).mono ?_
  rintro e w1 ⟨rfl, rfl⟩
  go_wp2
  go_ret
  exact ⟨rfl, rfl⟩

/-- A flight's leader. -/
def BM.leader (M : BM) (k : Key) : Int × Bool := match mget M.fl k with | none => (0, false) | some [] => (0, false) | some (c :: _) => (c, true)
set_option maxHeartbeats 400000 in
theorem Leader_any {w : World} {pb : Nat} {F : List Nat} {M : BM} (h : BoardR w pb F M) (k : Key) (hk : goodK k) :
    Calls Try.prog 11 #[.pointer (some ⟨pb, 0, none⟩), .agg #[.string k.db, .string k.role, .int .i64 k.format, .string k.norm]] w fun e w' => e = .returned (.tuple #[.int .i64 (M.leader k).1, .bool (M.leader k).2]) ∧ Touch [] w w' := by
  obtain ⟨bf, bc, rs, h1, h2, h3, h4, h5, _⟩ := h
  have c0 : w.cell? ⟨pb, 0, none⟩ = some (.map (some bf)) := by rw [cell_of h1]; rfl
  have hpb := heap_lt h1
  have hg : mget (rs.map fun r => (r.1, r.2.1)) k = (mget rs k).map (·.1) := mget_map _ rs k
  have hg2 : mget M.fl k = (mget rs k).map (·.2) := by rw [h4]; exact mget_map _ rs k
  have h2' := h2.of_block (w' := w.alloc (.cells #[.string k.db, .string k.role, .int .i64 k.format, .string k.norm] 28)) (RowKit.Below.heap_alloc _ _ _ h2.lt)
  cases hm : mget rs k with
  | none =>
    have Hr : Hid (M.leader k = (0, false)) := Lib.hid (by simp [BM.leader, hg2, hm])
    have hl := fun nq => (h2'.of_block (w' := (w.alloc (.cells #[.string k.db, .string k.role, .int .i64 k.format, .string k.norm] 28)).drewN nq) rfl).look_miss encK Try.underlying61 (zeroL _) hk (by rw [hg, hm]; rfl) false
    simp only [keyV] at hl
    clear h1 h2 h2' h3 h4 h5 hg hg2 hm
    go_enter Try.func11, Try.ntmps11
    go_wp2
    go_quiet ((go_at_call 25; refine Calls.quiet_of_same ((there_cell (bf := bf) ((((Touch.refl [] _).alloc _).drewN _).cell c0 (by simp))).mono fun _ _ hh => ⟨hh.1, hh.2.symm⟩)))
    go_wp2
    go_ret2
    exact ⟨by rw [Hr.out]; rfl, ((Touch.refl _ _).alloc _).drewN _⟩
  | some r =>
    obtain ⟨v, l⟩ := r
    have hown : w.ownsRow 0 3 1 v l.length (intsV l) := h5 (k, (v, l)) (mget_mem hm)
    have hl := fun nq => (h2'.of_block (w' := (w.alloc (.cells #[.string k.db, .string k.role, .int .i64 k.format, .string k.norm] 28)).drewN nq) rfl).look_hit encK Try.underlying61 hk (by rw [hg, hm]; rfl) false
    simp only [keyV] at hl
    cases l with
    | nil =>
      have Hr : Hid (M.leader k = (0, false)) := Lib.hid (by simp [BM.leader, hg2, hm])
      obtain ⟨A, c, rfl⟩ := own_slice' hown
      simp only [List.length_nil, Bool.false_eq_true, if_false] at hl
      clear h1 h2 h2' h3 h4 h5 hg hg2 hm hown
      go_enter Try.func11, Try.ntmps11
      go_wp2
      go_quiet ((go_at_call 25; refine Calls.quiet_of_same ((there_cell (bf := bf) ((((Touch.refl [] _).alloc _).drewN _).cell c0 (by simp))).mono fun _ _ hh => ⟨hh.1, hh.2.symm⟩)))
      go_wp2
      go_ret2
      exact ⟨by rw [Hr.out]; rfl, ((Touch.refl _ _).alloc _).drewN _⟩
    | cons c l =>
      have Hr : Hid (M.leader k = (c, true)) := Lib.hid (by simp [BM.leader, hg2, hm])
      obtain ⟨g, cap, rfl, hc1⟩ := own_cells hown
      have hg0 : w.cell? ⟨g, 0, none⟩ = some (.int .i64 c) := hc1 0 _ rfl
      have hgl := World.block_lt_of_cell? w _ hg0
      simp only [Bool.false_eq_true, if_false] at hl
      have hlen : ((l.length : Int) + 1 == 0) = false := by rw [beq_eq_false_iff_ne]; omega
      clear h1 h2 h2' h3 h4 h5 hg hg2 hm hown hc1
      go_enter Try.func11, Try.ntmps11
      go_wp2
      go_quiet ((go_at_call 25; refine Calls.quiet_of_same ((there_cell (bf := bf) ((((Touch.refl [] _).alloc _).drewN _).cell c0 (by simp))).mono fun _ _ hh => ⟨hh.1, hh.2.symm⟩)))
      go_wp2
      go_quiet (fail)
      go_wp2
      go_ret2
      exact ⟨by rw [Hr.out]; rfl, by first | exact ((Touch.refl _ _).alloc _).drewN _ | exact (((Touch.refl _ _).alloc _).drewN _).drewN _⟩
end Go.Proofs.Ytjmgookpmngmaab
