/- short, Ints, and what must come of fixed calls. -/
import Derived.Test.YtjmgookpmngmaabFlOk
import Derived.Laws.StructEq
namespace Go.Proofs.Ytjmgookpmngmaab
open Go Go.RowKit Go.Maps

structure SzK (k : Key) : Prop where
  db : k.db.size ≤ 140737488351232
  role : k.role.size ≤ 140737488351232
  norm : k.norm.size ≤ 140737488351232
  fm : (Lit.int .i64 k.format).wf = true
theorem SzK.good {k : Key} (h : SzK k) : goodK k := ⟨Nat.le_trans h.db (by decide), Nat.le_trans h.role (by decide), h.fm, Nat.le_trans h.norm (by decide)⟩

def shortK (k : Key) : Bool := decide (k.db.size + k.role.size + k.norm.size ≤ 300)

theorem short_any (w : World) (k : Key) (hk : SzK k) :
    Calls Try.prog 10 #[.agg #[.string k.db, .string k.role, .int .i64 k.format, .string k.norm]] w fun e w' => e = .returned (.bool (shortK k)) ∧ Touch [] w w' := by
  obtain ⟨h1, h2, h3, _⟩ := hk
  go_enter Try.func10, Try.ntmps10
  go_wp2
  go_ret
  exact ⟨by unfold shortK; simp; omega, ((Touch.refl _ _).alloc _)⟩

/-- A slice of whole numbers, to be read. -/
def RowI (w : World) (A : Option Addr) (n : Nat) (l : List Int) : Prop := n = l.length ∧ ((A = none ∧ n = 0) ∨ ∃ g o, A = some ⟨g, o, none⟩ ∧ ∀ j, j < n → w.cell? ⟨g, o + j, none⟩ = some (.int .i64 (l.getD j 0)))
theorem RowI.of_own {w : World} {B n cp : Nat} {A : Option Addr} {l : List Int} (h : w.ownsRow B 3 1 (.slice A n cp) n (intsV l)) (hl : n = l.length) : RowI w A n l := by
  refine ⟨hl, ?_⟩
  cases l with
  | nil =>
    simp at hl; subst hl
    rcases h.2 with ⟨e, _⟩ | ⟨g, cap, cur, e, _⟩
    · cases e; exact .inl ⟨rfl, rfl⟩
    · cases e; exact .inr ⟨g, 0, rfl, fun j hj => absurd hj (by omega)⟩
  | cons x l =>
    simp at hl; subst hl
    obtain ⟨g, cap, e, hc⟩ := own_cells (xs := intsV l) (x := .int .i64 x) h
    cases e
    refine .inr ⟨g, 0, rfl, fun j hj => ?_⟩
    rw [Nat.zero_add]
    refine hc j _ ?_
    have : (x :: l)[j]? = some ((x :: l).getD j 0) := by simp [List.getD_eq_getElem?_getD, List.getElem?_eq_getElem (show j < (x :: l).length by simpa using hj)]
    show (intsV (x :: l))[j]? = _
    simp only [intsV, List.getElem?_map, this, Option.map_some]

theorem ints_ne {l l' : List Int} {j : Nat} (h : l.getD j 0 ≠ l'.getD j 0) : l ≠ l' := fun e => h (by rw [e])
theorem ints_eq {l l' : List Int} (hl : l.length = l'.length) (h : ∀ j, j < l.length → l.getD j 0 = l'.getD j 0) : l = l' := by
  refine List.ext_getElem hl fun j h1 h2 => ?_
  have := h j h1
  simpa [List.getD_eq_getElem?_getD, List.getElem?_eq_getElem h1, List.getElem?_eq_getElem h2] using this

set_option maxHeartbeats 800000 in
theorem Ints_any {w : World} {A : Option Addr} {n cp : Nat} {l : List Int} (h : RowI w A n l) {A' : Option Addr} {n' cp' : Nat} {l' : List Int} (h' : RowI w A' n' l') (hn : n < 1000000) (hn' : n' < 1000000) :
    Calls Try.prog 20 #[.slice A n cp, .slice A' n' cp'] w fun e w' => e = .returned (.bool (decide (l = l'))) ∧ Touch [] w w' := by
  obtain ⟨e1, h⟩ := h
  obtain ⟨e2, h'⟩ := h'
  have E := Lib.hid (And.intro e1 e2)
  by_cases hne : n = n'
  · subst hne
    have hz : ((n : Int) != (n : Int)) = false := by simp
    have hll : Hid (l.length = l'.length) := Lib.hid (e1.symm.trans e2)
    have H := Lib.hid h
    have H' := Lib.hid h'
    clear h h' e1 e2
    go_enter Try.func20, Try.ntmps20
    go_wp2
    go_loopw [5] (fun i wr => ∃ j : Nat, j ≤ n ∧ i = .int .i64 j ∧ Hid (∀ q, q < j → l.getD q 0 = l'.getD q 0) ∧ Touch [] w wr) (fun i _ => n - (intOf i).toNat)
    case atStart => exact ⟨0, Nat.zero_le _, rfl, Lib.hid (fun q hq => absurd hq (by omega)), Touch.refl _ _⟩
    case round =>
      obtain ⟨j, hj, rfl, hq, hT⟩ := hrel
      by_cases hlt : j < n
      · obtain ⟨g, o, rfl, hg⟩ : ∃ g o, A = some ⟨g, o, none⟩ ∧ ∀ j, j < n → w.cell? ⟨g, o + j, none⟩ = some (.int .i64 (l.getD j 0)) := by
          rcases H.out with ⟨_, h⟩ | h
          · omega
          · exact h
        obtain ⟨g', o', rfl, hg'⟩ : ∃ g o, A' = some ⟨g, o, none⟩ ∧ ∀ j, j < n → w.cell? ⟨g, o + j, none⟩ = some (.int .i64 (l'.getD j 0)) := by
          rcases H'.out with ⟨_, h⟩ | h
          · omega
          · exact h
        have c1 := hT.cell (hg j hlt) (by simp)
        have c2 := hT.cell (hg' j hlt) (by simp)
        clear hg hg'
        generalize hx : l.getD j 0 = x at c1
        generalize hy : l'.getD j 0 = y at c2
        have Hx := Lib.hid hx; have Hy := Lib.hid hy
        clear hx hy
        by_cases hxy : x = y
        · have hb : (x != y) = false := by simp [hxy]
          go_wp2_with fail
          go_quiet (fail)
          go_wp2
          go_roundw
          case rel => exact ⟨j + 1, by omega, by go_num, Lib.hid (fun q hq' => by
            by_cases h : q < j
            · exact hq.out q h
            · have : q = j := by omega
              subst this
              rw [Hx.out, Hy.out, hxy]), hT.drewN _⟩
          case measure => simp [intOf]; omega
        · have hb : (x != y) = true := by simp [hxy]
          have Hn := Lib.hid (ints_ne (l := l) (l' := l') (j := j) (by rw [Hx.out, Hy.out]; exact hxy))
          go_wp2_with fail
          go_quiet (fail)
          go_wp2
          go_ret
          exact ⟨by rw [decide_eq_false Hn.out]; rfl, hT.drewN _⟩
      · have hjn : j = n := by omega
        subst hjn
        have He := Lib.hid (ints_eq hll.out (fun q hq' => hq.out q (by rw [E.out.1]; exact hq')))
        go_wp2_with fail
        go_wp2
        go_ret
        exact ⟨by rw [decide_eq_true He.out]; rfl, hT⟩
  · have hz : ((n : Int) != (n' : Int)) = true := by simp; omega
    clear h h' e1 e2
    go_enter Try.func20, Try.ntmps20
    go_wp2
    go_ret
    exact ⟨by have : l ≠ l' := fun e => hne (by rw [E.out.1, E.out.2, e]); simp [this], Touch.refl _ _⟩

section
variable (k : Key)
theorem kn1 : (BM.mk [] []).ask k 1 = (true, 0, ⟨[(k, [1])], [(1, k)]⟩) := by simp [BM.ask, mget, mput]
theorem kn2 : (BM.mk [(k, [1])] [(1, k)]).ask k 2 = (false, 0, ⟨[(k, [1, 2])], [(1, k), (2, k)]⟩) := by simp [BM.ask, mget, mput]
theorem kn3 (k' : Key) : (BM.mk [(k, [1, 2])] [(1, k), (2, k)]).ask k' 2 = (false, 10, ⟨[(k, [1, 2])], [(1, k), (2, k)]⟩) := by simp [BM.ask, mget]
theorem kn4 : (BM.mk [(k, [1, 2])] [(1, k), (2, k)]).ask k (-1) = (false, 1, ⟨[(k, [1, 2])], [(1, k), (2, k)]⟩) := by simp [BM.ask]
theorem kn5 : (BM.mk [(k, [1, 2])] [(1, k), (2, k)]).ask k 3 = (false, 0, ⟨[(k, [1, 2, 3])], [(1, k), (2, k), (3, k)]⟩) := by simp [BM.ask, mget, mput]
theorem kn6 : (BM.mk [(k, [1, 2, 3])] [(1, k), (2, k), (3, k)]).leave 2 = ([], true, ⟨[(k, [1, 3])], [(1, k), (3, k)]⟩) := by simp [BM.leave, mget, mput, mdel, List.filter]
theorem kn7 : (BM.mk [(k, [1, 3])] [(1, k), (3, k)]).leader k = (1, true) := by simp [BM.leader, mget]
theorem kn8 : (BM.mk [(k, [1, 3])] [(1, k), (3, k)]).waits 3 = (k, true) := by simp [BM.waits, mget]
theorem kn9 : (BM.mk [(k, [1, 3])] [(1, k), (3, k)]).land k = (1, [3], true, ⟨[], []⟩) := by simp [BM.land, mget, mdel, dropAll, List.filter]
theorem kn10 : (BM.mk [] []).land k = (0, [], false, ⟨[], []⟩) := by simp [BM.land, mget]
end
def qk : Key := ⟨⟨#[]⟩, ⟨#[]⟩, 0, ⟨#[113]⟩⟩
def zk : Key := ⟨⟨#[]⟩, ⟨#[]⟩, 0, ⟨#[]⟩⟩
instance (c : Int) : Decidable (goodI c) := inferInstanceAs (Decidable (_ = true))
theorem qk_good : goodK qk := ⟨by decide, by decide, by decide, by decide⟩
theorem zk_good : goodK zk := ⟨by decide, by decide, by decide, by decide⟩

set_option maxRecDepth 8000 in
set_option maxHeartbeats 4000000 in
theorem known_any (w : World) : Calls Try.prog 9 #[] w fun e w' => e = .returned (.bool true) ∧ Below w.heap.size w w' := by
  go_enter Try.func9, Try.ntmps9
  go_wp2_with fail
  refine (NewB w).mono ?_
  rintro e w1 ⟨pb, rfl, b1, t1⟩
  go_wp2_with fail
  have bb := b1.box (.cells #[.string qk.db, .string qk.role, .int .i64 qk.format, .string qk.norm] 28)
  have e0 : (boxK w1 qk).heap[w1.heap.size]? = some (.cells #[.string qk.db, .string qk.role, .int .i64 qk.format, .string qk.norm] 28 (0, 0)) := heap_alloc_new w1 _
  have t2 : Below w.heap.size w (boxK w1 qk) := (t1.alloc _).below0 (Nat.le_refl _)
  unfold boxK at e0 t2
  simp only [qk] at e0 t2 bb
  generalize hkb : w1.heap.size = kb at e0 bb ⊢
  generalize w1.alloc (.cells #[.string ⟨#[]⟩, .string ⟨#[]⟩, .int .i64 0, .string ⟨#[113]⟩] 28) = W at e0 t2 bb ⊢
  have k0 : W.cell? ⟨kb, 0, none⟩ = some (.string ⟨#[]⟩) := by rw [cell_of e0]; rfl
  have k1 : W.cell? ⟨kb, 1, none⟩ = some (.string ⟨#[]⟩) := by rw [cell_of e0]; rfl
  have k2 : W.cell? ⟨kb, 2, none⟩ = some (.int .i64 0) := by rw [cell_of e0]; rfl
  have k3 : W.cell? ⟨kb, 3, none⟩ = some (.string ⟨#[113]⟩) := by rw [cell_of e0]; rfl
  clear e0 hkb
  have hm : kb ∈ [kb] := by simp
  refine (AskB bb (by decide) qk qk_good 1 (by decide)).mono ?_
  rintro e w2 ⟨he, b2, z2⟩
  rw [kn1] at he b2; subst he
  have k0 := z2.cell k0 hm; have k1 := z2.cell k1 hm; have k2 := z2.cell k2 hm; have k3 := z2.cell k3 hm
  go_wp2_with fail
  refine (AskB b2 (by decide) qk qk_good 2 (by decide)).mono ?_
  rintro e w3 ⟨he, b3, z3⟩
  rw [kn2] at he b3; subst he
  have k0 := z3.cell k0 hm; have k1 := z3.cell k1 hm; have k2 := z3.cell k2 hm; have k3 := z3.cell k3 hm
  go_wp2_with fail
  refine (AskB b3 (by decide) zk zk_good 2 (by decide)).mono ?_
  rintro e w4 ⟨he, b4, z4⟩
  rw [kn3] at he b4; subst he
  have k0 := z4.cell k0 hm; have k1 := z4.cell k1 hm; have k2 := z4.cell k2 hm; have k3 := z4.cell k3 hm
  go_wp2_with fail
  refine (AskB b4 (by decide) qk qk_good (-1) (by decide)).mono ?_
  rintro e w5 ⟨he, b5, z5⟩
  rw [kn4] at he b5; subst he
  have k0 := z5.cell k0 hm; have k1 := z5.cell k1 hm; have k2 := z5.cell k2 hm; have k3 := z5.cell k3 hm
  go_wp2_with fail
  refine (AskB b5 (by decide) qk qk_good 3 (by decide)).mono ?_
  rintro e w6 ⟨he, b6, z6⟩
  rw [kn5] at he b6; subst he
  have k0 := z6.cell k0 hm; have k1 := z6.cell k1 hm; have k2 := z6.cell k2 hm; have k3 := z6.cell k3 hm
  go_wp2_with fail
  refine (LeaveB b6 (by decide) 2 (by decide)).mono ?_
  rintro e w7 ⟨A, cp, he, b7, _, z7⟩
  rw [kn6] at he b7; subst he
  replace b7 := b7.rest (ks' := [kb]) (by simp)
  have k0 := z7.cell k0 hm; have k1 := z7.cell k1 hm; have k2 := z7.cell k2 hm; have k3 := z7.cell k3 hm
  go_wp2_with fail
  refine (LeaderB b7 qk qk_good).mono ?_
  rintro e w8 ⟨he, b8, y8⟩
  have z8 := b7.keeps y8
  rw [kn7] at he; subst he
  have k0 := z8.cell k0 hm; have k1 := z8.cell k1 hm; have k2 := z8.cell k2 hm; have k3 := z8.cell k3 hm
  go_wp2_with fail
  refine (WaitsB b8 3 (by decide)).mono ?_
  rintro e w9 ⟨he, b9, y9⟩
  have z9 := b8.keeps y9
  rw [kn8] at he; subst he
  have k0 := z9.cell k0 hm; have k1 := z9.cell k1 hm; have k2 := z9.cell k2 hm; have k3 := z9.cell k3 hm
  simp only [keyV, qk]
  have hlt : kb < w9.heap.size := b9.2.2.2 kb hm
  go_wp2_with fail
  have b9' := b9.box (.cells #[.string ⟨#[]⟩, .string ⟨#[]⟩, .int .i64 0, .string ⟨#[113]⟩] 28)
  have e0 : (w9.alloc (.cells #[.string ⟨#[]⟩, .string ⟨#[]⟩, .int .i64 0, .string ⟨#[113]⟩] 28)).heap[w9.heap.size]? = some (.cells #[.string ⟨#[]⟩, .string ⟨#[]⟩, .int .i64 0, .string ⟨#[113]⟩] 28 (0, 0)) := heap_alloc_new w9 _
  have t9 : Below w.heap.size w (w9.alloc (.cells #[.string ⟨#[]⟩, .string ⟨#[]⟩, .int .i64 0, .string ⟨#[113]⟩] 28)) :=
    ((((((((t2.trans z2.1).trans z3.1).trans z4.1).trans z5.1).trans z6.1).trans z7.1).trans z8.1).trans z9.1).alloc b9.2.2.1 _
  have c9 : ∀ {a : Addr} {v : Value}, w9.cell? a = some v → (w9.alloc (.cells #[.string ⟨#[]⟩, .string ⟨#[]⟩, .int .i64 0, .string ⟨#[113]⟩] 28)).cell? a = some v := fun h => ((Touch.refl [] _).alloc _).cell h (by simp)
  have k0 := c9 k0; have k1 := c9 k1; have k2 := c9 k2; have k3 := c9 k3
  generalize hkq : w9.heap.size = kq at e0 b9' hlt ⊢
  generalize w9.alloc (.cells #[.string ⟨#[]⟩, .string ⟨#[]⟩, .int .i64 0, .string ⟨#[113]⟩] 28) = V at e0 t9 b9' k0 k1 k2 k3 ⊢
  have q0 : V.cell? ⟨kq, 0, none⟩ = some (.string ⟨#[]⟩) := by rw [cell_of e0]; rfl
  have q1 : V.cell? ⟨kq, 1, none⟩ = some (.string ⟨#[]⟩) := by rw [cell_of e0]; rfl
  have q2 : V.cell? ⟨kq, 2, none⟩ = some (.int .i64 0) := by rw [cell_of e0]; rfl
  have q3 : V.cell? ⟨kq, 3, none⟩ = some (.string ⟨#[113]⟩) := by rw [cell_of e0]; rfl
  clear e0 hkq c9
  have hm : kb ∈ [kq, kb] := by simp
  have hm2 : kq ∈ [kq, kb] := by simp
  refine (LandB b9' (by decide) qk qk_good).mono ?_
  rintro e w10 ⟨A10, cp10, he, b10, r10, z10⟩
  rw [kn9] at he b10 r10; subst he
  have k0 := z10.cell k0 hm
  have k1 := z10.cell k1 hm
  have k2 := z10.cell k2 hm
  have k3 := z10.cell k3 hm
  have q0 := z10.cell q0 hm2
  have q1 := z10.cell q1 hm2
  have q2 := z10.cell q2 hm2
  have q3 := z10.cell q3 hm2
  go_wp2_with fail
  refine (LandB b10 (by decide) qk qk_good).mono ?_
  rintro e w11 ⟨A11, cp11, he, b11, _, z11⟩
  rw [kn10] at he b11; subst he
  have r11 : w11.ownsRow 0 3 1 (.slice A10 1 cp10) 1 (intsV [3]) := own_kept r10.1 z11 (fun i hi => by
    rw [List.mem_append, Option.mem_toList]; exact .inl hi)
  replace b11 := b11.rest (ks' := [kq, kb]) (by intro k hk; simp only [List.mem_append]; exact .inr (.inr hk))
  replace z11 : Kept w.heap.size [kq, kb] w10 w11 := ⟨z11.1, fun k hk => z11.2 k (List.mem_append_right _ hk)⟩
  have k0 := z11.cell k0 hm
  have k1 := z11.cell k1 hm
  have k2 := z11.cell k2 hm
  have k3 := z11.cell k3 hm
  have q0 := z11.cell q0 hm2
  have q1 := z11.cell q1 hm2
  have q2 := z11.cell q2 hm2
  have q3 := z11.cell q3 hm2
  go_wp2_with fail
  have t12 : Touch [] w11 (w11.alloc (.cells #[.int .i64 3] 3)) := (Touch.refl _ _).alloc _
  have r12 := own_touch r11 t12 (by simp)
  have b12 := b11.kept t12
  have hk1 := b11.2.2.2 kb (by simp)
  have hk2 := b11.2.2.2 kq (by simp)
  have e12 : (w11.alloc (.cells #[.int .i64 3] 3)).heap[w11.heap.size]? = some (.cells #[.int .i64 3] 3 (0, 0)) := heap_alloc_new w11 _
  have c12 : ∀ {a : Addr} {v : Value}, w11.cell? a = some v → (w11.alloc (.cells #[.int .i64 3] 3)).cell? a = some v := fun h => t12.cell h (by simp)
  have k0 := c12 k0; have k1 := c12 k1; have k2 := c12 k2; have k3 := c12 k3
  have q0 := c12 q0; have q1 := c12 q1; have q2 := c12 q2; have q3 := c12 q3
  have hI : RowI (w11.alloc (.cells #[.int .i64 3] 3)) (some ⟨w11.heap.size, 0, none⟩) 1 [3] := ⟨rfl, .inr ⟨_, 0, rfl, fun j hj => by
    obtain rfl : j = 0 := by omega
    rw [cell_of e12]; rfl⟩⟩
  have y12 : Below w.heap.size w (w11.alloc (.cells #[.int .i64 3] 3)) := ((t9.trans z10.1).trans z11.1).trans (t12.below0 b11.2.2.1)
  generalize w11.alloc (.cells #[.int .i64 3] 3) = V2 at r12 b12 hI y12 k0 k1 k2 k3 q0 q1 q2 q3 ⊢
  refine (Ints_any (RowI.of_own r12 rfl) hI (by decide) (by decide)).mono ?_
  rintro e w13 ⟨rfl, t13⟩
  have b13 := b12.kept t13
  have y13 := y12.trans (t13.below0 b12.2.2.1)
  have z13 := b12.keeps t13
  have k0 := z13.cell k0 hm
  have k1 := z13.cell k1 hm
  have k2 := z13.cell k2 hm
  have k3 := z13.cell k3 hm
  have q0 := z13.cell q0 hm2
  have q1 := z13.cell q1 hm2
  have q2 := z13.cell q2 hm2
  have q3 := z13.cell q3 hm2
  have hdec : decide (([3] : List Int) = [3]) = true := by decide
  rw [hdec]
  go_wp2_with fail
  refine (OpenB b13).mono ?_
  rintro e w14 ⟨rfl, rfl⟩
  go_wp2
  go_ret
  exact ⟨rfl, y13⟩
end Go.Proofs.Ytjmgookpmngmaab
