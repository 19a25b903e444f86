-- Written by a program of this session's (wip/ext/run.py) over the kit's print, with contracts of its own.
import Derived.Test.YthafopnaecbjdaaPax0
namespace Go.Proofs.Ythafopnaecbjdaa.Pa
open Go Go.RowKit Go.Proofs.YthafopnaecbjdaaW.PrintWords Go.Proofs.YthafopnaecbjdaaW.PrintLast Go.Proofs.YthafopnaecbjdaaW.PrintMore
attribute [local go_sem] max2_int min2_int max_two min_two max_three min_three max_four min_four   -- for this text's walks alone
set_option linter.unusedVariables false
set_option linter.unusedSimpArgs false

-- NOT PRINTED: function 8 (expiry_New)

-- NOT PRINTED: function 24 (expiry_Queue_there)

-- NOT PRINTED: function 27 (expiry_Queue_less)

-- NOT PRINTED: function 28 (expiry_Queue_swap)

-- NOT PRINTED: function 25 (expiry_Queue_up)

-- NOT PRINTED: function 29 (expiry_Queue_down)

-- NOT PRINTED: function 26 (expiry_Queue_remove)

-- NOT PRINTED: function 11 (expiry_Queue_Drop)

-- NOT PRINTED: function 9 (expiry_Queue_Set)

-- NOT PRINTED: function 12 (pontoonref11_Queue_Drop)

-- NOT PRINTED: function 10 (pontoonref11_Queue_Set)

/-! ### pontoonref07_Texts: function 13 -/
def pontoonref07_Texts.l0 : Nat → List ByteArray → List ByteArray → Int → Option (Bool)
  | 0, _, _, _ => none
  | k + 1, x0, x1, x5 => if x5 < (x0.length : Int) then (if 0 ≤ x5 then (if x5 < (x1.length : Int) then (if (rdOf ByteArray.empty x0 x5).toList = (rdOf ByteArray.empty x1 x5).toList then (pontoonref07_Texts.l0 k x0 x1 (wrap64 (x5 + 1))) else (some false)) else (none)) else (none)) else (some true)
def pontoonref07_Texts.f (k : Nat) (l0 : List ByteArray) (l1 : List ByteArray) : Option (Bool) := if (l0.length : Int) = (l1.length : Int) then (pontoonref07_Texts.l0 k l0 l1 0) else (some false)
theorem pontoonref07_Texts.mono_l : ∀ k, (∀ y0 y1 y2, LeO (pontoonref07_Texts.l0 k y0 y1 y2) (pontoonref07_Texts.l0 (k + 1) y0 y1 y2))
  | 0 => fun _ _ _ r h => by simp [pontoonref07_Texts.l0] at h
  | k + 1 => by
    have ih0 := pontoonref07_Texts.mono_l k
    · intro y0 y1 y2
      unfold pontoonref07_Texts.l0
      repeat' first
      | (with_reducible exact ih0 _ _ _)
      | (with_reducible exact LeO.refl _)
      | (with_reducible exact LeO.none _)
      | (with_reducible refine LeO.ite ?_ ?_)
      | (with_reducible refine LeO.bind ?_ (fun _ => ?_))
      | exact ih0 _ _ _
      | exact LeO.none _
      | refine LeO.ite ?_ ?_
      | refine LeO.bind ?_ (fun _ => ?_)
theorem pontoonref07_Texts.mono : ∀ a0 a1 k, LeO (pontoonref07_Texts.f k a0 a1) (pontoonref07_Texts.f (k + 1) a0 a1) := by
  intro a0 a1 k
  have ih0 := pontoonref07_Texts.mono_l k
  unfold pontoonref07_Texts.f
  repeat' first
      | (with_reducible exact ih0 _ _ _)
      | (with_reducible exact LeO.refl _)
      | (with_reducible exact LeO.none _)
      | (with_reducible refine LeO.ite ?_ ?_)
      | (with_reducible refine LeO.bind ?_ (fun _ => ?_))
      | exact ih0 _ _ _
      | exact LeO.none _
      | refine LeO.ite ?_ ?_
      | refine LeO.bind ?_ (fun _ => ?_)
set_option maxHeartbeats 8000000 in
set_option maxRecDepth 100000 in
theorem pontoonref07_Texts.calls (k : Nat) (A0 : Option Addr) (c0 : Nat) (l0 : List ByteArray) (A1 : Option Addr) (c1 : Nat) (l1 : List ByteArray) (r : Bool) (w : World) (hr0 : Kd.C Kd.string w A0 l0.length l0) (hc0 : l0.length ≤ c0) (hr1 : Kd.C Kd.string w A1 l1.length l1) (hc1 : l1.length ≤ c1) (h : pontoonref07_Texts.f k l0 l1 = some r) :
    Calls Try.prog 13 #[.slice A0 l0.length c0, .slice A1 l1.length c1] w fun e w' => e = .returned (.bool r) ∧ Drawn0 w w' := by
  have HR0 := Aside0.mk hr0
  have HC0 := Aside0.mk hc0
  clear hr0 hc0
  have HR1 := Aside0.mk hr1
  have HC1 := Aside0.mk hc1
  clear hr1 hc1
  have H : (if (l0.length : Int) = (l1.length : Int) then (pontoonref07_Texts.l0 k l0 l1 0) else (some false)) = some r := h
  clear h
  by_cases c3 : (l0.length : Int) = (l1.length : Int)
  · rw [if_pos c3] at H
    have c3b0 : ((l0.length : Int) == (l1.length : Int)) = true := beq_iff_eq.mpr c3
    have c3b1 : ((l0.length : Int) != (l1.length : Int)) = false := bne_eq_false_iff_eq.mpr c3
    have c3b2 : (l0.length == l1.length) = true := by first | simpa using c3 | (simp at c3 ⊢; omega)
    clear c3
    have H' := Aside0.mk H
    clear H
    go_enter Try.func13, Try.ntmps13
    go_wp2
    repeat (go_quiet (fail); try go_wp2)
    go_loopg [5] k (fun kq v5 w' => ∃ (x5_1 : Int), v5 = .int .i64 x5_1 ∧ Aside0 (pontoonref07_Texts.l0 kq l0 l1 x5_1 = some r) ∧ Aside0 (kq ≤ k) ∧ Drawn0 w w')
    case atStart => exact ⟨(0), (by first | rfl | (simp; done) | (simp [*]; done)), H', ⟨Nat.le_refl _⟩, by repeat (first | exact Drawn0.refl _ | apply Drawn0.step)⟩
    case round =>
      clear H'
      try clear c1
      try clear p2
      try clear c3
      try clear c3b0
      try clear c3b1
      try clear c3b2
      obtain ⟨x5_1, rfl, HA, HK1, ⟨m1, rfl⟩⟩ := hrel
      cases gk with
      | zero => exact absurd HA.out (by simp [pontoonref07_Texts.l0])
      | succ k1 =>
        have H := HA.out
        clear HA
        simp only [pontoonref07_Texts.l0] at H
        by_cases c4 : x5_1 < (l0.length : Int)
        · rw [if_pos c4] at H
          have c4b0 : decide (x5_1 < (l0.length : Int)) = true := decide_eq_true c4
          clear c4
          by_cases c5 : 0 ≤ x5_1
          · rw [if_pos c5] at H
            have c5b0 : decide (0 ≤ x5_1) = true := decide_eq_true c5
            clear c5
            by_cases c6 : x5_1 < (l1.length : Int)
            · rw [if_pos c6] at H
              have c6b0 : decide (x5_1 < (l1.length : Int)) = true := decide_eq_true c6
              clear c6
              by_cases c7 : (rdOf ByteArray.empty l0 x5_1).toList = (rdOf ByteArray.empty l1 x5_1).toList
              · rw [if_pos c7] at H
                have c7b0 : ((rdOf ByteArray.empty l0 x5_1).toList == (rdOf ByteArray.empty l1 x5_1).toList) = true := beq_iff_eq.mpr c7
                have c7b1 : ((rdOf ByteArray.empty l0 x5_1).toList != (rdOf ByteArray.empty l1 x5_1).toList) = false := bne_eq_false_iff_eq.mpr c7
                clear c7
                have H' := Aside0.mk H
                clear H
                have p106 : 0 ≤ (x5_1 : Int) := of_decide_eq_true (by first | (with_reducible assumption) | assumption)
                have q106 : x5_1 < (l0.length : Int) := of_decide_eq_true (by first | (with_reducible assumption) | assumption)
                obtain ⟨ad106, e106, hx106_0⟩ := Kd.at_string HR0.out x5_1 p106 q106
                cases e106
                have q106n := q106
                replace p106 := eq_true p106
                replace q106 := eq_true q106
                have p107 : 0 ≤ (x5_1 : Int) := of_decide_eq_true (by first | (with_reducible assumption) | assumption)
                have q107 : x5_1 < (l1.length : Int) := of_decide_eq_true (by first | (with_reducible assumption) | assumption)
                obtain ⟨ad107, e107, hx107_0⟩ := Kd.at_string HR1.out x5_1 p107 q107
                cases e107
                have q107n := q107
                replace p107 := eq_true p107
                replace q107 := eq_true q107
                go_wp2
                repeat (go_quiet (fail); try go_wp2)
                go_roundg k1
                case measure => have := HK1.out; omega
                case rel => exact ⟨(wrap64 (x5_1 + 1)), (by first | rfl | (simp; done) | (simp [*]; done)), H', ⟨by have := HK1.out; omega⟩, by repeat (first | exact Drawn0.refl _ | apply Drawn0.step)⟩
              · rw [if_neg c7] at H
                have c7b0 : ((rdOf ByteArray.empty l0 x5_1).toList == (rdOf ByteArray.empty l1 x5_1).toList) = false := beq_eq_false_iff_ne.mpr c7
                have c7b1 : ((rdOf ByteArray.empty l0 x5_1).toList != (rdOf ByteArray.empty l1 x5_1).toList) = true := bne_iff_ne.mpr c7
                obtain rfl := Option.some.inj H
                have p106 : 0 ≤ (x5_1 : Int) := of_decide_eq_true (by first | (with_reducible assumption) | assumption)
                have q106 : x5_1 < (l0.length : Int) := of_decide_eq_true (by first | (with_reducible assumption) | assumption)
                obtain ⟨ad106, e106, hx106_0⟩ := Kd.at_string HR0.out x5_1 p106 q106
                cases e106
                have q106n := q106
                replace p106 := eq_true p106
                replace q106 := eq_true q106
                have p107 : 0 ≤ (x5_1 : Int) := of_decide_eq_true (by first | (with_reducible assumption) | assumption)
                have q107 : x5_1 < (l1.length : Int) := of_decide_eq_true (by first | (with_reducible assumption) | assumption)
                obtain ⟨ad107, e107, hx107_0⟩ := Kd.at_string HR1.out x5_1 p107 q107
                cases e107
                have q107n := q107
                replace p107 := eq_true p107
                replace q107 := eq_true q107
                go_wp2
                repeat (go_quiet (fail); try go_wp2)
                go_ret
                exact ⟨by first | rfl | (simp; done) | (simp [*]; done), by repeat (first | exact Drawn0.refl _ | apply Drawn0.step)⟩
            · rw [if_neg c6] at H
              exact absurd H (by simp)
          · rw [if_neg c5] at H
            exact absurd H (by simp)
        · rw [if_neg c4] at H
          have c4b0 : decide (x5_1 < (l0.length : Int)) = false := decide_eq_false c4
          clear c4
          obtain rfl := Option.some.inj H
          go_wp2
          repeat (go_quiet (fail); try go_wp2)
          go_ret
          exact ⟨by first | rfl | (simp; done) | (simp [*]; done), by repeat (first | exact Drawn0.refl _ | apply Drawn0.step)⟩
  · rw [if_neg c3] at H
    have c3b0 : ((l0.length : Int) == (l1.length : Int)) = false := beq_eq_false_iff_ne.mpr c3
    have c3b1 : ((l0.length : Int) != (l1.length : Int)) = true := bne_iff_ne.mpr c3
    have c3b2 : (l0.length == l1.length) = false := by first | simpa using c3 | (simp at c3 ⊢; omega)
    obtain rfl := Option.some.inj H
    go_enter Try.func13, Try.ntmps13
    go_wp2
    repeat (go_quiet (fail); try go_wp2)
    go_ret
    exact ⟨by first | rfl | (simp; done) | (simp [*]; done), by repeat (first | exact Drawn0.refl _ | apply Drawn0.step)⟩

-- NOT PRINTED: function 14 (expiry_Queue_Due)

-- NOT PRINTED: function 15 (pontoonref11_Queue_Due)

-- NOT PRINTED: function 16 (expiry_Queue_Copy)

-- NOT PRINTED: function 17 (expiry_Queue_At)

-- NOT PRINTED: function 18 (pontoonref11_Queue_At)

-- NOT PRINTED: function 19 (expiry_Queue_Next)

/-- A state of type 28 at block g of W; what its slices lead to came in by w0. -/
def IsS28 (w0 W : World) (g : Nat) (f0 : List (S55)) : Prop := ∃ A0 c0, W.heap[g]? = some (.cells #[.slice A0 f0.length c0] 28 (0, 0)) ∧ w0.heap.size ≤ g ∧ Kd.C k55 w0 A0 f0.length f0
theorem IsS28.grown {w0 W : World} {g : Nat} {f0 : List (S55)} {W1 : World} {row : Option Nat} (h : IsS28 w0 W g f0) (hw : W.grownBy W1 row) (hne : some g ≠ row) : IsS28 w0 W1 g f0 := by
  obtain ⟨A0, c0, hb, hg, hr0⟩ := h
  exact ⟨A0, c0, blk_grown hb hw hne, hg, hr0⟩
theorem IsS28.own_neN {w0 W : World} {g : Nat} {f0 : List (S55)} {α : Type} {d : Kd α} {e : Nat} {base : Nat} {ok : Nat → Prop} {v : Value} {xs : List α} (h : IsS28 w0 W g f0) (ho : Kd.N d e W base ok v xs) (ht : e ≠ 28) : some g ≠ v.ownBlock := by
  obtain ⟨A0, c0, hb, hg, hr0⟩ := h
  exact Kd.N_ne ho hb ht
theorem IsS28.fresh {w0 W : World} {g : Nat} {f0 : List (S55)} (h : IsS28 w0 W g f0) : ∀ k, W.heap.size ≤ k → k ≠ g := by
  obtain ⟨A0, c0, hb, hg, hr0⟩ := h
  exact Kd.freshB hb
theorem IsS28.kept {w0 W : World} {g : Nat} {f0 : List (S55)} {W1 : World} {S : Nat → Prop} (h : IsS28 w0 W g f0) (hk : Kept W W1 S) (hne : ¬ S g) : IsS28 w0 W1 g f0 := by
  obtain ⟨A0, c0, hb, hg, hr0⟩ := h
  exact ⟨A0, c0, blk_kept hb hk hne, hg, hr0⟩
theorem IsS28.below {w0 W : World} {g : Nat} {f0 : List (S55)} {W1 : World} (h : IsS28 w0 W g f0) (hw : Below W.heap.size W W1) : IsS28 w0 W1 g f0 := h.grown (grown_of_below hw none) (by simp)
theorem IsS28.alloc {w0 W : World} {g : Nat} {f0 : List (S55)} (h : IsS28 w0 W g f0) (o : Obj) : IsS28 w0 (W.alloc o) g f0 := h.below (below_alloc (Below.refl _ _) o)
theorem IsS28.drewN {w0 W : World} {g : Nat} {f0 : List (S55)} (h : IsS28 w0 W g f0) (m : Nat) : IsS28 w0 (W.drewN m) g f0 := h
theorem IsS28.drew {w0 W : World} {g : Nat} {f0 : List (S55)} (h : IsS28 w0 W g f0) : IsS28 w0 W.drew g f0 := h
theorem IsS28.at_ {w0 W : World} {g : Nat} {f0 : List (S55)} {w' : World} {m : Nat} (hq : W.drewN m = w') (h : IsS28 w0 W g f0) : IsS28 w0 w' g f0 := by subst hq; exact IsS28.drewN h m
theorem IsS28.apart {w0 W : World} {g : Nat} {f0 : List (S55)} {α : Type} {d : Kd α} {e : Nat} {base : Nat} {ok : Nat → Prop} {v : Value} {xs : List α} (h : IsS28 w0 W g f0) (ho : d.R e W base ok v xs) (ht : ∀ q, q ∈ e :: d.E → q ≠ 28) : d.R e W base (fun k => ok k ∧ k ≠ g) v xs := by
  obtain ⟨A0, c0, hb, hg, hr0⟩ := h
  exact Kd.R_types ho hb ht
theorem IsS28.own_ne {w0 W : World} {g : Nat} {f0 : List (S55)} {α : Type} {d : Kd α} {e : Nat} {base : Nat} {ok : Nat → Prop} {v : Value} {xs : List α} (h : IsS28 w0 W g f0) (ho : d.R e W base ok v xs) (ht : e ≠ 28) : some g ≠ v.ownBlock := by
  obtain ⟨A0, c0, hb, hg, hr0⟩ := h
  exact Kd.R_ne ho hb ht
theorem IsS28.apartQ {w0 W : World} {g : Nat} {f0 : List (S55)} {α : Type} {d : Kd α} {e : Nat} {base : Nat} {ok : Nat → Prop} {v : Value} {xs : List α} (h : IsS28 w0 W g f0) (ho : d.Q e W base ok v xs) (ht : ∀ q, q ∈ e :: d.E → q ≠ 28) : d.Q e W base (fun k => ok k ∧ k ≠ g) v xs := by
  obtain ⟨A0, c0, hb, hg, hr0⟩ := h
  exact Kd.Q_types ho hb ht
theorem IsS28.own_neQ {w0 W : World} {g : Nat} {f0 : List (S55)} {α : Type} {d : Kd α} {e : Nat} {base : Nat} {ok : Nat → Prop} {v : Value} {xs : List α} (h : IsS28 w0 W g f0) (ho : d.Q e W base ok v xs) (ht : e ≠ 28) : some g ≠ v.ownBlock := by
  obtain ⟨A0, c0, hb, hg, hr0⟩ := h
  exact Kd.Q_ne ho hb ht
theorem IsS28.apartS {w0 W : World} {g : Nat} {f0 : List (S55)} {α : Type} {d : Kd α} {e : Nat} {base : Nat} {ok : Nat → Prop} {v : Value} {xs : List α} (h : IsS28 w0 W g f0) (ho : d.S e W base ok v xs) (ht : ∀ q, q ∈ e :: d.E → q ≠ 28) : d.S e W base (fun k => ok k ∧ k ≠ g) v xs := by
  obtain ⟨A0, c0, hb, hg, hr0⟩ := h
  exact Kd.S_types ho hb ht
theorem IsS28.own_neS {w0 W : World} {g : Nat} {f0 : List (S55)} {α : Type} {d : Kd α} {e : Nat} {base : Nat} {ok : Nat → Prop} {v : Value} {xs : List α} (h : IsS28 w0 W g f0) (ho : d.S e W base ok v xs) (ht : e ≠ 28) : some g ≠ v.ownBlock := by
  obtain ⟨A0, c0, hb, hg, hr0⟩ := h
  exact Kd.S_ne ho hb ht
theorem IsS28.lt {w0 W : World} {g : Nat} {f0 : List (S55)} (h : IsS28 w0 W g f0) : g < W.heap.size := by
  obtain ⟨A0, c0, hb, hg, hr0⟩ := h
  exact blk_lt hb
theorem IsS28.ge {w0 W : World} {g : Nat} {f0 : List (S55)} (h : IsS28 w0 W g f0) : w0.heap.size ≤ g := by
  obtain ⟨A0, c0, hb, hg, hr0⟩ := h
  exact hg
theorem IsS28.ne_blk {w0 W : World} {g : Nat} {f0 : List (S55)} {a : Nat} {cs : Array Value} {t : TypeId} {fr : Nat × Nat} (h : IsS28 w0 W g f0) (hb2 : W.heap[a]? = some (.cells cs t fr)) (ht : t ≠ 28) : g ≠ a := by
  obtain ⟨A0, c0, hb, hg, hr0⟩ := h
  rintro rfl
  rw [hb] at hb2
  injection hb2 with hb2
  injection hb2 with _ ht2
  exact ht ht2.symm
theorem IsS28.far {w0 W : World} {g : Nat} {f0 : List (S55)} {p : Addr} (h : IsS28 w0 W g f0) (hne : g ≠ p.block) (u : Value) : IsS28 w0 (W.setCell p u) g f0 := by
  obtain ⟨A0, c0, hb, hg, hr0⟩ := h
  exact ⟨A0, c0, blk_far hb hne u, hg, hr0⟩
theorem cellS28_0 {W : World} {g : Nat} {A0 : Option Addr} {c0 : Nat} {f0 : List (S55)} (h : W.heap[g]? = some (.cells #[.slice A0 f0.length c0] 28 (0, 0))) : W.cell? ⟨g, 0, none⟩ = some (.slice A0 f0.length c0) := (blk_cell h 0).trans rfl
theorem IsS28.new (w0 W : World) (A0 : Option Addr) (c0 : Nat) (f0 : List (S55)) (hB : Below w0.heap.size w0 W) (hr0 : Kd.C k55 w0 A0 f0.length f0) : IsS28 w0 (W.alloc (.cells #[.slice A0 f0.length c0] 28)) W.heap.size f0 := ⟨A0, c0, by simpa using heap_alloc_new W _, hB.size, hr0⟩

/-! ### pontoonref11_Queue_Next: function 20 -/
def pontoonref11_Queue_Next.f (s0_0 : List (S55)) : Option (Int × Bool) := if (s0_0.length : Int) = 0 then (some (0, false)) else (if 0 < (s0_0.length : Int) then (some ((rd_T55 s0_0 0).f1, true)) else (none))
set_option maxHeartbeats 8000000 in
set_option maxRecDepth 100000 in
theorem pontoonref11_Queue_Next.calls (g : Nat) (s0_0 : List (S55)) (r1 : Int) (r2 : Bool) (w0 w : World) (hI : IsS28 w0 w g s0_0) (hB : Below w0.heap.size w0 w) (h : pontoonref11_Queue_Next.f s0_0 = some (r1, r2)) :
    Calls Try.prog 20 #[.pointer (some ⟨g, 0, none⟩)] w fun e w' => e = .returned (.tuple #[.int .i64 r1, .bool r2]) ∧ IsS28 w0 w' g s0_0 ∧ Below w0.heap.size w0 w' ∧ KeepBut w w' g none := by
  have HI0 := Aside0.mk hI
  have HK := Aside0.mk (KeepBut.refl w g none)
  have HL := Aside0.mk hB.size
  clear hI
  have HW0 := Aside0.mk hB.size
  have HB := Aside0.mk hB
  clear hB
  have H : (if (s0_0.length : Int) = 0 then (some (0, false)) else (if 0 < (s0_0.length : Int) then (some ((rd_T55 s0_0 0).f1, true)) else (none))) = some (r1, r2) := h
  clear h
  by_cases c2 : (s0_0.length : Int) = 0
  · rw [if_pos c2] at H
    have c2b0 : ((s0_0.length : Int) == 0) = true := beq_iff_eq.mpr c2
    have c2b1 : ((s0_0.length : Int) != 0) = false := bne_eq_false_iff_eq.mpr c2
    clear c2
    simp only [Option.some.injEq, Prod.mk.injEq] at H
    obtain ⟨rfl, rfl⟩ := H
    obtain ⟨ASz3_0, cSz3_0, HGz3, hgz3, HSz3_0⟩ := HI0.out
    have hcz3_0 := cellS28_0 HGz3
    clear HGz3 hgz3
    go_enter Try.func20, Try.ntmps20
    go_wp2
    go_ret2
    exact ⟨by first | rfl | (simp [errW_none, errW_some] <;> rfl) | (simp [*, errW_none, errW_some] <;> rfl), by repeat (first | (with_reducible first | exact HI0.out | apply IsS28.alloc | apply IsS28.drewN | apply IsS28.drew) | exact HI0.out), by repeat (first | (with_reducible first | exact HB.out | apply below_alloc | apply pw_below_drewN | apply below_drew1 | refine below_set ?_ (IsS28.ge HI0.out)) | exact HB.out), by repeat (first | (with_reducible first | exact HK.out | apply KeepBut.set_ | apply keep_drewN | apply keep_drew | apply keep_alloc) | exact HK.out)⟩
  · rw [if_neg c2] at H
    have c2b0 : ((s0_0.length : Int) == 0) = false := beq_eq_false_iff_ne.mpr c2
    have c2b1 : ((s0_0.length : Int) != 0) = true := bne_iff_ne.mpr c2
    have c2b2 : ¬ (s0_0 = []) := fun h_ => c2 (by rw [h_]; rfl)
    by_cases c4 : 0 < (s0_0.length : Int)
    · rw [if_pos c4] at H
      have c4b0 : decide (0 < (s0_0.length : Int)) = true := decide_eq_true c4
      have c4b1 : decide (0 < s0_0.length) = true := decide_eq_true (by omega)
      clear c4
      simp only [Option.some.injEq, Prod.mk.injEq] at H
      obtain ⟨rfl, rfl⟩ := H
      obtain ⟨ASz5_0, cSz5_0, HGz5, hgz5, HSz5_0⟩ := HI0.out
      have hcz5_0 := cellS28_0 HGz5
      clear HGz5 hgz5
      have p119 : 0 ≤ (0 : Int) := (by omega)
      have q119 : 0 < (s0_0.length : Int) := of_decide_eq_true (by first | (with_reducible assumption) | assumption)
      obtain ⟨ad119, e119, hx119_0, hx119_1⟩ := at_T55 HSz5_0 0 p119 q119
      cases e119
      have qi119 : (0 < s0_0.length) = True := eq_true (by omega)
      (try rw [show ((0 : Int)).toNat = 0 from rfl] at hx119_0)
      (try rw [show 0 * 2 = 0 from rfl] at hx119_0)
      (try rw [Addr.add_zero'] at hx119_0)
      (try rw [show ((0 : Int)).toNat = 0 from rfl] at hx119_1)
      (try rw [show 0 * 2 = 0 from rfl] at hx119_1)
      (try rw [Addr.add_zero'] at hx119_1)
      replace hx119_0 := pw_cell_below HB.out hx119_0
      replace hx119_1 := pw_cell_below HB.out hx119_1
      have q119n := q119
      replace p119 := eq_true p119
      replace q119 := eq_true q119
      go_enter Try.func20, Try.ntmps20
      go_wp2
      go_ret2
      exact ⟨by first | rfl | (simp [errW_none, errW_some] <;> rfl) | (simp [*, errW_none, errW_some] <;> rfl), by repeat (first | (with_reducible first | exact HI0.out | apply IsS28.alloc | apply IsS28.drewN | apply IsS28.drew) | exact HI0.out), by repeat (first | (with_reducible first | exact HB.out | apply below_alloc | apply pw_below_drewN | apply below_drew1 | refine below_set ?_ (IsS28.ge HI0.out)) | exact HB.out), by repeat (first | (with_reducible first | exact HK.out | apply KeepBut.set_ | apply keep_drewN | apply keep_drew | apply keep_alloc) | exact HK.out)⟩
    · rw [if_neg c4] at H
      exact absurd H (by simp)

-- NOT PRINTED: function 21 (expiry_Queue_Keys)

-- NOT PRINTED: function 22 (pontoonref11_Queue_Keys)

-- NOT PRINTED: function 23 (pontoonlaw11_known)

-- NOT PRINTED: function 3 (pontoonlaw11_ExpiryPlays)

-- NOT PRINTED: function 4 (pontoonlaw11_ExpiryOnce)

-- NOT PRINTED: function 5 (pontoonlaw11_ExpirySame)

-- NOT PRINTED: function 6 (pontoonlaw11_ExpiryNil)

-- NOT PRINTED: function 7 (pontoonlaw11_ExpiryDrops)

end Go.Proofs.Ythafopnaecbjdaa.Pa
