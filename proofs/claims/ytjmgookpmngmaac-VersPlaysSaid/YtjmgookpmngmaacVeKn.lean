/- vers' law: known. -/
import Derived.Test.YtjmgookpmngmaacVe9
import Derived.Deep.DeepCutAuto
import Derived.Deep.CutBlock
namespace Go.Proofs.Ytjmgookpmngmaac
open Go Go.RowKit Go.Maps

section
variable {B : Nat} {ks : List Nat} {w w' : World} {pv : Nat} {M : VA} {n : Nat}
theorem Ver.keepsK {g : Nat} (_h : Ver B ks w pv M n) (k : Kept B (g :: ks) w w') : Kept B ks w w' := k.rest (by simp +contextual)
/-- A row of texts that is made. -/
theorem Ver.lit (h : Ver B ks w pv M n) (l : List ByteArray) : NamesI (w.alloc (.cells (strsV l).toArray 9)) (some ⟨w.heap.size, 0, none⟩) l.length l ∧ Ver B (w.heap.size :: ks) (w.alloc (.cells (strsV l).toArray 9)) pv M n ∧ LowA B (w.heap.size :: ks) (some ⟨w.heap.size, 0, none⟩) l.length ∧ Touch [] w (w.alloc (.cells (strsV l).toArray 9)) := by
  have t : Touch [] w (w.alloc (.cells (strsV l).toArray 9)) := (Touch.refl _ _).alloc _
  have hb : (w.alloc (.cells (strsV l).toArray 9)).heap[w.heap.size]? = some (.cells (strsV l).toArray 9 (0, 0)) := heap_alloc_new w _
  refine ⟨⟨rfl, .inr ⟨w.heap.size, 0, rfl, by simp, fun j hj => ?_⟩⟩, h.watch t _ (Nat.le_refl _) (by simp), (.inr fun a ha => .inr (by cases ha; simp)), t⟩
  rw [cell_of hb]
  simp only [strsV, Nat.zero_add, List.getElem?_toArray, List.getElem?_map, List.getD_eq_getElem?_getD, List.getElem?_eq_getElem hj, Option.map_some, Option.getD_some, strV]
theorem Ver.watchL (h : Ver B ks w pv M n) (t : Touch [] w w') (L : List Nat) (hL : ∀ g ∈ L, w.heap.size ≤ g ∧ g < w'.heap.size) : Ver B (L ++ ks) w' pv M n := by
  obtain ⟨bm, rs, h1, h2, h3, h4, h5, h6, h7, h8, h9⟩ := h
  refine ⟨bm, rs, h1.kept0 t, h2, h3, h4, fun i hi => ⟨(h5 i hi).1, fun hm => ?_⟩, Nat.le_trans h6 t.size, fun k hk => ?_, h8, h9⟩
  · have := h1.lt i hi
    rcases List.mem_append.1 hm with e | hm
    · have := (hL i e).1; omega
    · exact (h5 i hi).2 hm
  · rcases List.mem_append.1 hk with e | hk
    · exact (hL k e).2
    · exact Nat.lt_of_lt_of_le (h7 k hk) t.size
/-- A row that was handed out is watched. -/
theorem Ver.row (h : Ver B ks w pv M n) (t : Touch [] w w') {e : TypeId} {size N : Nat} {v : Value} {xs : List Value} (o : w'.ownsRow w.heap.size e size v N xs) : Ver B (v.ownBlock.toList ++ ks) w' pv M n := by
  cases hv : v.ownBlock with
  | none => simpa using h.kept t
  | some g =>
    have := o.lt g hv
    exact h.watch t g this.1 this.2
theorem lowA_own {A : Option Addr} {N c : Nat} (ks' : List Nat) (hk : ∀ i, (Value.slice A N c).ownBlock = some i → i ∈ ks') : LowA B ks' A N := .inr fun a ha => .inr (hk _ (by subst ha; rfl))

/-- Take, and all of it is watched. -/
theorem TakeW (h : Ver B ks w pv M n) {A : Option Addr} {N cp : Nat} {l : List ByteArray} (hN : NamesI w A N l) (hg : ∀ s ∈ l, goodS s) (hn : N < 1000000) :
    Calls Try.prog 13 #[.pointer (some ⟨pv, 0, none⟩), .slice A N cp] w fun e w' => ∃ A1 c1 A2 c2, e = .returned (.agg #[.int .i64 M.ep, .slice A1 N c1, .slice A2 N c2]) ∧
      Ver B ((Value.slice A1 N c1).ownBlock.toList ++ ((Value.slice A2 N c2).ownBlock.toList ++ ks)) w' pv M n ∧ NamesI w' A1 N l ∧ NumsI w' A2 N (l.map M.num) ∧ Kept B ks w w' ∧ Touch [] w w' := by
  refine (TakeV h hN hg hn).mono ?_
  rintro e w' ⟨A1, c1, A2, c2, rfl, o1, o2, hap, t⟩
  refine ⟨A1, c1, A2, c2, rfl, ?_, NamesI.of_own o1, NumsI.of_own o2, h.keeps t, t⟩
  rw [← List.append_assoc]
  refine h.watchL t _ fun g hg => ?_
  rcases List.mem_append.1 hg with q | q
  · exact o1.lt g (by simpa using q)
  · exact o2.lt g (by simpa using q)

abbrev tA : ByteArray := ⟨#[97]⟩
abbrev tB : ByteArray := ⟨#[98]⟩
abbrev tC : ByteArray := ⟨#[99]⟩
theorem goodA : goodS tA := by show 1 ≤ maxLen; decide
theorem goodB : goodS tB := by show 1 ≤ maxLen; decide
theorem goodC : goodS tC := by show 1 ≤ maxLen; decide
end

/-- A stamp of one name beside one that stands there. -/
structure KS (B : Nat) (ks : List Nat) (w0 w : World) (pv : Nat) (M : VA) (n : Nat) (A1 : Option Addr) (c1 : Nat) (A2 : Option Addr) (c2 gs : Nat) : Prop where
  v : Ver B ks w pv M n
  a : NamesI w A1 1 [tA]
  b : NumsI w A2 1 [0]
  c : w.heap[gs]? = some (.cells #[.int .i64 0, .slice A1 1 c1, .slice A2 1 c2] 33 (0, 0))
  l1 : LowA B ks A1 1
  l2 : LowA B ks A2 1
  l3 : gs ∈ ks
  bl : Below B w0 w
section
variable {B : Nat} {ks : List Nat} {w0 w w' : World} {pv : Nat} {M M' : VA} {n n' : Nat} {A1 : Option Addr} {c1 : Nat} {A2 : Option Addr} {c2 gs : Nat}
theorem KS.step (h : KS B ks w0 w pv M n A1 c1 A2 c2 gs) (v : Ver B ks w' pv M' n') (k : Kept B ks w w') (hs : w.heap.size ≤ w'.heap.size) : KS B ks w0 w' pv M' n' A1 c1 A2 c2 gs :=
  ⟨v, h.a.keptK k h.l1 hs, h.b.keptK k h.l2 hs, (k.2 gs h.l3).trans h.c, h.l1, h.l2, h.l3, h.bl.trans k.1⟩
theorem KS.kept (h : KS B ks w0 w pv M n A1 c1 A2 c2 gs) (t : Touch [] w w') : KS B ks w0 w' pv M n A1 c1 A2 c2 gs := h.step (h.v.kept t) (h.v.keeps t) t.size
theorem KS.cells (h : KS B ks w0 w pv M n A1 c1 A2 c2 gs) : w.cell? ⟨gs, 0, none⟩ = some (.int .i64 0) ∧ w.cell? ⟨gs, 1, none⟩ = some (.slice A1 1 c1) ∧ w.cell? ⟨gs, 2, none⟩ = some (.slice A2 1 c2) :=
  ⟨by rw [cell_of h.c]; rfl, by rw [cell_of h.c]; rfl, by rw [cell_of h.c]; rfl⟩
/-- With a literal beside it. -/
theorem KS.lit (h : KS B ks w0 w pv M n A1 c1 A2 c2 gs) (l : List ByteArray) : NamesI (w.alloc (.cells (strsV l).toArray 9)) (some ⟨w.heap.size, 0, none⟩) l.length l ∧ KS B (w.heap.size :: ks) w0 (w.alloc (.cells (strsV l).toArray 9)) pv M n A1 c1 A2 c2 gs ∧ LowA B (w.heap.size :: ks) (some ⟨w.heap.size, 0, none⟩) l.length := by
  obtain ⟨h1, h2, h3, h4⟩ := h.v.lit l
  have k := h.kept h4
  exact ⟨h1, ⟨h2, k.a, k.b, k.c, k.l1.imp id fun hl a ha => (hl a ha).imp id (List.mem_cons_of_mem _), k.l2.imp id fun hl a ha => (hl a ha).imp id (List.mem_cons_of_mem _), List.mem_cons_of_mem _ k.l3, k.bl⟩, h3⟩
theorem KS.drop {g : Nat} (h : KS B (g :: ks) w0 w pv M n A1 c1 A2 c2 gs) (l1 : LowA B ks A1 1) (l2 : LowA B ks A2 1) (l3 : gs ∈ ks) : KS B ks w0 w pv M n A1 c1 A2 c2 gs :=
  ⟨h.v.rest (by simp +contextual), h.a, h.b, h.c, l1, l2, l3, h.bl⟩
end
theorem goodI_small {c : Int} (h1 : -9000000000 ≤ c) (h2 : c ≤ 9000000000) : goodI c := by
  have e1 : IntKind.min .i64 = -9223372036854775808 := by decide
  have e2 : IntKind.max .i64 = 9223372036854775807 := by decide
  simp only [goodI, Lit.wf, e1, e2, Bool.and_eq_true, decide_eq_true_eq]
  omega
theorem fieldE (x : Int) (a b : Value) (w : World) : (Instr.field 33 (.agg #[.int .i64 x, a, b]) 0).run Try.prog w = .ok (.int .i64 x) w := by kernel_rfl
theorem hasB_cons (x : ByteArray) (l : List ByteArray) (s : ByteArray) : hasB (x :: l) s = (decide (x = s) || hasB l s) := by simp [hasB]
theorem hasB_nil (s : ByteArray) : hasB [] s = false := rfl
theorem dAB : ¬ tA = tB := by decide
theorem dBA : ¬ tB = tA := by decide
set_option linter.unusedSimpArgs false
set_option maxHeartbeats 8000000 in
theorem known_any (w : World) : Calls Try.prog 10 #[] w fun e w' => e = .returned (.bool true) ∧ Below w.heap.size w w' := by
  go_enter Try.func10, Try.ntmps10
  go_wp2_with fail
  refine (NewV w).mono ?_
  rintro e w1 ⟨pv, rfl, v1, t1⟩
  generalize hB : w.heap.size = B at *
  have K1 : Below B w w1 := t1.below0 (by omega)
  obtain ⟨M1, hM1⟩ : ∃ M1 : VA, M1 = ⟨0, fun _ => 0, fun _ _ => false⟩ := ⟨_, rfl⟩
  have F1 := Lib.hid hM1
  rw [← hM1] at v1
  clear hM1
  have he1 : M1.ep = 0 := by rw [F1.out]
  obtain ⟨n1, v2, l2, t2⟩ := v1.lit [tA]
  have k2 := v1.keeps t2
  simp only [strsV, strV, tA, tB, tC, List.map_cons, List.map_nil, List.length_cons, List.length_nil, Nat.zero_add, Nat.reduceAdd] at n1 v2 l2 t2 k2
  go_wp2_with fail
  refine (TakeW v2 n1 (by simp; exact goodA) (by omega)).mono ?_
  rintro e w3 ⟨A1, c1, A2, c2, rfl, v3, a3, b3, k3, t3⟩
  rw [he1]
  have hb3 : [tA].map M1.num = [0] := by rw [F1.out]; rfl
  rw [hb3] at b3
  have v4 := v3.watch (w' := w3.alloc (.cells #[.int .i64 0, .slice A1 1 c1, .slice A2 1 c2] 33)) ((Touch.refl _ _).alloc _) w3.heap.size (Nat.le_refl _) (by simp)
  have ta : Touch [] w3 (w3.alloc (.cells #[.int .i64 0, .slice A1 1 c1, .slice A2 1 c2] 33)) := (Touch.refl _ _).alloc _
  have S1 : ∃ ks, KS B ks w (w3.alloc (.cells #[.int .i64 0, .slice A1 1 c1, .slice A2 1 c2] 33)) pv M1 0 A1 c1 A2 c2 w3.heap.size :=
    ⟨_, v4, a3.kept0 ta, b3.kept0 ta, heap_alloc_new w3 _, lowA_own (N := 1) (c := c1) _ (fun i hi => by simp [hi]), lowA_own (N := 1) (c := c2) _ (fun i hi => by simp [hi]), by simp, ((K1.trans k2.1).trans k3.1).trans (ta.below0 v3.size)⟩
  obtain ⟨ks, S1⟩ := S1
  clear v1 t1 K1 n1 v2 l2 t2 k2 v3 a3 b3 k3 t3 v4 ta hb3 he1
  go_upto_region 5 with fail
  generalize w3.alloc (.cells #[.int .i64 0, .slice A1 1 c1, .slice A2 1 c2] 33) = W3 at *
  generalize w3.heap.size = gs at *
  have L := Lib.hid (And.intro S1.l1 (And.intro S1.l2 S1.l3))

  obtain ⟨n1, Q1, l1⟩ := S1.lit [tB, tB]
  simp only [strsV, strV, tA, tB, tC, List.map_cons, List.map_nil, List.length_cons, List.length_nil, Nat.zero_add, Nat.reduceAdd] at n1 Q1 l1
  go_wp2_with fail
  refine (BumpV Q1.v n1 l1 (by simp; exact goodB) (by omega)).mono ?_
  rintro e w1a ⟨rfl, v1, k1, z1⟩
  have R1 := (Q1.step v1 k1 z1).drop L.out.1 L.out.2.1 L.out.2.2
  clear n1 Q1 l1 v1 k1 z1 S1
  obtain ⟨N1, hN1⟩ : ∃ N1 : VA, N1 = VA.bump M1 [tB, tB] := ⟨_, rfl⟩
  have G1 := Lib.hid hN1
  rw [← hN1] at R1
  clear hN1
  have g1 : N1.ep = 0 ∧ N1.num tA = 0 ∧ N1.num tB = 1 := by rw [G1.out, F1.out]; simp [VA.bump, hasB_cons, hasB_nil, dBA]
  have g1d : ∀ s c, N1.dirty s c = false := by rw [G1.out, F1.out]; simp [VA.bump]
  have Hg := Lib.hid (And.intro g1 g1d)
  clear g1 g1d
  obtain ⟨s20, s21, s22⟩ := R1.cells
  go_wp2_with fail
  refine (FreshV R1.v 0 R1.a (by simp; exact goodA) (by omega) R1.b).mono ?_
  rintro e w2a ⟨rfl, t2⟩
  rw [show (decide ((0 : Int) = N1.ep) && decide ([tA].map N1.num = [0])) = true from by simp [Hg.out.1.1, Hg.out.1.2.1]]
  have R2 := R1.kept t2
  clear t2 R1 s20 s21 s22
  obtain ⟨n3, Q3, l3⟩ := R2.lit [tA]
  simp only [strsV, strV, tA, tB, tC, List.map_cons, List.map_nil, List.length_cons, List.length_nil, Nat.zero_add, Nat.reduceAdd] at n3 Q3 l3
  go_wp2_with fail
  refine (DirtyV Q3.v 1 (goodI_small (by omega) (by omega)) n3 l3 (by simp; exact goodA) (by omega)).mono ?_
  rintro e w3a ⟨rfl, v3, k3, z3⟩
  have R3 := (Q3.step v3 k3 z3).drop L.out.1 L.out.2.1 L.out.2.2
  clear n3 Q3 l3 v3 k3 z3 R2
  obtain ⟨N3, hN3⟩ : ∃ N3 : VA, N3 = VA.mark N1 1 [tA] := ⟨_, rfl⟩
  have G3 := Lib.hid hN3
  rw [← hN3] at R3
  clear hN3
  have D3 : Hid (∀ s c, N3.dirty s c = (decide (1 = c) && decide (tA = s))) := Lib.hid (fun s c => by rw [G3.out]; simp [VA.mark, Hg.out.2, hasB_cons, hasB_nil])
  have E3 : Hid (N3.ep = 0 ∧ N3.num tA = 0 ∧ N3.num tB = 1) := Lib.hid (by rw [G3.out]; exact Hg.out.1)
  obtain ⟨n4, Q4, l4⟩ := R3.lit [tC, tA]
  simp only [strsV, strV, tA, tB, tC, List.map_cons, List.map_nil, List.length_cons, List.length_nil, Nat.zero_add, Nat.reduceAdd] at n4 Q4 l4
  go_wp2_with fail
  refine (BusyV Q4.v n4 (by simp; exact ⟨goodC, goodA⟩) (by omega)).mono ?_
  rintro e w4a ⟨y4, rfl, hy4, rfl⟩
  obtain rfl : y4 = true := by rw [hy4]; exact ⟨tA, by simp, 1, by rw [D3.out]; simp⟩
  have R4 := Q4.drop L.out.1 L.out.2.1 L.out.2.2
  clear n4 Q4 l4 hy4 R3
  generalize w3a.alloc (.cells #[.string ⟨#[99]⟩, .string ⟨#[97]⟩] 9) = W4 at *
  go_wp2_with fail
  refine (CleanV R4.v 2 (goodI_small (by omega) (by omega))).mono ?_
  rintro e w5a ⟨rfl, v5, k5, z5⟩
  have R5 := R4.step v5 k5 z5
  clear v5 k5 z5 R4
  obtain ⟨N5, hN5⟩ : ∃ N5 : VA, N5 = VA.clean N3 2 := ⟨_, rfl⟩
  have G5 := Lib.hid hN5
  rw [← hN5] at R5
  clear hN5
  have D5 : Hid (∀ s c, N5.dirty s c = (decide (1 = c) && decide (tA = s))) := Lib.hid (fun s c => by rw [G5.out]; simp only [VA.clean, D3.out]; by_cases h : (1 : Int) = c <;> simp [h]; intro _; omega)
  obtain ⟨n6, Q6, l6⟩ := R5.lit [tA]
  simp only [strsV, strV, tA, tB, tC, List.map_cons, List.map_nil, List.length_cons, List.length_nil, Nat.zero_add, Nat.reduceAdd] at n6 Q6 l6
  go_wp2_with fail
  refine (BusyV Q6.v n6 (by simp; exact goodA) (by omega)).mono ?_
  rintro e w6a ⟨y6, rfl, hy6, rfl⟩
  obtain rfl : y6 = true := by rw [hy6]; exact ⟨tA, by simp, 1, by rw [D5.out]; simp⟩
  have R6 := Q6.drop L.out.1 L.out.2.1 L.out.2.2
  clear n6 Q6 l6 hy6 R5
  generalize w5a.alloc (.cells #[.string ⟨#[97]⟩] 9) = W6 at *
  go_wp2_with fail
  refine (CleanV R6.v 1 (goodI_small (by omega) (by omega))).mono ?_
  rintro e w7a ⟨rfl, v7, k7, z7⟩
  have R7 := R6.step v7 k7 z7
  clear v7 k7 z7 R6
  obtain ⟨N7, hN7⟩ : ∃ N7 : VA, N7 = VA.clean N5 1 := ⟨_, rfl⟩
  have G7 := Lib.hid hN7
  rw [← hN7] at R7
  clear hN7
  have D7 : Hid (∀ s c, N7.dirty s c = false) := Lib.hid (fun s c => by rw [G7.out]; simp only [VA.clean, D5.out]; by_cases h : (1 : Int) = c <;> simp [h])
  have E7 : Hid (N7.ep = 0 ∧ N7.num tA = 0 ∧ N7.num tB = 1) := Lib.hid (by rw [G7.out]; simp only [VA.clean]; rw [G5.out]; simp only [VA.clean]; exact E3.out)
  obtain ⟨n8, Q8, l8⟩ := R7.lit [tA]
  simp only [strsV, strV, tA, tB, tC, List.map_cons, List.map_nil, List.length_cons, List.length_nil, Nat.zero_add, Nat.reduceAdd] at n8 Q8 l8
  go_wp2_with fail
  refine (BusyV Q8.v n8 (by simp; exact goodA) (by omega)).mono ?_
  rintro e w8a ⟨y8, rfl, hy8, rfl⟩
  obtain rfl : y8 = false := by cases y8 with | false => rfl | true => obtain ⟨s, _, c, hc⟩ := hy8.1 rfl; rw [D7.out] at hc; cases hc
  have R8 := Q8.drop L.out.1 L.out.2.1 L.out.2.2
  clear n8 Q8 l8 hy8 R7
  generalize w7a.alloc (.cells #[.string ⟨#[97]⟩] 9) = W8 at *
  obtain ⟨n9, Q9, l9⟩ := R8.lit [tA]
  simp only [strsV, strV, tA, tB, tC, List.map_cons, List.map_nil, List.length_cons, List.length_nil, Nat.zero_add, Nat.reduceAdd] at n9 Q9 l9
  go_wp2_with fail
  refine (BumpV Q9.v n9 l9 (by simp; exact goodA) (by omega)).mono ?_
  rintro e w9a ⟨rfl, v9, k9, z9⟩
  have R9 := (Q9.step v9 k9 z9).drop L.out.1 L.out.2.1 L.out.2.2
  clear n9 Q9 l9 v9 k9 z9 R8
  obtain ⟨N9, hN9⟩ : ∃ N9 : VA, N9 = VA.bump N7 [tA] := ⟨_, rfl⟩
  have G9 := Lib.hid hN9
  rw [← hN9] at R9
  clear hN9
  have E9 : Hid (N9.ep = 0 ∧ N9.num tA = 1 ∧ N9.num tB = 1) := Lib.hid (by rw [G9.out]; simp [VA.bump, hasB_cons, hasB_nil, dAB, E7.out.1, E7.out.2.1, E7.out.2.2])
  obtain ⟨s100, s101, s102⟩ := R9.cells
  go_wp2_with fail
  refine (FreshV R9.v 0 R9.a (by simp; exact goodA) (by omega) R9.b).mono ?_
  rintro e w10a ⟨rfl, t10⟩
  rw [show (decide ((0 : Int) = N9.ep) && decide ([tA].map N9.num = [0])) = false from by simp [E9.out.2.1]]
  have R10 := R9.kept t10
  clear t10 R9 s100 s101 s102
  -- a stamp of a, b
  obtain ⟨n11, Q11, l11⟩ := R10.lit [tA, tB]
  have hw11 := Q11.v.size
  simp only [strsV, strV, tA, tB, tC, List.map_cons, List.map_nil, List.length_cons, List.length_nil, Nat.zero_add, Nat.reduceAdd] at n11 Q11 l11 hw11
  go_wp2_with fail
  refine (TakeW Q11.v n11 (by simp; exact ⟨goodA, goodB⟩) (by omega)).mono ?_
  rintro e w12 ⟨B1, d1, B2, d2, rfl, v12, a12, b12, k12, t12⟩
  have hb12 : [tA, tB].map N9.num = [1, 1] := by simp [E9.out.2.1, E9.out.2.2]
  rw [show List.map N9.num [⟨#[97]⟩, ⟨#[98]⟩] = [1, 1] from hb12] at b12
  rw [E9.out.1]
  have HBl : Hid (Below B w w12) := Lib.hid (Q11.bl.trans k12.1)
  have v13 := v12.watch (w' := w12.alloc (.cells #[.int .i64 0, .slice B1 2 d1, .slice B2 2 d2] 33)) ((Touch.refl _ _).alloc _) w12.heap.size (Nat.le_refl _) (by simp)
  have ta : Touch [] w12 (w12.alloc (.cells #[.int .i64 0, .slice B1 2 d1, .slice B2 2 d2] 33)) := (Touch.refl _ _).alloc _
  have a13 := a12.kept0 ta
  have b13 := b12.kept0 ta
  have e13 : (w12.alloc (.cells #[.int .i64 0, .slice B1 2 d1, .slice B2 2 d2] 33)).heap[w12.heap.size]? = some (.cells #[.int .i64 0, .slice B1 2 d1, .slice B2 2 d2] 33 (0, 0)) := heap_alloc_new w12 _
  have HB13 : Hid (Below B w (w12.alloc (.cells #[.int .i64 0, .slice B1 2 d1, .slice B2 2 d2] 33))) := Lib.hid (HBl.out.trans (ta.below0 v12.size))
  obtain ⟨ks2, v13', p1, p2, p3⟩ : ∃ ks2, Ver B ks2 (w12.alloc (.cells #[.int .i64 0, .slice B1 2 d1, .slice B2 2 d2] 33)) pv N9 _ ∧ LowA B ks2 B1 2 ∧ LowA B ks2 B2 2 ∧ w12.heap.size ∈ ks2 :=
    ⟨_, v13, lowA_own (N := 2) (c := d1) _ (fun i hi => by simp [hi]), lowA_own (N := 2) (c := d2) _ (fun i hi => by simp [hi]), by simp⟩
  clear v13 R10 n11 Q11 l11 hw11 v12 a12 b12 k12 t12 hb12 ta HBl
  go_upto_region 16 with fail
  generalize w12.alloc (.cells #[.int .i64 0, .slice B1 2 d1, .slice B2 2 d2] 33) = W13 at *
  generalize w12.heap.size = g2 at *
  go_wp2_with fail
  refine (AllV v13' (by omega)).mono ?_
  rintro e w14 ⟨rfl, v14, k14, z14⟩
  have a14 := a13.keptK k14 p1 z14
  have b14 := b13.keptK k14 p2 z14
  have e14 := (k14.2 g2 p3).trans e13
  have q0 : w14.cell? ⟨g2, 0, none⟩ = some (.int .i64 0) := by rw [cell_of e14]; rfl
  have q1 : w14.cell? ⟨g2, 1, none⟩ = some (.slice B1 2 d1) := by rw [cell_of e14]; rfl
  have q2 : w14.cell? ⟨g2, 2, none⟩ = some (.slice B2 2 d2) := by rw [cell_of e14]; rfl
  replace HB13 := Lib.hid (HB13.out.trans k14.1)
  clear v13' a13 b13 e13 k14 z14
  go_wp2_with fail
  have tc : Touch [] w14 (w14.alloc (.cells #[.int .i64 1, .int .i64 1] 3)) := (Touch.refl _ _).alloc _
  have v15 := v14.kept tc
  have a15 := a14.kept0 tc
  have b15 := b14.kept0 tc
  have ec : (w14.alloc (.cells #[.int .i64 1, .int .i64 1] 3)).heap[w14.heap.size]? = some (.cells #[.int .i64 1, .int .i64 1] 3 (0, 0)) := heap_alloc_new w14 _
  have c15 : NumsI (w14.alloc (.cells #[.int .i64 1, .int .i64 1] 3)) (some ⟨w14.heap.size, 0, none⟩) 2 [1, 1] := ⟨rfl, .inr ⟨w14.heap.size, 0, rfl, heap_lt ec, fun j hj => by
    match j, hj with
    | 0, _ => rw [cell_of ec]; rfl
    | 1, _ => rw [cell_of ec]; rfl⟩⟩
  have r0 := tc.cell q0 (by simp)
  have r1 := tc.cell q1 (by simp)
  have r2 := tc.cell q2 (by simp)
  have HB15 := Lib.hid (HB13.out.trans (tc.below0 v14.size))
  clear v14 a14 b14 tc ec q0 q1 q2 HB13
  generalize w14.alloc (.cells #[.int .i64 1, .int .i64 1] 3) = W15 at *
  generalize w14.heap.size = g3 at *
  refine (Ints_any b15 c15 (by omega)).mono ?_
  rintro e w16 ⟨rfl, t16⟩
  have v16 := v15.kept t16
  have a16 := a15.kept0 t16
  have b16 := b15.kept0 t16
  have q0 := t16.cell r0 (by simp)
  have q1 := t16.cell r1 (by simp)
  have q2 := t16.cell r2 (by simp)
  have HB16 := Lib.hid (HB15.out.trans (t16.below0 v15.size))
  clear v15 a15 b15 c15 r0 r1 r2 HB15 t16
  obtain ⟨n17, v17, l17, t17⟩ := v16.lit [tA, tB]
  simp only [strsV, strV, tA, tB, List.map_cons, List.map_nil, List.length_cons, List.length_nil, Nat.zero_add, Nat.reduceAdd] at n17 v17 l17 t17
  have a17 := a16.kept0 t17
  have b17 := b16.kept0 t17
  have r0 := t17.cell q0 (by simp)
  have r1 := t17.cell q1 (by simp)
  have r2 := t17.cell q2 (by simp)
  have HB17 := Lib.hid (HB16.out.trans (t17.below0 v16.size))
  go_wp2_with fail
  clear v16 a16 b16 q0 q1 q2 HB16 t17
  generalize w16.alloc (.cells #[.string ⟨#[97]⟩, .string ⟨#[98]⟩] 9) = W17 at *
  generalize w16.heap.size = g4 at *
  refine (Texts_any a17 n17 (by omega)).mono ?_
  rintro e w18 ⟨rfl, t18⟩
  have v18 := v17.kept t18
  have a18 := a17.kept0 t18
  have b18 := b17.kept0 t18
  have q0 := t18.cell r0 (by simp)
  have q1 := t18.cell r1 (by simp)
  have q2 := t18.cell r2 (by simp)
  have HB18 := Lib.hid (HB17.out.trans (t18.below0 v17.size))
  rw [decide_eq_true (show ([⟨#[97]⟩, ⟨#[98]⟩] : List ByteArray) = [⟨#[97]⟩, ⟨#[98]⟩] from rfl)]
  clear v17 a17 b17 r0 r1 r2 HB17 t18 n17 l17
  go_wp2_with fail
  refine (FreshV v18 0 a18 (by simp; exact ⟨goodA, goodB⟩) (by omega) b18).mono ?_
  rintro e w19 ⟨rfl, t19⟩
  rw [show (decide ((0 : Int) = (VA.all N9).ep) && decide (List.map (VA.all N9).num [⟨#[97]⟩, ⟨#[98]⟩] = [1, 1])) = false from by simp [VA.all, E9.out.1]]
  have v19 := v18.kept t19
  have HB19 := Lib.hid (HB18.out.trans (t19.below0 v18.size))
  clear v18 a18 b18 q0 q1 q2 HB18 t19
  go_wp2_with fail
  refine (NumV v19 ⟨#[98]⟩ goodB).mono ?_
  rintro e w20 ⟨rfl, rfl⟩
  rw [show (VA.all N9).num ⟨#[98]⟩ = 1 from E9.out.2.2]
  go_wp2_with fail
  refine (TakeV v19 (A := none) (N := 0) (cp := 0) (l := []) ⟨rfl, .inl rfl⟩ (by simp) (by omega)).mono ?_
  rintro e w21 ⟨X1, x1, X2, x2, rfl, _, _, _, t21⟩
  rw [show (VA.all N9).ep = 1 from by simp [VA.all, E9.out.1]]
  have HB21 := Lib.hid (HB19.out.trans (t21.below0 v19.size))
  clear v19 HB19 t21
  have hfld := fieldE 1 (.slice X1 0 x1) (.slice X2 0 x2)
  go_wp2
  go_ret
  exact ⟨rfl, by rw [hB]; exact HB21.out⟩
end Go.Proofs.Ytjmgookpmngmaac
