/- frame: next, whole; a text is put behind a row of bytes that has no room. -/
import Derived.Test.YtkaehhldloclhaaFr6
import Derived.Test.YtkaehhldloclhaaFr7
import Derived.Test.YtkaehhldloclhaaFr8
import Derived.Lib.AppendStr
namespace Go.Proofs.Ytkaehhldloclhaa
open Go Go.RowKit

theorem next_any {w : World} {p : Nat} {L : Nat × Nat} {M : FM} (h : RdE w p M L) (he : M.e = 0) :
    Calls Try.prog 24 #[.pointer (some ⟨p, 0, none⟩)] w (nextPost w p L (afterN M (nextF M.left M.first))) := by
  unfold nextF
  by_cases h1 : M.left.size < hd M.first
  · rw [if_pos h1]; exact next_short h h1
  rw [if_neg h1]
  have h1' : hd M.first ≤ M.left.size := by omega
  cases hf : M.first with
  | false =>
    by_cases h2 : printable (kindF M.left false) = false
    · rw [if_pos ⟨rfl, h2⟩]; exact next_kind h h1' hf h2
    have h2' : printable (kindF M.left false) = true := by simpa using h2
    rw [if_neg (fun hc => h2 hc.2)]
    by_cases h3 : lenF M.left false < 4
    · rw [if_pos h3]; exact next_form0 h h1' hf h2' h3
    rw [if_neg h3]
    by_cases h4 : 4096 < lenF M.left false
    · rw [if_pos h4]; exact next_big0 h h1' hf h2' h4
    rw [if_neg h4]
    have hq : ((hd false - 4 + (lenF M.left false).toNat : Nat) : Int) = 1 + lenF M.left false := by simp [hd]; omega
    by_cases h5 : M.left.size < hd false - 4 + (lenF M.left false).toNat
    · rw [if_pos h5]; exact next_wait0 h h1' hf h2' (by omega) (by omega) hq he h5
    rw [if_neg h5]
    exact next_whole0 h h1' hf h2' (by omega) (by omega) hq he (by omega)
  | true =>
    rw [if_neg (fun hc => by cases hc.1)]
    by_cases h3 : lenF M.left true < 4
    · rw [if_pos h3]; exact next_form1 h h1' hf h3
    rw [if_neg h3]
    by_cases h4 : 4096 < lenF M.left true
    · rw [if_pos h4]; exact next_big1 h h1' hf h4
    rw [if_neg h4]
    have hq : ((hd true - 4 + (lenF M.left true).toNat : Nat) : Int) = 0 + lenF M.left true := by simp [hd]; omega
    by_cases h5 : M.left.size < hd true - 4 + (lenF M.left true).toNat
    · rw [if_pos h5]; exact next_wait1 h h1' hf (by omega) (by omega) hq he h5
    rw [if_neg h5]
    exact next_whole1 h h1' hf (by omega) (by omega) hq he (by omega)

theorem strCells_get (s : ByteArray) (l : ByteArray) (pad : List Value) {j : Nat} {x : UInt8} (h : (l ++ s).data.toList[j]? = some x) : ((Lib.strCells l ++ Lib.strCells s) ++ pad)[j]? = some (.int .u8 x.toNat) := by
  have hl := (List.getElem?_eq_some_iff.1 h).1
  have e : Lib.strCells l ++ Lib.strCells s = (l ++ s).data.toList.map fun b => Value.int .u8 b.toNat := by
    rw [ByteArray.data_append, Array.toList_append, List.map_append]; rfl
  rw [e, List.getElem?_append_left (by simpa using hl), List.getElem?_map, h]
  rfl
section
variable {P : Program}
theorem run_append_full (w : World) (t u ty e : TypeId) (i : TypeInfo) (ht : P.underlying t = some (.slice e)) (hu : P.underlying u = some .string) (hi : P.info? e = some i) (hz : i.zero = some (.int .u8 0)) (hs1 : i.size = 1) (hb1 : i.bytes = 1)
    {A : Option Addr} {n : Nat} {l : ByteArray} (h : RowG u8C 1 w A n l.data.toList) (s : ByteArray) (hm : n + s.size ≤ 140737488355328) :
    ∃ A' c' w', (Builtin.append_ #[t, u] ty #[.slice A n n, .string s]).run P w = .ok (.slice A' (n + s.size) c') w' ∧ RowG u8C 1 w' A' (n + s.size) (l ++ s).data.toList ∧ n + s.size ≤ c' ∧ c' ≤ maxLen ∧ Touch [] w w' ∧ ((A' = A ∧ s.size = 0) ∨ (A' = some ⟨w.heap.size, 0, none⟩ ∧ ∃ cs, w'.heap[w.heap.size]? = some (.cells cs e (0, 0)))) := by
  have hmx : maxLen = 9223372036854775807 := rfl
  have hnl : n = l.size := by have := h.1; simpa using this
  by_cases h0 : s.size = 0
  · have hs : s = ByteArray.empty := by
      apply ByteArray.ext
      apply Array.toList_inj.1
      exact List.eq_nil_of_length_eq_zero (by simpa using h0)
    subst hs
    refine ⟨A, n, w, ?_, by simpa using h, by simp, by omega, Touch.refl _ _, .inl ⟨rfl, rfl⟩⟩
    cases A with
    | none =>
      have hn0 : n = 0 := by
        rcases h.2 with h | ⟨g, o, he, _⟩
        · exact h
        · cases he
      subst hn0
      simp [Builtin.append_, run_underlying ht, run_underlying hu, sizeOf, typeInfo, hi, Builtin.lenOf, Builtin.firstCells]
    | some a => simp [Builtin.append_, run_underlying ht, run_underlying hu, sizeOf, typeInfo, hi, Builtin.lenOf, Builtin.firstCells, storeCells]
  · have hpos : 0 < s.size := by omega
    have fin : ∀ (cap : Nat) (w' : World) (pad : List Value), w' = w.drew.alloc (.cells (((Lib.strCells l ++ Lib.strCells s) ++ pad).toArray) e) → n + s.size ≤ cap → cap ≤ maxLen →
        RowG u8C 1 w' (some ⟨w.heap.size, 0, none⟩) (n + s.size) (l ++ s).data.toList ∧ n + s.size ≤ cap ∧ cap ≤ maxLen ∧ Touch [] w w' ∧ (((some ⟨w.heap.size, 0, none⟩ : Option Addr) = A ∧ s.size = 0) ∨ ((some ⟨w.heap.size, 0, none⟩ : Option Addr) = some ⟨w.heap.size, 0, none⟩ ∧ ∃ cs, w'.heap[w.heap.size]? = some (.cells cs e (0, 0)))) := by
      intro cap w' pad hw' hc1 hc2
      subst hw'
      refine ⟨⟨by simp; omega, .inr ⟨w.heap.size, 0, rfl, by simp, fun j x hj i v hv => ?_⟩⟩, hc1, hc2, ((Touch.refl _ _).drew).alloc _, .inr ⟨rfl, _, heap_alloc_new w.drew _⟩⟩
      cases i with
      | zero =>
        simp only [u8C, List.getElem?_cons_zero, Option.some.injEq] at hv
        subst hv
        have hnew := heap_alloc_new w.drew (.cells (((Lib.strCells l ++ Lib.strCells s) ++ pad).toArray) e)
        rw [show (0 + j * 1 + 0) = j by omega]
        refine (cell_of hnew j).trans ?_
        have := strCells_get s l pad hj
        simpa using this
      | succ i => simp [u8C] at hv
    cases A with
    | none =>
      have hn0 : n = 0 := by
        rcases h.2 with h | ⟨g, o, he, _⟩
        · exact h
        · cases he
      have hl0 : Lib.strCells l = [] := List.eq_nil_of_length_eq_zero (by rw [Lib.strCells_length]; omega)
      subst hn0
      have hr := run_append_nil_string (P := P) w t u ty e i (.int .u8 0) ht hu hi hz s (by omega) (by omega) (by rw [hb1]; omega)
      refine ⟨_, _, _, by rw [hr, Nat.zero_add], fin _ _ (Builtin.zeroCells (Value.int .u8 0).cells (grownCap w s.size 0 e - s.size)).toList ?_ (by rw [Nat.zero_add]; exact grownCap_ge w s.size 0 e) (grownCap_le_maxLen w s.size 0 e (by omega))⟩
      rw [hl0]
      congr 2
      apply Array.ext'
      simp [Lib.strCells]
    | some a =>
      have hol : ∀ j v, (Lib.strCells l)[j]? = some v → w.cell? (a.add j) = some v := by
        intro j v hv
        rcases h.2 with hn0 | ⟨g, o, he, _, h2⟩
        · have := (List.getElem?_eq_some_iff.1 hv).1
          rw [Lib.strCells_length] at this
          omega
        · cases he
          simp only [Lib.strCells, List.getElem?_map, Option.map_eq_some_iff] at hv
          obtain ⟨b, hb, rfl⟩ := hv
          have := h2 j b hb 0 _ rfl
          rw [add_plain, show o + j = o + j * 1 + 0 by omega]
          exact this
      have hr := Lib.run_append_grow_string (P := P) w t u ty e i (.int .u8 0) ht hu hi hz a n n (Lib.strCells l) (by rw [Lib.strCells_length, hs1]; omega) hol s (by omega) (by omega) (by rw [hb1]; exact growslice_fits (by omega) (by omega))
      refine ⟨_, _, _, hr, fin _ _ (Builtin.zeroCells (Value.int .u8 0).cells (grownCap w (n + s.size) n e - (n + s.size))).toList ?_ (grownCap_ge w (n + s.size) n e) (grownCap_le_maxLen w (n + s.size) n e (by omega))⟩
      congr 2
      apply Array.ext'
      simp
theorem step_append_full {w : World} {ops : Array Oper} {o : Oper} {a : Act} {K : Act → World → Prop} {Q : Exit → Act → World → Prop} {E : Prop} (hgd : o.guard = none) (sl x : Operand) (t u : TypeId)
    (ho : o.op = .call { callee := .builtin .append, args := #[sl, x], argTypes := #[t, u] })
    (e : TypeId) (i : TypeInfo) (ht : P.underlying t = some (.slice e)) (hu : P.underlying u = some .string) (hi : P.info? e = some i) (hz : i.zero = some (.int .u8 0)) (hs1 : i.size = 1) (hb1 : i.bytes = 1)
    {A : Option Addr} {n : Nat} {l : ByteArray} (h : RowG u8C 1 w A n l.data.toList) (s : ByteArray) (hm : n + s.size ≤ 140737488355328) (hsl : a.eval sl = .slice A n n) (hx : a.eval x = .string s)
    (hK : ∀ A' c' w', RowG u8C 1 w' A' (n + s.size) (l ++ s).data.toList → n + s.size ≤ c' → c' ≤ maxLen → Touch [] w w' → ((A' = A ∧ s.size = 0) ∨ (A' = some ⟨w.heap.size, 0, none⟩ ∧ ∃ cs, w'.heap[w.heap.size]? = some (.cells cs e (0, 0)))) → K (a.put o.dst (.slice A' (n + s.size) c')) w') :
    if Region.wanted o (yielded ops a.tmps) = true then Oper.wp P o a w K Q else E := by
  have hw : Region.wanted o (yielded ops a.tmps) = true := by simp [Region.wanted, hgd]
  rw [if_pos hw]
  obtain ⟨A', c', w', hr, h2, h3, h4, h5, h6⟩ := run_append_full (P := P) w t u o.type e i ht hu hi hz hs1 hb1 h s hm
  unfold Oper.wp execOp
  simp only [ho, resolve, invoke, builtin, Sem.run_bind, Sem.run_pure, Result.andThen_ok, List.map_toArray, List.map_cons, List.map_nil, hsl, hx, hr]
  exact hK A' c' w' h2 h3 h4 h5 h6
end
end Go.Proofs.Ytkaehhldloclhaa
