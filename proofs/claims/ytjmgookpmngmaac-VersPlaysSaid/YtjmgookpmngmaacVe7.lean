/- vers: Fresh. -/
import Derived.Test.YtjmgookpmngmaacVe6
namespace Go.Proofs.Ytjmgookpmngmaac
open Go Go.RowKit Go.Maps

/-- A row of numbers. -/
def NumsI (w : World) (A : Option Addr) (n : Nat) (l : List Int) : Prop := n = l.length ∧ (n = 0 ∨ ∃ g o, A = some ⟨g, o, none⟩ ∧ g < w.heap.size ∧ ∀ j, j < n → w.cell? ⟨g, o + j, none⟩ = some (.int .i64 (l.getD j 0)))
theorem NumsI.kept {w w' : World} {A : Option Addr} {n : Nat} {l : List Int} {S : List Nat} (h : NumsI w A n l) (t : Touch S w w') (hs : ∀ a, A = some a → a.block ∉ S) : NumsI w' A n l := by
  obtain ⟨h1, h2⟩ := h
  refine ⟨h1, ?_⟩
  rcases h2 with h2 | ⟨g, o, rfl, hg, h2⟩
  · exact .inl h2
  · exact .inr ⟨g, o, rfl, Nat.lt_of_lt_of_le hg t.size, fun j hj => t.cell (h2 j hj) (hs ⟨g, o, none⟩ rfl)⟩
theorem NumsI.kept0 {w w' : World} {A : Option Addr} {n : Nat} {l : List Int} (h : NumsI w A n l) (t : Touch [] w w') : NumsI w' A n l := h.kept t (by simp)
theorem NumsI.of_own {w : World} {base N cp : Nat} {A : Option Addr} {l : List Int} (h : w.ownsRow base 3 1 (.slice A N cp) N (numsV l)) : NumsI w A N l := by
  have hl : N = l.length := by have := h.1; simp [numsV] at this; omega
  refine ⟨hl, ?_⟩
  have hc := fun g => h.cells (g := g)
  rcases h.2 with ⟨h0, h1⟩ | ⟨g, cap, cur, hv, _, hh, _⟩
  · cases h0; exact .inl h1
  · cases hv
    refine .inr ⟨g, 0, rfl, heap_lt hh, fun j hj => ?_⟩
    have hadd : (⟨g, 0, none⟩ : Addr).add j = ⟨g, 0 + j, none⟩ := by unfold Addr.add; split <;> simp_all
    have := hc g rfl j (intV (l.getD j 0)) (by simp only [numsV, List.getElem?_map]; rw [List.getD_eq_getElem?_getD, List.getElem?_eq_getElem (by omega)]; rfl)
    rw [hadd] at this
    exact this
theorem NumsI.cell {w wr : World} {A : Option Addr} {N : Nat} {l : List Int} {S : List Nat} (h : NumsI w A N l) (t : Touch S w wr) (hA : N = 0 ∨ ∀ a, A = some a → a.block ∉ S) {k : Nat} (hk : k < N) :
    ∃ g o, A = some ⟨g, o, none⟩ ∧ (⟨g, o, none⟩ : Addr).add k = ⟨g, o + k, none⟩ ∧ wr.cell? ⟨g, o + k, none⟩ = some (.int .i64 (l.getD k 0)) := by
  obtain ⟨h1, h2⟩ := h
  rcases h2 with h0 | ⟨g, o, rfl, hg, h2⟩
  · omega
  · exact ⟨g, o, rfl, by unfold Addr.add; split <;> simp_all, t.cell (h2 k hk) ((hA.resolve_left (by omega)) ⟨g, o, none⟩ rfl)⟩

theorem quietS {P : Program} {f : FuncId} {args : Array Value} {w : World} {n : Nat} {v : Value} (h : Calls P f args (w.drewN n) fun e w' => e = .returned v ∧ w.drewN n = w') : Calls P f args (w.drewN n) fun e w'' => e = .returned v ∧ ∃ m, w'' = w.drewN m :=
  Calls.quiet_of_same (h.mono fun _ _ hh => ⟨hh.1, hh.2.symm⟩)
def freshB (ep : Int) (rs : List (ByteArray × Tab)) (E : Int) (names : List ByteArray) (nums : List Int) : Bool := decide (E = ep) && decide (names.map (numOf rs) = nums)
theorem nums_eq {rs : List (ByteArray × Tab)} {names : List ByteArray} {nums : List Int} (hl : names.length = nums.length) (h : ∀ j, j < names.length → numOf rs (names.getD j ⟨#[]⟩) = nums.getD j 0) : names.map (numOf rs) = nums := by
  refine List.ext_getElem (by simpa using hl) fun j h1 h2 => ?_
  have := h j (by simpa using h1)
  simpa [List.getD_eq_getElem?_getD, List.getElem?_eq_getElem h2, List.getElem?_eq_getElem (show j < names.length by simpa using h1)] using this
theorem nums_ne {rs : List (ByteArray × Tab)} {names : List ByteArray} {nums : List Int} {j : Nat} (hj : j < names.length) (h : numOf rs (names.getD j ⟨#[]⟩) ≠ nums.getD j 0) : names.map (numOf rs) ≠ nums := fun e => h (by
  rw [← e]
  simp [List.getD_eq_getElem?_getD, List.getElem?_eq_getElem hj])

set_option maxHeartbeats 1600000 in
theorem Fresh_any {w : World} {pv bm : Nat} {ep : Int} {rs : List (ByteArray × Tab)} (h : VerC w pv bm ep rs) (E : Int) {A1 : Option Addr} {n1 c1 : Nat} {names : List ByteArray} (hN : NamesI w A1 n1 names) (hg : ∀ s ∈ names, goodS s) (hn : n1 < 1000000) {A2 : Option Addr} {n2 c2 : Nat} {nums : List Int} (hM : NumsI w A2 n2 nums) :
    Calls Try.prog 17 #[.pointer (some ⟨pv, 0, none⟩), .agg #[.int .i64 E, .slice A1 n1 c1, .slice A2 n2 c2]] w fun e w' => e = .returned (.bool (freshB ep rs E names nums)) ∧ Touch [] w w' := by
  have t0 : Touch [] w (w.alloc (.cells #[.int .i64 E, .slice A1 n1 c1, .slice A2 n2 c2] 33)) := (Touch.refl _ _).alloc _
  have h0 := h.kept0 t0
  have HN := Lib.hid (hN.kept0 t0)
  have HM := Lib.hid (hM.kept0 t0)
  have HG := Lib.hid hg
  have c0 := h0.c0
  have hb : (w.alloc (.cells #[.int .i64 E, .slice A1 n1 c1, .slice A2 n2 c2] 33)).heap[w.heap.size]? = some (.cells #[.int .i64 E, .slice A1 n1 c1, .slice A2 n2 c2] 33 (0, 0)) := heap_alloc_new w _
  clear hg hN hM h
  go_enter Try.func17, Try.ntmps17
  go_wp2_with fail
  generalize w.alloc (.cells #[.int .i64 E, .slice A1 n1 c1, .slice A2 n2 c2] 33) = W at *
  generalize w.heap.size = g at *
  have e0 : W.cell? ⟨g, 0, none⟩ = some (.int .i64 E) := by rw [cell_of hb]; rfl
  have e1 : W.cell? ⟨g, 1, none⟩ = some (.slice A1 n1 c1) := by rw [cell_of hb]; rfl
  have e2 : W.cell? ⟨g, 2, none⟩ = some (.slice A2 n2 c2) := by rw [cell_of hb]; rfl
  have Hl := Lib.hid (And.intro HN.out.1 HM.out.1)
  by_cases hE : E = ep
  · have hE1 : (E == ep) = true := by simp [hE]
    have hE2 : (E != ep) = false := by simp [hE]
    have HE := Lib.hid hE
    clear hE
    by_cases hne : n1 = n2
    · have hL1 : ((n1 : Int) != (n2 : Int)) = false := by simp [hne]
      have HL := Lib.hid hne
      clear hne
      go_quiet (first
        | (go_at_call 30; exact quietS (there_any (h0.kept0 ((Touch.refl _ _).drewN _))))
        | (go_at_call 33; exact quietS (loadAt (by simpa using c0))))
      have hw := (t0.drewN nq)
      have h2 := h0.kept0 ((Touch.refl [] W).drewN nq)
      have q1 : (W.drewN nq).cell? ⟨g, 1, none⟩ = some (.slice A1 n1 c1) := e1
      have q2 : (W.drewN nq).cell? ⟨g, 2, none⟩ = some (.slice A2 n2 c2) := e2
      have HN2 := Lib.hid (HN.out.kept0 ((Touch.refl [] W).drewN nq))
      have HM2 := Lib.hid (HM.out.kept0 ((Touch.refl [] W).drewN nq))
      clear HN HM e0 e1 e2 c0 hb t0 h0
      generalize W.drewN nq = V at *
      go_wp2_with fail
      go_loopw [5, 6, 31] (fun _ _ i wr => ∃ k : Nat, k ≤ n1 ∧ i = .int .i64 k ∧ Hid (Touch [] V wr ∧ ∀ j, j < k → numOf rs (names.getD j ⟨#[]⟩) = nums.getD j 0)) (fun _ _ i _ => n1 - (intOf i).toNat)
      case atStart => exact ⟨0, Nat.zero_le _, rfl, Lib.hid ⟨Touch.refl _ _, fun j hj => by omega⟩⟩
      case round =>
        obtain ⟨k, hk, rfl, hK⟩ := hrel
        by_cases hlt : k < n1
        · obtain ⟨g1, o1, rfl, hadd, d0, hs, hmem⟩ := HN2.out.cell hK.out.1 (by simp) hlt
          obtain ⟨g2, o2, rfl, hadd2, d1⟩ := HM2.out.cell hK.out.1 (by simp) (k := k) (by have := HL.out; omega)
          have hgs : goodS (names.getD k ⟨#[]⟩) := HG.out _ hmem
          have hv := h2.kept0 hK.out.1
          have p2 := hK.out.1.cell q2 (by simp)
          have hkn : k < names.length := by have := Hl.out.1; omega
          have Hne := Lib.hid (nums_ne (rs := rs) (nums := nums) hkn)
          have hlt2 : k < n2 := by have := HL.out; omega
          have hi0 : (0 : Int) ≤ k := by omega
          have hi1 : (k : Int) < (n2 : Int) := by omega
          have hi2 : (k : Int) < (n1 : Int) := by omega
          clear hs hmem
          by_cases hx : numOf rs (names.getD k ⟨#[]⟩) = nums.getD k 0
          · have HK1 : Hid (∀ j, j < k + 1 → numOf rs (names.getD j ⟨#[]⟩) = nums.getD j 0) := Lib.hid (fun j hj => by
              rcases Nat.lt_succ_iff_lt_or_eq.1 hj with h | h
              · exact hK.out.2 j h
              · subst h; exact hx)
            generalize names.getD k ⟨#[]⟩ = s at *
            generalize nums.getD k 0 = x at *
            have hx1 : (numOf rs s != x) = false := by simp [hx]
            clear hx
            go_wp2_with fail
            go_quiet ((go_at_call 19; exact quietS (Num_any (hv.kept0 ((Touch.refl _ _).drewN _)) s hgs)))
            go_wp2_with fail
            go_roundw
            case rel => exact ⟨k + 1, by omega, by go_num, Lib.hid ⟨hK.out.1.drewN nq, HK1.out⟩⟩
            case measure => simp [intOf]; omega
          · have Hf : Hid (freshB ep rs E names nums = false) := Lib.hid (by unfold freshB; simp [Hne.out hx])
            generalize names.getD k ⟨#[]⟩ = s at *
            generalize nums.getD k 0 = x at *
            have hx1 : (numOf rs s != x) = true := by simpa using hx
            clear hx
            go_wp2_with fail
            go_quiet ((go_at_call 19; exact quietS (Num_any (hv.kept0 ((Touch.refl _ _).drewN _)) s hgs)))
            go_wp2
            go_ret
            exact ⟨by rw [Hf.out]; rfl, hw.trans (hK.out.1.drewN nq) (by simp)⟩
        · have hkn : k = n1 := by omega
          subst hkn
          have Hf : Hid (freshB ep rs E names nums = true) := Lib.hid (by
            unfold freshB
            have h1 := Hl.out.1
            have h2 := Hl.out.2
            have h3 := HL.out
            have h4 := HE.out
            simp only [h4, decide_true, Bool.true_and, decide_eq_true_eq]
            exact nums_eq (by omega) (fun j hj => hK.out.2 j (by omega)))
          go_wp2
          go_ret
          exact ⟨by rw [Hf.out]; rfl, hw.trans hK.out.1 (by simp)⟩
    · have hL1 : ((n1 : Int) != (n2 : Int)) = true := by simp; omega
      have Hf : Hid (freshB ep rs E names nums = false) := Lib.hid (by
        have h1 := Hl.out.1
        have h2 := Hl.out.2
        have : names.map (numOf rs) ≠ nums := fun e => hne (by rw [h1, h2, ← e]; simp)
        simp [freshB, this])
      clear hne
      go_quiet (first
          | (go_at_call 30; exact quietS (there_any (h0.kept0 ((Touch.refl _ _).drewN _))))
          | (go_at_call 33; exact quietS (loadAt (by simpa using c0))))
      go_wp2
      go_ret
      exact ⟨by rw [Hf.out]; rfl, t0.drewN nq⟩
  · have hE1 : (E == ep) = false := by simpa using hE
    have hE2 : (E != ep) = true := by simpa using hE
    have Hf : Hid (freshB ep rs E names nums = false) := Lib.hid (by simp [freshB, hE])
    clear hE
    go_quiet (first
        | (go_at_call 30; exact quietS (there_any (h0.kept0 ((Touch.refl _ _).drewN _))))
        | (go_at_call 33; exact quietS (loadAt (by simpa using c0))))
    go_wp2
    go_ret
    exact ⟨by rw [Hf.out]; rfl, t0.drewN nq⟩
end Go.Proofs.Ytjmgookpmngmaac
