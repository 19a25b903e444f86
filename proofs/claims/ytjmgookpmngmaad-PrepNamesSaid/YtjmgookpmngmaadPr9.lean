/- Two rows of texts; a book's known calls. -/
import Derived.Test.YtjmgookpmngmaadPr8
namespace Go.Proofs.Ytjmgookpmngmaad
open Go Go.RowKit Go.Maps

theorem str_eq {a b : ByteArray} (h : a = b) : (a.toList == b.toList) = true ∧ (a.toList != b.toList) = false := by subst h; simp
theorem str_ne {a b : ByteArray} (h : a ≠ b) : (a.toList == b.toList) = false ∧ (a.toList != b.toList) = true := by
  have : (a.toList == b.toList) = false := by
    rw [ByteArray.toList_eq, ByteArray.toList_eq]
    refine Bool.eq_false_iff.2 fun hh => h ?_
    obtain ⟨⟨x⟩⟩ := a
    obtain ⟨⟨y⟩⟩ := b
    simpa using hh
  exact ⟨this, by simp [bne, this]⟩
theorem take_eq_of {α : Type} {l l' : List α} {j : Nat} {x y : α} (h : l.take j = l'.take j) (hx : l[j]? = some x) (hy : l'[j]? = some y) (e : x = y) : l.take (j + 1) = l'.take (j + 1) := by
  rw [List.take_succ_eq_append_getElem (List.getElem?_eq_some_iff.1 hx).1, List.take_succ_eq_append_getElem (List.getElem?_eq_some_iff.1 hy).1, h, (List.getElem?_eq_some_iff.1 hx).2, (List.getElem?_eq_some_iff.1 hy).2, e]
set_option maxHeartbeats 1000000 in
theorem Texts_any {w : World} {A : Option Addr} {n cp : Nat} {l : List ByteArray} (h : RowG strC 1 w A n l) {A' : Option Addr} {n' cp' : Nat} {l' : List ByteArray} (h' : RowG strC 1 w A' n' l') (hn : n ≤ maxLen) :
    Calls Try.prog 24 #[.slice A n cp, .slice A' n' cp'] w fun e w' => e = .returned (.bool (decide (l = l'))) ∧ Touch [] w w' := by
  have H := Lib.hid h
  have H' := Lib.hid h'
  unfold maxLen at hn
  clear h h'
  go_enter Try.func24, Try.ntmps24
  by_cases hne : n = n'
  · subst hne
    have hz : ((n : Int) != (n : Int)) = false := by simp
    go_wp2_with fail
    go_loopw [5] (fun i wr => ∃ j : Nat, j ≤ n ∧ i = .int .i64 j ∧ Hid (l.take j = l'.take j ∧ Touch [] w wr)) (fun i _ => n - (intOf i).toNat)
    case atStart => exact ⟨0, Nat.zero_le _, rfl, Lib.hid ⟨by simp, Touch.refl _ _⟩⟩
    case round =>
      obtain ⟨j, hj, rfl, hq⟩ := hrel
      by_cases hlt : j < n
      · obtain ⟨g, o, x, rfl, _, hx, _, _, d1⟩ := (H.out.kept0 hq.out.2).at hlt
        obtain ⟨g', o', y, rfl, _, hy, _, _, d2⟩ := (H'.out.kept0 hq.out.2).at hlt
        have c1 := d1 0 (.string x) rfl
        have c2 := d2 0 (.string y) rfl
        simp only [Nat.mul_one, Nat.add_zero] at c1 c2
        have hi1 : (j : Int) < (n : Int) := by omega
        have hi0 : (0 : Int) ≤ j := by omega
        have HX := Lib.hid (And.intro hx hy)
        clear d1 d2 hx hy
        by_cases hxy : x = y
        · obtain ⟨b1, b2⟩ := str_eq hxy
          have HT := Lib.hid (take_eq_of hq.out.1 HX.out.1 HX.out.2 hxy)
          clear hxy
          go_wp2_with fail
          go_quiet (fail)
          go_wp2
          go_roundw
          case rel => exact ⟨j + 1, by omega, by go_num, Lib.hid ⟨HT.out, hq.out.2.drewN _⟩⟩
          case measure => simp [intOf]; omega
        · obtain ⟨b1, b2⟩ := str_ne hxy
          have Hn : Hid (l ≠ l') := Lib.hid fun e => hxy (by have h1 := HX.out.1; rw [e, HX.out.2] at h1; exact (Option.some.inj h1).symm)
          clear hxy
          go_wp2_with fail
          go_quiet (fail)
          go_wp2
          go_ret
          exact ⟨by rw [decide_eq_false Hn.out]; rfl, hq.out.2.drewN _⟩
      · have hjn : j = n := by omega
        subst hjn
        have He : Hid (l = l') := Lib.hid (by
          have := hq.out.1
          rw [List.take_of_length_le (by have := H.out.len; omega), List.take_of_length_le (by have := H'.out.len; omega)] at this
          exact this)
        go_wp2_with fail
        go_ret
        exact ⟨by rw [decide_eq_true He.out]; rfl, hq.out.2⟩
  · have hz : ((n : Int) != (n' : Int)) = true := by simp; omega
    have Hn : Hid (l ≠ l') := Lib.hid fun e => hne (by rw [H.out.len, H'.out.len, e])
    clear hne
    go_wp2_with fail
    go_ret
    exact ⟨by rw [decide_eq_false Hn.out]; rfl, Touch.refl _ _⟩

/-- A row that is not of the book stays. -/
theorem RowG.grow {α : Type} {enc : α → List Value} {k : Nat} {w w' : World} {A : Option Addr} {n : Nat} {l : List α} {own own' : Own} (h : RowG enc k w A n l) (g : Grow own own' w w') (hn : n = 0 ∨ ∀ a, A = some a → own a.block = none) :
    RowG enc k w' A n l ∧ (n = 0 ∨ ∀ a, A = some a → own' a.block = none) := by
  obtain ⟨h1, h2⟩ := h
  rcases h2 with h2 | ⟨gg, o, rfl, hg, h2⟩
  · exact ⟨⟨h1, .inl h2⟩, .inl h2⟩
  · rcases hn with hn | hn
    · exact ⟨⟨h1, .inl hn⟩, .inl hn⟩
    · have hb := hn _ rfl
      refine ⟨⟨h1, .inr ⟨gg, o, rfl, Nat.lt_of_lt_of_le hg g.size, fun j x hj i v hv => ?_⟩⟩, .inr fun a ha => ?_⟩
      · exact (World.cell?_of_block (a := ⟨gg, o + j * k + i, none⟩) (g.blk gg hg hb)).trans (h2 j x hj i v hv)
      · cases ha; exact g.own gg hg hb
theorem own_none {w w0 : World} {own : Own} {pb n : Nat} {M : BM} (h : BkE w0 own pb M n) {e : TypeId} {A : Option Addr} {N cp : Nat} {xs : List Value} (ho : w.ownsRow w0.heap.size e 1 (.slice A N cp) N xs) : N = 0 ∨ ∀ a, A = some a → own a.block = none := by
  rcases ho.2 with ⟨_, h0⟩ | ⟨g, cap, cur, hv, hb, _⟩
  · exact .inl h0
  · refine .inr fun a ha => ?_
    cases hv
    cases ha
    cases hc : own g with
    | none => rfl
    | some t => have := h.lt _ _ hc; omega

/-- A book, beside what was there at the start. -/
structure KS (W w : World) (own : Own) (pb : Nat) (M : BM) (n : Nat) : Prop where
  b : BkE w own pb M n
  low : ∀ i t, own i = some t → W.heap.size ≤ i
  bel : Below W.heap.size W w
theorem KS.step {W w w' : World} {own own' : Own} {pb n n' : Nat} {M M' : BM} (h : KS W w own pb M n) (b' : BkE w' own' pb M' n') (g : Grow own own' w w') : KS W w' own' pb M' n' :=
  ⟨b', g.low h.bel.size h.low, h.bel.trans (g.below h.bel.size h.low)⟩
theorem KS.t0 {W w w' : World} {own : Own} {pb n : Nat} {M : BM} (h : KS W w own pb M n) (t : Touch [] w w') : KS W w' own pb M n := h.step (h.b.kept0 t) (Grow.of_touch0 t)
theorem KS.mono {W w : World} {own : Own} {pb n m : Nat} {M : BM} (h : KS W w own pb M n) (hm : n ≤ m) : KS W w own pb M m := ⟨h.b.mono hm, h.low, h.bel⟩
theorem goodI_of {x : Int} (h : -9223372036854775808 ≤ x ∧ x ≤ 9223372036854775807) : goodI x := by
  unfold goodI
  simp [Lit.wf, IntKind.min, IntKind.max, IntKind.bits, IntKind.signed]
  omega
def tA : ByteArray := ⟨#[97]⟩
def tB : ByteArray := ⟨#[98]⟩
def tE : ByteArray := ⟨#[]⟩
def tX : ByteArray := ⟨#[120]⟩
def tY : ByteArray := ⟨#[121]⟩
def tS1 : ByteArray := ⟨#[115, 101, 108, 101, 99, 116, 32, 49]⟩
def tS2 : ByteArray := ⟨#[115, 101, 108, 101, 99, 116, 32, 50]⟩
def n1B : ByteArray := ⟨#[115, 49]⟩
def n2B : ByteArray := ⟨#[115, 50]⟩
theorem name1 : nameB 1 = n1B := by
  unfold nameB
  rw [digB_small (by decide)]
  apply ByteArray.ext
  simp [n1B]
theorem name2 : nameB 2 = n2B := by
  unfold nameB
  rw [digB_small (by decide)]
  apply ByteArray.ext
  simp [n2B]
theorem dAE : tA ≠ tE := fun h => by have := congrArg ByteArray.size h; simp [tA, tE, ByteArray.size] at this
theorem dEA : tE ≠ tA := fun h => dAE h.symm
theorem dAB : tA ≠ tB := fun h => by have := congrArg ByteArray.data h; simp [tA, tB] at this
theorem dBA : tB ≠ tA := fun h => dAB h.symm
theorem d12 : n1B ≠ n2B := fun h => by have := congrArg ByteArray.data h; simp [n1B, n2B] at this
structure KM (M : BM) (m1 m2 nm : List (ByteArray × ByteArray)) (o1 o2 : List ByteArray) : Prop where
  a : M.mine 1 = m1
  b : M.mine 2 = m2
  c : M.nm = nm
  d : M.order 1 = o1
  e : M.order 2 = o2
section
variable {M : BM} {m1 m2 nm : List (ByteArray × ByteArray)} {o1 o2 : List ByteArray}
theorem KM.put (h : KM M m1 m2 nm o1 o2) (s q : ByteArray) : KM (M.put 1 s q) (mput m1 s q) m2 nm o1 o2 := ⟨by simp [BM.put, upd, h.a], by simp [BM.put, upd, h.b], h.c, h.d, h.e⟩
theorem KM.del (h : KM M m1 m2 nm o1 o2) (s : ByteArray) : KM (M.del 1 s) (mdel m1 s) m2 nm o1 o2 := ⟨by simp [BM.del, upd, h.a], by simp [BM.del, upd, h.b], h.c, h.d, h.e⟩
theorem KM.nmd (h : KM M m1 m2 nm o1 o2) (q x : ByteArray) (hx : M.name q = x) : KM (M.nmd q) m1 m2 (mput nm q x) o1 o2 := ⟨h.a, h.b, by simp [BM.nmd, h.c, hx], h.d, h.e⟩
theorem KM.more1 (h : KM M m1 m2 nm o1 o2) (x : ByteArray) : KM (M.more 1 x) m1 m2 nm (o1 ++ [x]) o2 := ⟨h.a, h.b, h.c, by simp [BM.more, upd, h.d], by simp [BM.more, upd, h.e]⟩
theorem KM.more2 (h : KM M m1 m2 nm o1 o2) (x : ByteArray) : KM (M.more 2 x) m1 m2 nm o1 (o2 ++ [x]) := ⟨h.a, h.b, h.c, by simp [BM.more, upd, h.d], by simp [BM.more, upd, h.e]⟩
theorem KM.forget (h : KM M m1 m2 nm o1 o2) : KM (M.forget 1) m1 m2 nm [] o2 := ⟨h.a, h.b, h.c, by simp [BM.forget, upd], by simp [BM.forget, upd, h.e]⟩
theorem KM.name (h : KM M m1 m2 nm o1 o2) (q : ByteArray) : M.name q = match mget nm q with | some x => x | none => nameB (nm.length + 1) := by
  unfold BM.name
  rw [h.c]
  cases mget nm q <;> rfl
end
end Go.Proofs.Ytjmgookpmngmaad
