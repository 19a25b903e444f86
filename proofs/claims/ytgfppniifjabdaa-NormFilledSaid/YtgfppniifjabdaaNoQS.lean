/- norm: the document's Same. -/
import Derived.Test.YtgfppniifjabdaaNoK
import Derived.Test.YtgfppniifjabdaaPbS
namespace Go.Proofs.Ytgfppniifjabdaa
open Go Go.RowKit Go.Proofs.Ytgfppniifjabdaa.Pb Go.Proofs.YtgfppniifjabdaaW.PrintWords Go.Proofs.YtgfppniifjabdaaW.PrintLast
set_option linter.unusedSimpArgs false

/-- Two tokens are alike; with places, or without. -/
def alike (p : Bool) (x y : S35) : Prop := x.f0 = y.f0 ∧ x.f1 = y.f1 ∧ (p = true → x.f2 = y.f2)
theorem same_l (l m : List S35) (p : Bool) (hl : l.length = m.length) (hn : l.length ≤ 100000) (h : ∀ (j : Nat) (x y : S35), l[j]? = some x → m[j]? = some y → alike p x y) : ∀ (d k i : Nat), i + d = l.length → d < k → pontoonref04_Same.l0 k l m p i = some true := by
  intro d
  induction d with
  | zero =>
    intro k i hi hk
    obtain ⟨k, rfl⟩ : ∃ j, k = j + 1 := ⟨k - 1, by omega⟩
    simp only [pontoonref04_Same.l0]
    rw [if_neg (by omega)]
  | succ d ih =>
    intro k i hi hk
    obtain ⟨k, rfl⟩ : ∃ j, k = j + 1 := ⟨k - 1, by omega⟩
    have h1 : i < l.length := by omega
    have h2 : i < m.length := by omega
    obtain ⟨a, b, c⟩ := h i l[i] m[i] (List.getElem?_eq_getElem h1) (List.getElem?_eq_getElem h2)
    have hr := ih k (i + 1) (by omega) (by omega)
    simp only [pontoonref04_Same.l0]
    rw [if_pos (by omega), if_pos (by omega), if_pos (by omega), rdT l i h1, rdT m i h2, if_pos a, if_pos (by rw [b]), wrp (by omega) (by omega), show ((i : Int) + 1) = ((i + 1 : Nat) : Int) by omega, hr]
    by_cases hp : p = true
    · rw [if_pos hp, if_pos (c hp)]
    · rw [if_neg hp]
theorem same_f (l m : List S35) (p : Bool) (k : Nat) (hl : l.length = m.length) (hn : l.length ≤ 100000) (hk : l.length < k) (h : ∀ (j : Nat) (x y : S35), l[j]? = some x → m[j]? = some y → alike p x y) : pontoonref04_Same.f k l m p = some true := by
  unfold pontoonref04_Same.f
  rw [if_pos (by omega)]
  exact same_l l m p hl hn h l.length k 0 (by omega) hk
theorem same_self (l : List S35) (p : Bool) (k : Nat) (hn : l.length ≤ 100000) (hk : l.length < k) : pontoonref04_Same.f k l l p = some true :=
  same_f l l p k rfl hn hk (fun j x y hx hy => by rw [hx] at hy; cases hy; exact ⟨rfl, rfl, fun _ => rfl⟩)
theorem same_map {α : Type} (l m : List α) (f : α → S35) (g : α → Int × List UInt8) (hg : ∀ a b, g a = g b → alike false (f a) (f b)) (h : l.map g = m.map g) (k : Nat) (hn : l.length ≤ 100000) (hk : l.length < k) : pontoonref04_Same.f k (l.map f) (m.map f) false = some true := by
  have hlen : l.length = m.length := by simpa using congrArg List.length h
  refine same_f _ _ _ _ (by simpa using hlen) (by simpa using hn) (by simpa using hk) (fun j x y hx hy => ?_)
  rw [List.getElem?_map] at hx hy
  obtain ⟨a, ha, rfl⟩ := Option.map_eq_some_iff.1 hx
  obtain ⟨b, hb, rfl⟩ := Option.map_eq_some_iff.1 hy
  have e := congrArg (fun q => q[j]?) h
  simp only [List.getElem?_map, ha, hb, Option.map_some, Option.some.injEq] at e
  exact hg a b e
end Go.Proofs.Ytgfppniifjabdaa
