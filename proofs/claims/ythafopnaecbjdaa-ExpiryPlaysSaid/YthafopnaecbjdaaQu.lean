/- A region that draws its order, whose calls make memory but leave all that was there as it was: one walk in the order of the text. -/
import Derived.Test.YthafopnaecbjdaaHeap
import Derived.BigQuiet
import Derived.Deep.QuietTactic
namespace Go.Proofs.Ythafopnaecbjdaa
open Go Go.RowKit

/-- A world in which all that was in W stands as it was. -/
structure TW (W : World) where
  w : World
  t : Touch [] W w
instance (W : World) : Nonempty (TW W) := ⟨⟨W, Touch.refl _ _⟩⟩
theorem TW.cell {W : World} {a : Addr} {v : Value} (hc : W.cell? a = some v) : ∀ x : TW W, x.w.cell? a = some v := fun x => x.t.cell hc (by simp)
theorem TW.call {P : Program} {W : World} {x : TW W} {f : FuncId} {args : Array Value} {v : Value} (h : Calls P f args x.w fun e w' => e = .returned v ∧ Touch [] x.w w') :
    Calls P f args x.w fun e w' => e = .returned v ∧ ∃ y : TW W, w' = y.w :=
  h.mono fun _ w' ⟨he, ht⟩ => ⟨he, ⟨w', x.t.trans ht (by simp)⟩, rfl⟩
theorem TW.call_below {P : Program} {W : World} {x : TW W} {f : FuncId} {args : Array Value} {v : Value} (h : Calls P f args x.w fun e w' => e = .returned v ∧ Below x.w.heap.size x.w w') :
    Calls P f args x.w fun e w' => e = .returned v ∧ ∃ y : TW W, w' = y.w :=
  TW.call (h.mono fun _ _ ⟨he, hb⟩ => ⟨he, Touch.of_below hb⟩)
theorem TW.call_same {P : Program} {W : World} {x : TW W} {f : FuncId} {args : Array Value} {v : Value} (h : Calls P f args x.w fun e w' => e = .returned v ∧ x.w = w') :
    Calls P f args x.w fun e w' => e = .returned v ∧ ∃ y : TW W, w' = y.w :=
  h.mono fun _ _ ⟨he, hw⟩ => ⟨he, x, hw.symm⟩
theorem wp_region_tw {P : Program} {id : Nat} {Q : Exit → Act → World → Prop} {a : Act} {w : World} {l : List Oper} (hm : P.follows .mixedOrders = true) (hB : Region.lexB .any l.toArray = true)
    (h : wpQuiet P l.toArray (fun w' => ∃ x : TW w, w' = x.w) (fun a' => ∀ w', (∃ x : TW w, w' = x.w) → Q .normal a' w') l a) : (Code.region id l.toArray true).wp P Q a w :=
  wp_region_quiet (C := fun w' => ∃ x : TW w, w' = x.w) hm hB ⟨⟨w.drew, (Touch.refl _ _).drew⟩, rfl⟩ (by simpa using h)
end Go.Proofs.Ythafopnaecbjdaa
