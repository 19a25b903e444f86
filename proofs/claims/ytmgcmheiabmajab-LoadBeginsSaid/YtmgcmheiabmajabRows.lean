/-
  No cell of these rows narrows 'for every input' (looked for: loops, veiled, ifaces, maps, wideKeys, modest, calm, conditions, laid).
  DERIVED. THE GIVEN ROWS OF THIS SEAT. 3 by the template 'for every input the law returns true; each argument reads behind the call as it read before'; 0 by the template 'total and deterministic' (their statements: YtmgcmheiabmajabTotals.lean).
  GIVEN WITH THE SEED: the statements are not yours to turn. If you find one false, say at which input.
  Laid BY PROGRAM, IN A SANDBOX (cutbox-rows.mjs): the forced cells as the released guide's own fill.sh prints them over the translation f16762709d32bd25… (all of the seat's roots in one cut). By AI agents, Wed Nov 11 2026. No macro, syntax, notation, axiom, sorry.
-/
import Derived.Test.YtmgcmheiabmajabChecked
import GoSem.Claim
import GoSem.ClaimJoined
import GoSem.ClaimMapViews
import Derived.JoinedTies
import Derived.KernelRfl
namespace Go.Proofs.Ytmgcmheiabmajab
/- THE CELL 'sum', in the pinned program and in every row, IS THE sha256 OF THE DUMP (.gsa) THAT YtmgcmheiabmajabProg.lean LOADS. Nothing in Lean hashes anything: it is a label: what it is worth is what the hold of that sum in a sandbox is worth. -/
noncomputable def Try.pinned : Pinned := { name := "ytmgcmheiabmajab", sum := "f16762709d32bd257f7c6865b16ae4e848a6824f15a377ec65e17981c07f0351", checked := Try.checked }
namespace Rows
def none {H : Type} : Left H := { results := [], args := [] }

/-- 'pontoonlaw30.LoadMakes': WHATEVER THE INPUT: true; the input reads as it did. -/
def loadMakesSpec : ChangeSpec := { name := "loadMakes", fn := fun _ => fun
  | [d1, d2, d3] => { results := [.lit (.bool true)], args := [d1, d2, d3] }
  | _ => none }
def loadMakesRow : OpenClaim := { program := "ytmgcmheiabmajab", sum := "f16762709d32bd257f7c6865b16ae4e848a6824f15a377ec65e17981c07f0351", func := "pontoon/pontoonlaw30.LoadMakes", spec := "loadMakes", recurses := true, apart := false }
def LoadMakesSaid : Prop := loadMakesRow.holds Try.pinned (OpenSpec.ofChange loadMakesSpec)

/-- ITS FALSE NEIGHBOUR: 'it returns false'. Refute it at one input. -/
def loadMakesWrong : ChangeSpec := { name := "loadMakes", fn := fun _ => fun
  | [d1, d2, d3] => { results := [.lit (.bool false)], args := [d1, d2, d3] }
  | _ => none }
def LoadMakesWrongFalsely : Prop := loadMakesRow.holds Try.pinned (OpenSpec.ofChange loadMakesWrong)

/-- 'pontoonlaw30.LoadBegins': WHATEVER THE INPUT: true; the input reads as it did. -/
def loadBeginsSpec : ChangeSpec := { name := "loadBegins", fn := fun _ => fun
  | [d1, d2] => { results := [.lit (.bool true)], args := [d1, d2] }
  | _ => none }
def loadBeginsRow : OpenClaim := { program := "ytmgcmheiabmajab", sum := "f16762709d32bd257f7c6865b16ae4e848a6824f15a377ec65e17981c07f0351", func := "pontoon/pontoonlaw30.LoadBegins", spec := "loadBegins", recurses := true, apart := false }
def LoadBeginsSaid : Prop := loadBeginsRow.holds Try.pinned (OpenSpec.ofChange loadBeginsSpec)

/-- ITS FALSE NEIGHBOUR: 'it returns false'. Refute it at one input. -/
def loadBeginsWrong : ChangeSpec := { name := "loadBegins", fn := fun _ => fun
  | [d1, d2] => { results := [.lit (.bool false)], args := [d1, d2] }
  | _ => none }
def LoadBeginsWrongFalsely : Prop := loadBeginsRow.holds Try.pinned (OpenSpec.ofChange loadBeginsWrong)

/-- 'pontoonlaw30.LoadDraws': WHATEVER THE INPUT: true; the input reads as it did. -/
def loadDrawsSpec : ChangeSpec := { name := "loadDraws", fn := fun _ => fun
  | [d1, d2] => { results := [.lit (.bool true)], args := [d1, d2] }
  | _ => none }
def loadDrawsRow : OpenClaim := { program := "ytmgcmheiabmajab", sum := "f16762709d32bd257f7c6865b16ae4e848a6824f15a377ec65e17981c07f0351", func := "pontoon/pontoonlaw30.LoadDraws", spec := "loadDraws", recurses := true, apart := false }
def LoadDrawsSaid : Prop := loadDrawsRow.holds Try.pinned (OpenSpec.ofChange loadDrawsSpec)

/-- ITS FALSE NEIGHBOUR: 'it returns false'. Refute it at one input. -/
def loadDrawsWrong : ChangeSpec := { name := "loadDraws", fn := fun _ => fun
  | [d1, d2] => { results := [.lit (.bool false)], args := [d1, d2] }
  | _ => none }
def LoadDrawsWrongFalsely : Prop := loadDrawsRow.holds Try.pinned (OpenSpec.ofChange loadDrawsWrong)

/- THE SECOND FORM. 'bulk': how many values and letters a reading holds, each counted each time it is reached (what is shared counts as often as it is met; a slice's spare places count too). A statement '..UptoSaid' is the law's where the arguments, and the package variables that the reading takes, are together of bulk at most 1048576: NARROWER than '..Said'. Prove '..Said' where nothing that the law and all that it calls make is longer than what came in: it says more and counts as full. Else prove '..UptoSaid'. A law counts once. -/
mutual
def uptoBulk {H : Type} : DataW H → Nat
  | .lit (.string bytes) => bytes.length + 1
  | .lit _ => 1
  | .nil => 1
  | .ptr d => uptoBulk d + 1
  | .slice elems spare => uptoBulkAll elems + uptoBulkAll spare + 1
  | .agg parts => uptoBulkAll parts + 1
  | .iface _ d => uptoBulk d + 1
  | .map entries => uptoBulkEntries entries + 1
  | .held _ => 1
def uptoBulkAll {H : Type} : List (DataW H) → Nat
  | [] => 0
  | d :: r => uptoBulk d + uptoBulkAll r
def uptoBulkEntries {H : Type} : List (Lit × DataW H) → Nat
  | [] => 0
  | x :: r => uptoBulkEntry x + uptoBulkEntries r
def uptoBulkEntry {H : Type} : Lit × DataW H → Nat
  | (.string bytes, d) => bytes.length + uptoBulk d + 1
  | (_, d) => uptoBulk d + 1
 end
def uptoSmall : (H : Type) → List (DataW H) → Bool := fun _ ds => decide (uptoBulkAll ds ≤ 1048576)
def OpenSpec.upto (s : _root_.Go.ChangeSpec) : _root_.Go.OpenSpec := { _root_.Go.OpenSpec.ofChange s with cond := some uptoSmall }

/-- 'pontoonlaw30.LoadMakes', WHERE WHAT IT READS IS OF BULK AT MOST 1048576: true; the input reads as it did. -/
def loadMakesUptoRow : OpenClaim := { program := "ytmgcmheiabmajab", sum := "f16762709d32bd257f7c6865b16ae4e848a6824f15a377ec65e17981c07f0351", func := "pontoon/pontoonlaw30.LoadMakes", spec := "loadMakes", recurses := true, apart := false, narrowed := true }
def LoadMakesUptoSaid : Prop := loadMakesUptoRow.holds Try.pinned (OpenSpec.upto loadMakesSpec)

/-- 'pontoonlaw30.LoadBegins', WHERE WHAT IT READS IS OF BULK AT MOST 1048576: true; the input reads as it did. -/
def loadBeginsUptoRow : OpenClaim := { program := "ytmgcmheiabmajab", sum := "f16762709d32bd257f7c6865b16ae4e848a6824f15a377ec65e17981c07f0351", func := "pontoon/pontoonlaw30.LoadBegins", spec := "loadBegins", recurses := true, apart := false, narrowed := true }
def LoadBeginsUptoSaid : Prop := loadBeginsUptoRow.holds Try.pinned (OpenSpec.upto loadBeginsSpec)

/-- 'pontoonlaw30.LoadDraws', WHERE WHAT IT READS IS OF BULK AT MOST 1048576: true; the input reads as it did. -/
def loadDrawsUptoRow : OpenClaim := { program := "ytmgcmheiabmajab", sum := "f16762709d32bd257f7c6865b16ae4e848a6824f15a377ec65e17981c07f0351", func := "pontoon/pontoonlaw30.LoadDraws", spec := "loadDraws", recurses := true, apart := false, narrowed := true }
def LoadDrawsUptoSaid : Prop := loadDrawsUptoRow.holds Try.pinned (OpenSpec.upto loadDrawsSpec)

end Rows
end Go.Proofs.Ytmgcmheiabmajab
