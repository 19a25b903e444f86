/-
  No cell of these rows narrows 'for every input' (looked for: loops, veiled, ifaces, maps, wideKeys, modest, calm, conditions, laid).
  DERIVED. THE GIVEN ROWS OF THIS SEAT. 5 by the template 'for every input the law returns true; each argument reads behind the call as it read before'; 0 by the template 'total and deterministic' (their statements: YtjmgookpmngmaadTotals.lean).
  GIVEN WITH THE SEED: the statements are not yours to turn. If you find one false, say at which input.
  Laid BY PROGRAM, IN A SANDBOX (cutbox-rows.mjs): the forced cells as the released guide's own fill.sh prints them over the translation 28eec92ea501738a… (all of the seat's roots in one cut). By AI agents, Wed Nov 11 2026. No macro, syntax, notation, axiom, sorry.
-/
import Derived.Test.YtjmgookpmngmaadChecked
import GoSem.Claim
import GoSem.ClaimJoined
import GoSem.ClaimMapViews
import Derived.JoinedTies
import Derived.KernelRfl
namespace Go.Proofs.Ytjmgookpmngmaad
/- THE CELL 'sum', in the pinned program and in every row, IS THE sha256 OF THE DUMP (.gsa) THAT YtjmgookpmngmaadProg.lean LOADS. Nothing in Lean hashes anything: it is a label: what it is worth is what the hold of that sum in a sandbox is worth. -/
noncomputable def Try.pinned : Pinned := { name := "ytjmgookpmngmaad", sum := "28eec92ea501738a48166f814ed0977becff425e3d66301b05566a1ba0445944", checked := Try.checked }
namespace Rows
def none {H : Type} : Left H := { results := [], args := [] }

/-- 'pontoonlaw18.PrepNames': WHATEVER THE INPUT: true; the input reads as it did. -/
def prepNamesSpec : ChangeSpec := { name := "prepNames", fn := fun _ => fun
  | [d1, d2] => { results := [.lit (.bool true)], args := [d1, d2] }
  | _ => none }
def prepNamesRow : OpenClaim := { program := "ytjmgookpmngmaad", sum := "28eec92ea501738a48166f814ed0977becff425e3d66301b05566a1ba0445944", func := "pontoon/pontoonlaw18.PrepNames", spec := "prepNames", recurses := true, apart := false }
def PrepNamesSaid : Prop := prepNamesRow.holds Try.pinned (OpenSpec.ofChange prepNamesSpec)

/-- ITS FALSE NEIGHBOUR: 'it returns false'. Refute it at one input. -/
def prepNamesWrong : ChangeSpec := { name := "prepNames", fn := fun _ => fun
  | [d1, d2] => { results := [.lit (.bool false)], args := [d1, d2] }
  | _ => none }
def PrepNamesWrongFalsely : Prop := prepNamesRow.holds Try.pinned (OpenSpec.ofChange prepNamesWrong)

/-- 'pontoonlaw18.PrepApart': WHATEVER THE INPUT: true; the input reads as it did. -/
def prepApartSpec : ChangeSpec := { name := "prepApart", fn := fun _ => fun
  | [d1, d2, d3] => { results := [.lit (.bool true)], args := [d1, d2, d3] }
  | _ => none }
def prepApartRow : OpenClaim := { program := "ytjmgookpmngmaad", sum := "28eec92ea501738a48166f814ed0977becff425e3d66301b05566a1ba0445944", func := "pontoon/pontoonlaw18.PrepApart", spec := "prepApart", recurses := true, apart := false }
def PrepApartSaid : Prop := prepApartRow.holds Try.pinned (OpenSpec.ofChange prepApartSpec)

/-- ITS FALSE NEIGHBOUR: 'it returns false'. Refute it at one input. -/
def prepApartWrong : ChangeSpec := { name := "prepApart", fn := fun _ => fun
  | [d1, d2, d3] => { results := [.lit (.bool false)], args := [d1, d2, d3] }
  | _ => none }
def PrepApartWrongFalsely : Prop := prepApartRow.holds Try.pinned (OpenSpec.ofChange prepApartWrong)

/-- 'pontoonlaw18.PrepLeaves': WHATEVER THE INPUT: true; the input reads as it did. -/
def prepLeavesSpec : ChangeSpec := { name := "prepLeaves", fn := fun _ => fun
  | [d1, d2] => { results := [.lit (.bool true)], args := [d1, d2] }
  | _ => none }
def prepLeavesRow : OpenClaim := { program := "ytjmgookpmngmaad", sum := "28eec92ea501738a48166f814ed0977becff425e3d66301b05566a1ba0445944", func := "pontoon/pontoonlaw18.PrepLeaves", spec := "prepLeaves", recurses := true, apart := false }
def PrepLeavesSaid : Prop := prepLeavesRow.holds Try.pinned (OpenSpec.ofChange prepLeavesSpec)

/-- ITS FALSE NEIGHBOUR: 'it returns false'. Refute it at one input. -/
def prepLeavesWrong : ChangeSpec := { name := "prepLeaves", fn := fun _ => fun
  | [d1, d2] => { results := [.lit (.bool false)], args := [d1, d2] }
  | _ => none }
def PrepLeavesWrongFalsely : Prop := prepLeavesRow.holds Try.pinned (OpenSpec.ofChange prepLeavesWrong)

/-- 'pontoonlaw18.PrepPlays': WHATEVER THE INPUT: true; the input reads as it did. -/
def prepPlaysSpec : ChangeSpec := { name := "prepPlays", fn := fun _ => fun
  | [d] => { results := [.lit (.bool true)], args := [d] }
  | _ => none }
def prepPlaysRow : OpenClaim := { program := "ytjmgookpmngmaad", sum := "28eec92ea501738a48166f814ed0977becff425e3d66301b05566a1ba0445944", func := "pontoon/pontoonlaw18.PrepPlays", spec := "prepPlays", recurses := true, apart := false }
def PrepPlaysSaid : Prop := prepPlaysRow.holds Try.pinned (OpenSpec.ofChange prepPlaysSpec)

/-- ITS FALSE NEIGHBOUR: 'it returns false'. Refute it at one input. -/
def prepPlaysWrong : ChangeSpec := { name := "prepPlays", fn := fun _ => fun
  | [d] => { results := [.lit (.bool false)], args := [d] }
  | _ => none }
def PrepPlaysWrongFalsely : Prop := prepPlaysRow.holds Try.pinned (OpenSpec.ofChange prepPlaysWrong)

/-- 'pontoonlaw18.PrepNil': WHATEVER THE INPUT: true; the input reads as it did. -/
def prepNilSpec : ChangeSpec := { name := "prepNil", fn := fun _ => fun
  | [d1, d2] => { results := [.lit (.bool true)], args := [d1, d2] }
  | _ => none }
def prepNilRow : OpenClaim := { program := "ytjmgookpmngmaad", sum := "28eec92ea501738a48166f814ed0977becff425e3d66301b05566a1ba0445944", func := "pontoon/pontoonlaw18.PrepNil", spec := "prepNil", recurses := true, apart := false }
def PrepNilSaid : Prop := prepNilRow.holds Try.pinned (OpenSpec.ofChange prepNilSpec)

/-- ITS FALSE NEIGHBOUR: 'it returns false'. Refute it at one input. -/
def prepNilWrong : ChangeSpec := { name := "prepNil", fn := fun _ => fun
  | [d1, d2] => { results := [.lit (.bool false)], args := [d1, d2] }
  | _ => none }
def PrepNilWrongFalsely : Prop := prepNilRow.holds Try.pinned (OpenSpec.ofChange prepNilWrong)

/- THE SECOND FORM. 'bulk': how many values and letters a reading holds, each counted each time it is reached (what is shared counts as often as it is met; a slice's spare places count too). A statement '..UptoSaid' is the law's where the arguments, and the package variables that the reading takes, are together of bulk at most 1048576: NARROWER than '..Said'. Prove '..Said' where nothing that the law and all that it calls make is longer than what came in: it says more and counts as full. Else prove '..UptoSaid'. A law counts once. -/
mutual
def uptoBulk {H : Type} : DataW H → Nat
  | .lit (.string bytes) => bytes.length + 1
  | .lit _ => 1
  | .nil => 1
  | .ptr d => uptoBulk d + 1
  | .slice elems spare => uptoBulkAll elems + uptoBulkAll spare + 1
  | .agg parts => uptoBulkAll parts + 1
  | .iface _ d => uptoBulk d + 1
  | .map entries => uptoBulkEntries entries + 1
  | .held _ => 1
def uptoBulkAll {H : Type} : List (DataW H) → Nat
  | [] => 0
  | d :: r => uptoBulk d + uptoBulkAll r
def uptoBulkEntries {H : Type} : List (Lit × DataW H) → Nat
  | [] => 0
  | x :: r => uptoBulkEntry x + uptoBulkEntries r
def uptoBulkEntry {H : Type} : Lit × DataW H → Nat
  | (.string bytes, d) => bytes.length + uptoBulk d + 1
  | (_, d) => uptoBulk d + 1
 end
def uptoSmall : (H : Type) → List (DataW H) → Bool := fun _ ds => decide (uptoBulkAll ds ≤ 1048576)
def OpenSpec.upto (s : _root_.Go.ChangeSpec) : _root_.Go.OpenSpec := { _root_.Go.OpenSpec.ofChange s with cond := some uptoSmall }

/-- 'pontoonlaw18.PrepNames', WHERE WHAT IT READS IS OF BULK AT MOST 1048576: true; the input reads as it did. -/
def prepNamesUptoRow : OpenClaim := { program := "ytjmgookpmngmaad", sum := "28eec92ea501738a48166f814ed0977becff425e3d66301b05566a1ba0445944", func := "pontoon/pontoonlaw18.PrepNames", spec := "prepNames", recurses := true, apart := false, narrowed := true }
def PrepNamesUptoSaid : Prop := prepNamesUptoRow.holds Try.pinned (OpenSpec.upto prepNamesSpec)

/-- 'pontoonlaw18.PrepApart', WHERE WHAT IT READS IS OF BULK AT MOST 1048576: true; the input reads as it did. -/
def prepApartUptoRow : OpenClaim := { program := "ytjmgookpmngmaad", sum := "28eec92ea501738a48166f814ed0977becff425e3d66301b05566a1ba0445944", func := "pontoon/pontoonlaw18.PrepApart", spec := "prepApart", recurses := true, apart := false, narrowed := true }
def PrepApartUptoSaid : Prop := prepApartUptoRow.holds Try.pinned (OpenSpec.upto prepApartSpec)

/-- 'pontoonlaw18.PrepLeaves', WHERE WHAT IT READS IS OF BULK AT MOST 1048576: true; the input reads as it did. -/
def prepLeavesUptoRow : OpenClaim := { program := "ytjmgookpmngmaad", sum := "28eec92ea501738a48166f814ed0977becff425e3d66301b05566a1ba0445944", func := "pontoon/pontoonlaw18.PrepLeaves", spec := "prepLeaves", recurses := true, apart := false, narrowed := true }
def PrepLeavesUptoSaid : Prop := prepLeavesUptoRow.holds Try.pinned (OpenSpec.upto prepLeavesSpec)

/-- 'pontoonlaw18.PrepPlays', WHERE WHAT IT READS IS OF BULK AT MOST 1048576: true; the input reads as it did. -/
def prepPlaysUptoRow : OpenClaim := { program := "ytjmgookpmngmaad", sum := "28eec92ea501738a48166f814ed0977becff425e3d66301b05566a1ba0445944", func := "pontoon/pontoonlaw18.PrepPlays", spec := "prepPlays", recurses := true, apart := false, narrowed := true }
def PrepPlaysUptoSaid : Prop := prepPlaysUptoRow.holds Try.pinned (OpenSpec.upto prepPlaysSpec)

/-- 'pontoonlaw18.PrepNil', WHERE WHAT IT READS IS OF BULK AT MOST 1048576: true; the input reads as it did. -/
def prepNilUptoRow : OpenClaim := { program := "ytjmgookpmngmaad", sum := "28eec92ea501738a48166f814ed0977becff425e3d66301b05566a1ba0445944", func := "pontoon/pontoonlaw18.PrepNil", spec := "prepNil", recurses := true, apart := false, narrowed := true }
def PrepNilUptoSaid : Prop := prepNilUptoRow.holds Try.pinned (OpenSpec.upto prepNilSpec)

end Rows
end Go.Proofs.Ytjmgookpmngmaad
