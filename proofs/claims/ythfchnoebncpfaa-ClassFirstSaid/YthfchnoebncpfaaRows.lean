/-
  No cell of these rows narrows 'for every input' (looked for: loops, veiled, ifaces, maps, wideKeys, modest, calm, conditions, laid).
  DERIVED. THE GIVEN ROWS OF THIS SEAT. 5 by the template 'for every input the law returns true; each argument reads behind the call as it read before'; 0 by the template 'total and deterministic' (their statements: YthfchnoebncpfaaTotals.lean).
  GIVEN WITH THE SEED: the statements are not yours to turn. If you find one false, say at which input.
  Laid BY PROGRAM, IN A SANDBOX (cutbox-rows.mjs): the forced cells as the released guide's own fill.sh prints them over the translation d4c6dd14190f2033… (all of the seat's roots in one cut). By AI agents, Wed Nov 11 2026. No macro, syntax, notation, axiom, sorry.
-/
import Derived.Test.YthfchnoebncpfaaChecked
import GoSem.Claim
import GoSem.ClaimJoined
import GoSem.ClaimMapViews
import Derived.JoinedTies
import Derived.KernelRfl
namespace Go.Proofs.Ythfchnoebncpfaa
/- THE CELL 'sum', in the pinned program and in every row, IS THE sha256 OF THE DUMP (.gsa) THAT YthfchnoebncpfaaProg.lean LOADS. Nothing in Lean hashes anything: it is a label: what it is worth is what the hold of that sum in a sandbox is worth. -/
noncomputable def Try.pinned : Pinned := { name := "ythfchnoebncpfaa", sum := "d4c6dd14190f2033aa92c9b186338921181ac3f9ee4e6f939a68d6f4ce494302", checked := Try.checked }
namespace Rows
def none {H : Type} : Left H := { results := [], args := [] }

/-- 'pontoonlaw06.ClassTells': WHATEVER THE INPUT: true; the input reads as it did. -/
def classTellsSpec : ChangeSpec := { name := "classTells", fn := fun _ => fun
  | [d1, d2] => { results := [.lit (.bool true)], args := [d1, d2] }
  | _ => none }
def classTellsRow : OpenClaim := { program := "ythfchnoebncpfaa", sum := "d4c6dd14190f2033aa92c9b186338921181ac3f9ee4e6f939a68d6f4ce494302", func := "pontoon/pontoonlaw06.ClassTells", spec := "classTells", unfollowed := true, recurses := true, apart := false }
def ClassTellsSaid : Prop := classTellsRow.holds Try.pinned (OpenSpec.ofChange classTellsSpec)

/-- ITS FALSE NEIGHBOUR: 'it returns false'. Refute it at one input. -/
def classTellsWrong : ChangeSpec := { name := "classTells", fn := fun _ => fun
  | [d1, d2] => { results := [.lit (.bool false)], args := [d1, d2] }
  | _ => none }
def ClassTellsWrongFalsely : Prop := classTellsRow.holds Try.pinned (OpenSpec.ofChange classTellsWrong)

/-- 'pontoonlaw06.ClassParts': WHATEVER THE INPUT: true; the input reads as it did. -/
def classPartsSpec : ChangeSpec := { name := "classParts", fn := fun _ => fun
  | [d1, d2, d3] => { results := [.lit (.bool true)], args := [d1, d2, d3] }
  | _ => none }
def classPartsRow : OpenClaim := { program := "ythfchnoebncpfaa", sum := "d4c6dd14190f2033aa92c9b186338921181ac3f9ee4e6f939a68d6f4ce494302", func := "pontoon/pontoonlaw06.ClassParts", spec := "classParts", unfollowed := true, recurses := true, apart := false }
def ClassPartsSaid : Prop := classPartsRow.holds Try.pinned (OpenSpec.ofChange classPartsSpec)

/-- ITS FALSE NEIGHBOUR: 'it returns false'. Refute it at one input. -/
def classPartsWrong : ChangeSpec := { name := "classParts", fn := fun _ => fun
  | [d1, d2, d3] => { results := [.lit (.bool false)], args := [d1, d2, d3] }
  | _ => none }
def ClassPartsWrongFalsely : Prop := classPartsRow.holds Try.pinned (OpenSpec.ofChange classPartsWrong)

/-- 'pontoonlaw06.ClassReads': WHATEVER THE INPUT: true; the input reads as it did. -/
def classReadsSpec : ChangeSpec := { name := "classReads", fn := fun _ => fun
  | [d] => { results := [.lit (.bool true)], args := [d] }
  | _ => none }
def classReadsRow : OpenClaim := { program := "ythfchnoebncpfaa", sum := "d4c6dd14190f2033aa92c9b186338921181ac3f9ee4e6f939a68d6f4ce494302", func := "pontoon/pontoonlaw06.ClassReads", spec := "classReads", unfollowed := true, recurses := true, apart := false }
def ClassReadsSaid : Prop := classReadsRow.holds Try.pinned (OpenSpec.ofChange classReadsSpec)

/-- ITS FALSE NEIGHBOUR: 'it returns false'. Refute it at one input. -/
def classReadsWrong : ChangeSpec := { name := "classReads", fn := fun _ => fun
  | [d] => { results := [.lit (.bool false)], args := [d] }
  | _ => none }
def ClassReadsWrongFalsely : Prop := classReadsRow.holds Try.pinned (OpenSpec.ofChange classReadsWrong)

/-- 'pontoonlaw06.ClassQuotes': WHATEVER THE INPUT: true; the input reads as it did. -/
def classQuotesSpec : ChangeSpec := { name := "classQuotes", fn := fun _ => fun
  | [d1, d2] => { results := [.lit (.bool true)], args := [d1, d2] }
  | _ => none }
def classQuotesRow : OpenClaim := { program := "ythfchnoebncpfaa", sum := "d4c6dd14190f2033aa92c9b186338921181ac3f9ee4e6f939a68d6f4ce494302", func := "pontoon/pontoonlaw06.ClassQuotes", spec := "classQuotes", unfollowed := true, recurses := true, apart := false }
def ClassQuotesSaid : Prop := classQuotesRow.holds Try.pinned (OpenSpec.ofChange classQuotesSpec)

/-- ITS FALSE NEIGHBOUR: 'it returns false'. Refute it at one input. -/
def classQuotesWrong : ChangeSpec := { name := "classQuotes", fn := fun _ => fun
  | [d1, d2] => { results := [.lit (.bool false)], args := [d1, d2] }
  | _ => none }
def ClassQuotesWrongFalsely : Prop := classQuotesRow.holds Try.pinned (OpenSpec.ofChange classQuotesWrong)

/-- 'pontoonlaw06.ClassFirst': WHATEVER THE INPUT: true; the input reads as it did. -/
def classFirstSpec : ChangeSpec := { name := "classFirst", fn := fun _ => fun
  | [d1, d2] => { results := [.lit (.bool true)], args := [d1, d2] }
  | _ => none }
def classFirstRow : OpenClaim := { program := "ythfchnoebncpfaa", sum := "d4c6dd14190f2033aa92c9b186338921181ac3f9ee4e6f939a68d6f4ce494302", func := "pontoon/pontoonlaw06.ClassFirst", spec := "classFirst", unfollowed := true, recurses := true, apart := false }
def ClassFirstSaid : Prop := classFirstRow.holds Try.pinned (OpenSpec.ofChange classFirstSpec)

/-- ITS FALSE NEIGHBOUR: 'it returns false'. Refute it at one input. -/
def classFirstWrong : ChangeSpec := { name := "classFirst", fn := fun _ => fun
  | [d1, d2] => { results := [.lit (.bool false)], args := [d1, d2] }
  | _ => none }
def ClassFirstWrongFalsely : Prop := classFirstRow.holds Try.pinned (OpenSpec.ofChange classFirstWrong)

/- THE SECOND FORM. 'bulk': how many values and letters a reading holds, each counted each time it is reached (what is shared counts as often as it is met; a slice's spare places count too). A statement '..UptoSaid' is the law's where the arguments, and the package variables that the reading takes, are together of bulk at most 1048576: NARROWER than '..Said'. Prove '..Said' where nothing that the law and all that it calls make is longer than what came in: it says more and counts as full. Else prove '..UptoSaid'. A law counts once. -/
mutual
def uptoBulk {H : Type} : DataW H → Nat
  | .lit (.string bytes) => bytes.length + 1
  | .lit _ => 1
  | .nil => 1
  | .ptr d => uptoBulk d + 1
  | .slice elems spare => uptoBulkAll elems + uptoBulkAll spare + 1
  | .agg parts => uptoBulkAll parts + 1
  | .iface _ d => uptoBulk d + 1
  | .map entries => uptoBulkEntries entries + 1
  | .held _ => 1
def uptoBulkAll {H : Type} : List (DataW H) → Nat
  | [] => 0
  | d :: r => uptoBulk d + uptoBulkAll r
def uptoBulkEntries {H : Type} : List (Lit × DataW H) → Nat
  | [] => 0
  | x :: r => uptoBulkEntry x + uptoBulkEntries r
def uptoBulkEntry {H : Type} : Lit × DataW H → Nat
  | (.string bytes, d) => bytes.length + uptoBulk d + 1
  | (_, d) => uptoBulk d + 1
 end
def uptoSmall : (H : Type) → List (DataW H) → Bool := fun _ ds => decide (uptoBulkAll ds ≤ 1048576)
def OpenSpec.upto (s : _root_.Go.ChangeSpec) : _root_.Go.OpenSpec := { _root_.Go.OpenSpec.ofChange s with cond := some uptoSmall }

/-- 'pontoonlaw06.ClassTells', WHERE WHAT IT READS IS OF BULK AT MOST 1048576: true; the input reads as it did. -/
def classTellsUptoRow : OpenClaim := { program := "ythfchnoebncpfaa", sum := "d4c6dd14190f2033aa92c9b186338921181ac3f9ee4e6f939a68d6f4ce494302", func := "pontoon/pontoonlaw06.ClassTells", spec := "classTells", unfollowed := true, recurses := true, apart := false, narrowed := true }
def ClassTellsUptoSaid : Prop := classTellsUptoRow.holds Try.pinned (OpenSpec.upto classTellsSpec)

/-- 'pontoonlaw06.ClassParts', WHERE WHAT IT READS IS OF BULK AT MOST 1048576: true; the input reads as it did. -/
def classPartsUptoRow : OpenClaim := { program := "ythfchnoebncpfaa", sum := "d4c6dd14190f2033aa92c9b186338921181ac3f9ee4e6f939a68d6f4ce494302", func := "pontoon/pontoonlaw06.ClassParts", spec := "classParts", unfollowed := true, recurses := true, apart := false, narrowed := true }
def ClassPartsUptoSaid : Prop := classPartsUptoRow.holds Try.pinned (OpenSpec.upto classPartsSpec)

/-- 'pontoonlaw06.ClassReads', WHERE WHAT IT READS IS OF BULK AT MOST 1048576: true; the input reads as it did. -/
def classReadsUptoRow : OpenClaim := { program := "ythfchnoebncpfaa", sum := "d4c6dd14190f2033aa92c9b186338921181ac3f9ee4e6f939a68d6f4ce494302", func := "pontoon/pontoonlaw06.ClassReads", spec := "classReads", unfollowed := true, recurses := true, apart := false, narrowed := true }
def ClassReadsUptoSaid : Prop := classReadsUptoRow.holds Try.pinned (OpenSpec.upto classReadsSpec)

/-- 'pontoonlaw06.ClassQuotes', WHERE WHAT IT READS IS OF BULK AT MOST 1048576: true; the input reads as it did. -/
def classQuotesUptoRow : OpenClaim := { program := "ythfchnoebncpfaa", sum := "d4c6dd14190f2033aa92c9b186338921181ac3f9ee4e6f939a68d6f4ce494302", func := "pontoon/pontoonlaw06.ClassQuotes", spec := "classQuotes", unfollowed := true, recurses := true, apart := false, narrowed := true }
def ClassQuotesUptoSaid : Prop := classQuotesUptoRow.holds Try.pinned (OpenSpec.upto classQuotesSpec)

/-- 'pontoonlaw06.ClassFirst', WHERE WHAT IT READS IS OF BULK AT MOST 1048576: true; the input reads as it did. -/
def classFirstUptoRow : OpenClaim := { program := "ythfchnoebncpfaa", sum := "d4c6dd14190f2033aa92c9b186338921181ac3f9ee4e6f939a68d6f4ce494302", func := "pontoon/pontoonlaw06.ClassFirst", spec := "classFirst", unfollowed := true, recurses := true, apart := false, narrowed := true }
def ClassFirstUptoSaid : Prop := classFirstUptoRow.holds Try.pinned (OpenSpec.upto classFirstSpec)

end Rows
end Go.Proofs.Ythfchnoebncpfaa
