/-
  No cell of these rows narrows 'for every input' (looked for: loops, veiled, ifaces, maps, wideKeys, modest, calm, conditions, laid).
  DERIVED. THE GIVEN ROWS OF THIS SEAT. 5 by the template 'for every input the law returns true; each argument reads behind the call as it read before'; 0 by the template 'total and deterministic' (their statements: YtcmjfcfjppioeaaTotals.lean).
  GIVEN WITH THE SEED: the statements are not yours to turn. If you find one false, say at which input.
  Laid BY PROGRAM, IN A SANDBOX (cutbox-rows.mjs): the forced cells as the released guide's own fill.sh prints them over the translation a4af394ce58d9e6a… (all of the seat's roots in one cut). By AI agents, Wed Nov 11 2026. No macro, syntax, notation, axiom, sorry.
-/
import Derived.Test.YtcmjfcfjppioeaaChecked
import GoSem.Claim
import GoSem.ClaimJoined
import GoSem.ClaimMapViews
import Derived.JoinedTies
import Derived.KernelRfl
namespace Go.Proofs.Ytcmjfcfjppioeaa
/- THE CELL 'sum', in the pinned program and in every row, IS THE sha256 OF THE DUMP (.gsa) THAT YtcmjfcfjppioeaaProg.lean LOADS. Nothing in Lean hashes anything: it is a label: what it is worth is what the hold of that sum in a sandbox is worth. -/
noncomputable def Try.pinned : Pinned := { name := "ytcmjfcfjppioeaa", sum := "a4af394ce58d9e6a5a0006429efa69d9722e516849ea32f069cfab1cf83580b3", checked := Try.checked }
namespace Rows
def none {H : Type} : Left H := { results := [], args := [] }

/-- 'pontoonlaw04.LexerScans': WHATEVER THE INPUT: true; the input reads as it did. -/
def lexerScansSpec : ChangeSpec := { name := "lexerScans", fn := fun _ => fun
  | [d] => { results := [.lit (.bool true)], args := [d] }
  | _ => none }
def lexerScansRow : OpenClaim := { program := "ytcmjfcfjppioeaa", sum := "a4af394ce58d9e6a5a0006429efa69d9722e516849ea32f069cfab1cf83580b3", func := "pontoon/pontoonlaw04.LexerScans", spec := "lexerScans", unfollowed := true, recurses := true, apart := false }
def LexerScansSaid : Prop := lexerScansRow.holds Try.pinned (OpenSpec.ofChange lexerScansSpec)

/-- ITS FALSE NEIGHBOUR: 'it returns false'. Refute it at one input. -/
def lexerScansWrong : ChangeSpec := { name := "lexerScans", fn := fun _ => fun
  | [d] => { results := [.lit (.bool false)], args := [d] }
  | _ => none }
def LexerScansWrongFalsely : Prop := lexerScansRow.holds Try.pinned (OpenSpec.ofChange lexerScansWrong)

/-- 'pontoonlaw04.LexerTells': WHATEVER THE INPUT: true; the input reads as it did. -/
def lexerTellsSpec : ChangeSpec := { name := "lexerTells", fn := fun _ => fun
  | [d] => { results := [.lit (.bool true)], args := [d] }
  | _ => none }
def lexerTellsRow : OpenClaim := { program := "ytcmjfcfjppioeaa", sum := "a4af394ce58d9e6a5a0006429efa69d9722e516849ea32f069cfab1cf83580b3", func := "pontoon/pontoonlaw04.LexerTells", spec := "lexerTells", unfollowed := true, recurses := true, apart := false }
def LexerTellsSaid : Prop := lexerTellsRow.holds Try.pinned (OpenSpec.ofChange lexerTellsSpec)

/-- ITS FALSE NEIGHBOUR: 'it returns false'. Refute it at one input. -/
def lexerTellsWrong : ChangeSpec := { name := "lexerTells", fn := fun _ => fun
  | [d] => { results := [.lit (.bool false)], args := [d] }
  | _ => none }
def LexerTellsWrongFalsely : Prop := lexerTellsRow.holds Try.pinned (OpenSpec.ofChange lexerTellsWrong)

/-- 'pontoonlaw04.LexerBack': WHATEVER THE INPUT: true; the input reads as it did. -/
def lexerBackSpec : ChangeSpec := { name := "lexerBack", fn := fun _ => fun
  | [d] => { results := [.lit (.bool true)], args := [d] }
  | _ => none }
def lexerBackRow : OpenClaim := { program := "ytcmjfcfjppioeaa", sum := "a4af394ce58d9e6a5a0006429efa69d9722e516849ea32f069cfab1cf83580b3", func := "pontoon/pontoonlaw04.LexerBack", spec := "lexerBack", unfollowed := true, recurses := true, apart := false }
def LexerBackSaid : Prop := lexerBackRow.holds Try.pinned (OpenSpec.ofChange lexerBackSpec)

/-- ITS FALSE NEIGHBOUR: 'it returns false'. Refute it at one input. -/
def lexerBackWrong : ChangeSpec := { name := "lexerBack", fn := fun _ => fun
  | [d] => { results := [.lit (.bool false)], args := [d] }
  | _ => none }
def LexerBackWrongFalsely : Prop := lexerBackRow.holds Try.pinned (OpenSpec.ofChange lexerBackWrong)

/-- 'pontoonlaw04.LexerQuotes': WHATEVER THE INPUT: true; the input reads as it did. -/
def lexerQuotesSpec : ChangeSpec := { name := "lexerQuotes", fn := fun _ => fun
  | [d] => { results := [.lit (.bool true)], args := [d] }
  | _ => none }
def lexerQuotesRow : OpenClaim := { program := "ytcmjfcfjppioeaa", sum := "a4af394ce58d9e6a5a0006429efa69d9722e516849ea32f069cfab1cf83580b3", func := "pontoon/pontoonlaw04.LexerQuotes", spec := "lexerQuotes", unfollowed := true, recurses := true, apart := false }
def LexerQuotesSaid : Prop := lexerQuotesRow.holds Try.pinned (OpenSpec.ofChange lexerQuotesSpec)

/-- ITS FALSE NEIGHBOUR: 'it returns false'. Refute it at one input. -/
def lexerQuotesWrong : ChangeSpec := { name := "lexerQuotes", fn := fun _ => fun
  | [d] => { results := [.lit (.bool false)], args := [d] }
  | _ => none }
def LexerQuotesWrongFalsely : Prop := lexerQuotesRow.holds Try.pinned (OpenSpec.ofChange lexerQuotesWrong)

/-- 'pontoonlaw04.LexerAhead': WHATEVER THE INPUT: true; the input reads as it did. -/
def lexerAheadSpec : ChangeSpec := { name := "lexerAhead", fn := fun _ => fun
  | [d] => { results := [.lit (.bool true)], args := [d] }
  | _ => none }
def lexerAheadRow : OpenClaim := { program := "ytcmjfcfjppioeaa", sum := "a4af394ce58d9e6a5a0006429efa69d9722e516849ea32f069cfab1cf83580b3", func := "pontoon/pontoonlaw04.LexerAhead", spec := "lexerAhead", unfollowed := true, recurses := true, apart := false }
def LexerAheadSaid : Prop := lexerAheadRow.holds Try.pinned (OpenSpec.ofChange lexerAheadSpec)

/-- ITS FALSE NEIGHBOUR: 'it returns false'. Refute it at one input. -/
def lexerAheadWrong : ChangeSpec := { name := "lexerAhead", fn := fun _ => fun
  | [d] => { results := [.lit (.bool false)], args := [d] }
  | _ => none }
def LexerAheadWrongFalsely : Prop := lexerAheadRow.holds Try.pinned (OpenSpec.ofChange lexerAheadWrong)

/- THE SECOND FORM. 'bulk': how many values and letters a reading holds, each counted each time it is reached (what is shared counts as often as it is met; a slice's spare places count too). A statement '..UptoSaid' is the law's where the arguments, and the package variables that the reading takes, are together of bulk at most 1048576: NARROWER than '..Said'. Prove '..Said' where nothing that the law and all that it calls make is longer than what came in: it says more and counts as full. Else prove '..UptoSaid'. A law counts once. -/
mutual
def uptoBulk {H : Type} : DataW H → Nat
  | .lit (.string bytes) => bytes.length + 1
  | .lit _ => 1
  | .nil => 1
  | .ptr d => uptoBulk d + 1
  | .slice elems spare => uptoBulkAll elems + uptoBulkAll spare + 1
  | .agg parts => uptoBulkAll parts + 1
  | .iface _ d => uptoBulk d + 1
  | .map entries => uptoBulkEntries entries + 1
  | .held _ => 1
def uptoBulkAll {H : Type} : List (DataW H) → Nat
  | [] => 0
  | d :: r => uptoBulk d + uptoBulkAll r
def uptoBulkEntries {H : Type} : List (Lit × DataW H) → Nat
  | [] => 0
  | x :: r => uptoBulkEntry x + uptoBulkEntries r
def uptoBulkEntry {H : Type} : Lit × DataW H → Nat
  | (.string bytes, d) => bytes.length + uptoBulk d + 1
  | (_, d) => uptoBulk d + 1
 end
def uptoSmall : (H : Type) → List (DataW H) → Bool := fun _ ds => decide (uptoBulkAll ds ≤ 1048576)
def OpenSpec.upto (s : _root_.Go.ChangeSpec) : _root_.Go.OpenSpec := { _root_.Go.OpenSpec.ofChange s with cond := some uptoSmall }

/-- 'pontoonlaw04.LexerScans', WHERE WHAT IT READS IS OF BULK AT MOST 1048576: true; the input reads as it did. -/
def lexerScansUptoRow : OpenClaim := { program := "ytcmjfcfjppioeaa", sum := "a4af394ce58d9e6a5a0006429efa69d9722e516849ea32f069cfab1cf83580b3", func := "pontoon/pontoonlaw04.LexerScans", spec := "lexerScans", unfollowed := true, recurses := true, apart := false, narrowed := true }
def LexerScansUptoSaid : Prop := lexerScansUptoRow.holds Try.pinned (OpenSpec.upto lexerScansSpec)

/-- 'pontoonlaw04.LexerTells', WHERE WHAT IT READS IS OF BULK AT MOST 1048576: true; the input reads as it did. -/
def lexerTellsUptoRow : OpenClaim := { program := "ytcmjfcfjppioeaa", sum := "a4af394ce58d9e6a5a0006429efa69d9722e516849ea32f069cfab1cf83580b3", func := "pontoon/pontoonlaw04.LexerTells", spec := "lexerTells", unfollowed := true, recurses := true, apart := false, narrowed := true }
def LexerTellsUptoSaid : Prop := lexerTellsUptoRow.holds Try.pinned (OpenSpec.upto lexerTellsSpec)

/-- 'pontoonlaw04.LexerBack', WHERE WHAT IT READS IS OF BULK AT MOST 1048576: true; the input reads as it did. -/
def lexerBackUptoRow : OpenClaim := { program := "ytcmjfcfjppioeaa", sum := "a4af394ce58d9e6a5a0006429efa69d9722e516849ea32f069cfab1cf83580b3", func := "pontoon/pontoonlaw04.LexerBack", spec := "lexerBack", unfollowed := true, recurses := true, apart := false, narrowed := true }
def LexerBackUptoSaid : Prop := lexerBackUptoRow.holds Try.pinned (OpenSpec.upto lexerBackSpec)

/-- 'pontoonlaw04.LexerQuotes', WHERE WHAT IT READS IS OF BULK AT MOST 1048576: true; the input reads as it did. -/
def lexerQuotesUptoRow : OpenClaim := { program := "ytcmjfcfjppioeaa", sum := "a4af394ce58d9e6a5a0006429efa69d9722e516849ea32f069cfab1cf83580b3", func := "pontoon/pontoonlaw04.LexerQuotes", spec := "lexerQuotes", unfollowed := true, recurses := true, apart := false, narrowed := true }
def LexerQuotesUptoSaid : Prop := lexerQuotesUptoRow.holds Try.pinned (OpenSpec.upto lexerQuotesSpec)

/-- 'pontoonlaw04.LexerAhead', WHERE WHAT IT READS IS OF BULK AT MOST 1048576: true; the input reads as it did. -/
def lexerAheadUptoRow : OpenClaim := { program := "ytcmjfcfjppioeaa", sum := "a4af394ce58d9e6a5a0006429efa69d9722e516849ea32f069cfab1cf83580b3", func := "pontoon/pontoonlaw04.LexerAhead", spec := "lexerAhead", unfollowed := true, recurses := true, apart := false, narrowed := true }
def LexerAheadUptoSaid : Prop := lexerAheadUptoRow.holds Try.pinned (OpenSpec.upto lexerAheadSpec)

end Rows
end Go.Proofs.Ytcmjfcfjppioeaa
