/-
  No cell of these rows narrows 'for every input' (looked for: loops, veiled, ifaces, maps, wideKeys, modest, calm, conditions, laid).
  DERIVED. THE GIVEN ROWS OF THIS SEAT. 3 by the template 'for every input the law returns true; each argument reads behind the call as it read before'; 0 by the template 'total and deterministic' (their statements: YtmgcmheiabmajaaTotals.lean).
  GIVEN WITH THE SEED: the statements are not yours to turn. If you find one false, say at which input.
  Laid BY PROGRAM, IN A SANDBOX (cutbox-rows.mjs): the forced cells as the released guide's own fill.sh prints them over the translation add29a29340866bc… (all of the seat's roots in one cut). By AI agents, Wed Nov 11 2026. No macro, syntax, notation, axiom, sorry.
-/
import Derived.Test.YtmgcmheiabmajaaChecked
import GoSem.Claim
import GoSem.ClaimJoined
import GoSem.ClaimMapViews
import Derived.JoinedTies
import Derived.KernelRfl
namespace Go.Proofs.Ytmgcmheiabmajaa
/- THE CELL 'sum', in the pinned program and in every row, IS THE sha256 OF THE DUMP (.gsa) THAT YtmgcmheiabmajaaProg.lean LOADS. Nothing in Lean hashes anything: it is a label: what it is worth is what the hold of that sum in a sandbox is worth. -/
noncomputable def Try.pinned : Pinned := { name := "ytmgcmheiabmajaa", sum := "add29a29340866bcf55570aa48777c9dd0e9f7fb192ebdc6352edc09b6689b75", checked := Try.checked }
namespace Rows
def none {H : Type} : Left H := { results := [], args := [] }

/-- 'pontoonlaw29.GaugePlays': WHATEVER THE INPUT: true; the input reads as it did. -/
def gaugePlaysSpec : ChangeSpec := { name := "gaugePlays", fn := fun _ => fun
  | [d1, d2, d3] => { results := [.lit (.bool true)], args := [d1, d2, d3] }
  | _ => none }
def gaugePlaysRow : OpenClaim := { program := "ytmgcmheiabmajaa", sum := "add29a29340866bcf55570aa48777c9dd0e9f7fb192ebdc6352edc09b6689b75", func := "pontoon/pontoonlaw29.GaugePlays", spec := "gaugePlays", recurses := true, apart := false }
def GaugePlaysSaid : Prop := gaugePlaysRow.holds Try.pinned (OpenSpec.ofChange gaugePlaysSpec)

/-- ITS FALSE NEIGHBOUR: 'it returns false'. Refute it at one input. -/
def gaugePlaysWrong : ChangeSpec := { name := "gaugePlays", fn := fun _ => fun
  | [d1, d2, d3] => { results := [.lit (.bool false)], args := [d1, d2, d3] }
  | _ => none }
def GaugePlaysWrongFalsely : Prop := gaugePlaysRow.holds Try.pinned (OpenSpec.ofChange gaugePlaysWrong)

/-- 'pontoonlaw29.GaugeMerges': WHATEVER THE INPUT: true; the input reads as it did. -/
def gaugeMergesSpec : ChangeSpec := { name := "gaugeMerges", fn := fun _ => fun
  | [d1, d2, d3] => { results := [.lit (.bool true)], args := [d1, d2, d3] }
  | _ => none }
def gaugeMergesRow : OpenClaim := { program := "ytmgcmheiabmajaa", sum := "add29a29340866bcf55570aa48777c9dd0e9f7fb192ebdc6352edc09b6689b75", func := "pontoon/pontoonlaw29.GaugeMerges", spec := "gaugeMerges", recurses := true, apart := false }
def GaugeMergesSaid : Prop := gaugeMergesRow.holds Try.pinned (OpenSpec.ofChange gaugeMergesSpec)

/-- ITS FALSE NEIGHBOUR: 'it returns false'. Refute it at one input. -/
def gaugeMergesWrong : ChangeSpec := { name := "gaugeMerges", fn := fun _ => fun
  | [d1, d2, d3] => { results := [.lit (.bool false)], args := [d1, d2, d3] }
  | _ => none }
def GaugeMergesWrongFalsely : Prop := gaugeMergesRow.holds Try.pinned (OpenSpec.ofChange gaugeMergesWrong)

/-- 'pontoonlaw29.GaugeRanks': WHATEVER THE INPUT: true; the input reads as it did. -/
def gaugeRanksSpec : ChangeSpec := { name := "gaugeRanks", fn := fun _ => fun
  | [d1, d2, d3] => { results := [.lit (.bool true)], args := [d1, d2, d3] }
  | _ => none }
def gaugeRanksRow : OpenClaim := { program := "ytmgcmheiabmajaa", sum := "add29a29340866bcf55570aa48777c9dd0e9f7fb192ebdc6352edc09b6689b75", func := "pontoon/pontoonlaw29.GaugeRanks", spec := "gaugeRanks", recurses := true, apart := false }
def GaugeRanksSaid : Prop := gaugeRanksRow.holds Try.pinned (OpenSpec.ofChange gaugeRanksSpec)

/-- ITS FALSE NEIGHBOUR: 'it returns false'. Refute it at one input. -/
def gaugeRanksWrong : ChangeSpec := { name := "gaugeRanks", fn := fun _ => fun
  | [d1, d2, d3] => { results := [.lit (.bool false)], args := [d1, d2, d3] }
  | _ => none }
def GaugeRanksWrongFalsely : Prop := gaugeRanksRow.holds Try.pinned (OpenSpec.ofChange gaugeRanksWrong)

/- THE SECOND FORM. 'bulk': how many values and letters a reading holds, each counted each time it is reached (what is shared counts as often as it is met; a slice's spare places count too). A statement '..UptoSaid' is the law's where the arguments, and the package variables that the reading takes, are together of bulk at most 1048576: NARROWER than '..Said'. Prove '..Said' where nothing that the law and all that it calls make is longer than what came in: it says more and counts as full. Else prove '..UptoSaid'. A law counts once. -/
mutual
def uptoBulk {H : Type} : DataW H → Nat
  | .lit (.string bytes) => bytes.length + 1
  | .lit _ => 1
  | .nil => 1
  | .ptr d => uptoBulk d + 1
  | .slice elems spare => uptoBulkAll elems + uptoBulkAll spare + 1
  | .agg parts => uptoBulkAll parts + 1
  | .iface _ d => uptoBulk d + 1
  | .map entries => uptoBulkEntries entries + 1
  | .held _ => 1
def uptoBulkAll {H : Type} : List (DataW H) → Nat
  | [] => 0
  | d :: r => uptoBulk d + uptoBulkAll r
def uptoBulkEntries {H : Type} : List (Lit × DataW H) → Nat
  | [] => 0
  | x :: r => uptoBulkEntry x + uptoBulkEntries r
def uptoBulkEntry {H : Type} : Lit × DataW H → Nat
  | (.string bytes, d) => bytes.length + uptoBulk d + 1
  | (_, d) => uptoBulk d + 1
 end
def uptoSmall : (H : Type) → List (DataW H) → Bool := fun _ ds => decide (uptoBulkAll ds ≤ 1048576)
def OpenSpec.upto (s : _root_.Go.ChangeSpec) : _root_.Go.OpenSpec := { _root_.Go.OpenSpec.ofChange s with cond := some uptoSmall }

/-- 'pontoonlaw29.GaugePlays', WHERE WHAT IT READS IS OF BULK AT MOST 1048576: true; the input reads as it did. -/
def gaugePlaysUptoRow : OpenClaim := { program := "ytmgcmheiabmajaa", sum := "add29a29340866bcf55570aa48777c9dd0e9f7fb192ebdc6352edc09b6689b75", func := "pontoon/pontoonlaw29.GaugePlays", spec := "gaugePlays", recurses := true, apart := false, narrowed := true }
def GaugePlaysUptoSaid : Prop := gaugePlaysUptoRow.holds Try.pinned (OpenSpec.upto gaugePlaysSpec)

/-- 'pontoonlaw29.GaugeMerges', WHERE WHAT IT READS IS OF BULK AT MOST 1048576: true; the input reads as it did. -/
def gaugeMergesUptoRow : OpenClaim := { program := "ytmgcmheiabmajaa", sum := "add29a29340866bcf55570aa48777c9dd0e9f7fb192ebdc6352edc09b6689b75", func := "pontoon/pontoonlaw29.GaugeMerges", spec := "gaugeMerges", recurses := true, apart := false, narrowed := true }
def GaugeMergesUptoSaid : Prop := gaugeMergesUptoRow.holds Try.pinned (OpenSpec.upto gaugeMergesSpec)

/-- 'pontoonlaw29.GaugeRanks', WHERE WHAT IT READS IS OF BULK AT MOST 1048576: true; the input reads as it did. -/
def gaugeRanksUptoRow : OpenClaim := { program := "ytmgcmheiabmajaa", sum := "add29a29340866bcf55570aa48777c9dd0e9f7fb192ebdc6352edc09b6689b75", func := "pontoon/pontoonlaw29.GaugeRanks", spec := "gaugeRanks", recurses := true, apart := false, narrowed := true }
def GaugeRanksUptoSaid : Prop := gaugeRanksUptoRow.holds Try.pinned (OpenSpec.upto gaugeRanksSpec)

end Rows
end Go.Proofs.Ytmgcmheiabmajaa
