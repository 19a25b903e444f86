/-
  No cell of these rows narrows 'for every input' (looked for: loops, veiled, ifaces, maps, wideKeys, modest, calm, conditions, laid).
  DERIVED. THE GIVEN ROWS OF THIS SEAT. 5 by the template 'for every input the law returns true; each argument reads behind the call as it read before'; 0 by the template 'total and deterministic' (their statements: YtjmgookpmngmaacTotals.lean).
  GIVEN WITH THE SEED: the statements are not yours to turn. If you find one false, say at which input.
  Laid BY PROGRAM, IN A SANDBOX (cutbox-rows.mjs): the forced cells as the released guide's own fill.sh prints them over the translation 8b4848dfcdad66d5… (all of the seat's roots in one cut). By AI agents, Wed Nov 11 2026. No macro, syntax, notation, axiom, sorry.
-/
import Derived.Test.YtjmgookpmngmaacChecked
import GoSem.Claim
import GoSem.ClaimJoined
import GoSem.ClaimMapViews
import Derived.JoinedTies
import Derived.KernelRfl
namespace Go.Proofs.Ytjmgookpmngmaac
/- THE CELL 'sum', in the pinned program and in every row, IS THE sha256 OF THE DUMP (.gsa) THAT YtjmgookpmngmaacProg.lean LOADS. Nothing in Lean hashes anything: it is a label: what it is worth is what the hold of that sum in a sandbox is worth. -/
noncomputable def Try.pinned : Pinned := { name := "ytjmgookpmngmaac", sum := "8b4848dfcdad66d518686bf7cf63d59c0fcfda44dc32ff4ef48f12f8b2041afe", checked := Try.checked }
namespace Rows
def none {H : Type} : Left H := { results := [], args := [] }

/-- 'pontoonlaw13.VersFresh': WHATEVER THE INPUT: true; the input reads as it did. -/
def versFreshSpec : ChangeSpec := { name := "versFresh", fn := fun _ => fun
  | [d1, d2, d3] => { results := [.lit (.bool true)], args := [d1, d2, d3] }
  | _ => none }
def versFreshRow : OpenClaim := { program := "ytjmgookpmngmaac", sum := "8b4848dfcdad66d518686bf7cf63d59c0fcfda44dc32ff4ef48f12f8b2041afe", func := "pontoon/pontoonlaw13.VersFresh", spec := "versFresh", inPlace := ["sync/atomic.LoadInt64", "sync/atomic.AddInt64"], apart := false }
def VersFreshSaid : Prop := versFreshRow.holds Try.pinned (OpenSpec.ofChange versFreshSpec)

/-- ITS FALSE NEIGHBOUR: 'it returns false'. Refute it at one input. -/
def versFreshWrong : ChangeSpec := { name := "versFresh", fn := fun _ => fun
  | [d1, d2, d3] => { results := [.lit (.bool false)], args := [d1, d2, d3] }
  | _ => none }
def VersFreshWrongFalsely : Prop := versFreshRow.holds Try.pinned (OpenSpec.ofChange versFreshWrong)

/-- 'pontoonlaw13.VersDirty': WHATEVER THE INPUT: true; the input reads as it did. -/
def versDirtySpec : ChangeSpec := { name := "versDirty", fn := fun _ => fun
  | [d1, d2] => { results := [.lit (.bool true)], args := [d1, d2] }
  | _ => none }
def versDirtyRow : OpenClaim := { program := "ytjmgookpmngmaac", sum := "8b4848dfcdad66d518686bf7cf63d59c0fcfda44dc32ff4ef48f12f8b2041afe", func := "pontoon/pontoonlaw13.VersDirty", spec := "versDirty", inPlace := ["sync/atomic.LoadInt64", "sync/atomic.AddInt64"], apart := false }
def VersDirtySaid : Prop := versDirtyRow.holds Try.pinned (OpenSpec.ofChange versDirtySpec)

/-- ITS FALSE NEIGHBOUR: 'it returns false'. Refute it at one input. -/
def versDirtyWrong : ChangeSpec := { name := "versDirty", fn := fun _ => fun
  | [d1, d2] => { results := [.lit (.bool false)], args := [d1, d2] }
  | _ => none }
def VersDirtyWrongFalsely : Prop := versDirtyRow.holds Try.pinned (OpenSpec.ofChange versDirtyWrong)

/-- 'pontoonlaw13.VersCounts': WHATEVER THE INPUT: true; the input reads as it did. -/
def versCountsSpec : ChangeSpec := { name := "versCounts", fn := fun _ => fun
  | [d1, d2] => { results := [.lit (.bool true)], args := [d1, d2] }
  | _ => none }
def versCountsRow : OpenClaim := { program := "ytjmgookpmngmaac", sum := "8b4848dfcdad66d518686bf7cf63d59c0fcfda44dc32ff4ef48f12f8b2041afe", func := "pontoon/pontoonlaw13.VersCounts", spec := "versCounts", inPlace := ["sync/atomic.LoadInt64", "sync/atomic.AddInt64"], apart := false }
def VersCountsSaid : Prop := versCountsRow.holds Try.pinned (OpenSpec.ofChange versCountsSpec)

/-- ITS FALSE NEIGHBOUR: 'it returns false'. Refute it at one input. -/
def versCountsWrong : ChangeSpec := { name := "versCounts", fn := fun _ => fun
  | [d1, d2] => { results := [.lit (.bool false)], args := [d1, d2] }
  | _ => none }
def VersCountsWrongFalsely : Prop := versCountsRow.holds Try.pinned (OpenSpec.ofChange versCountsWrong)

/-- 'pontoonlaw13.VersPlays': WHATEVER THE INPUT: true; the input reads as it did. -/
def versPlaysSpec : ChangeSpec := { name := "versPlays", fn := fun _ => fun
  | [d1, d2] => { results := [.lit (.bool true)], args := [d1, d2] }
  | _ => none }
def versPlaysRow : OpenClaim := { program := "ytjmgookpmngmaac", sum := "8b4848dfcdad66d518686bf7cf63d59c0fcfda44dc32ff4ef48f12f8b2041afe", func := "pontoon/pontoonlaw13.VersPlays", spec := "versPlays", inPlace := ["sync/atomic.LoadInt64", "sync/atomic.AddInt64", "sync/atomic.StoreInt64"], apart := false }
def VersPlaysSaid : Prop := versPlaysRow.holds Try.pinned (OpenSpec.ofChange versPlaysSpec)

/-- ITS FALSE NEIGHBOUR: 'it returns false'. Refute it at one input. -/
def versPlaysWrong : ChangeSpec := { name := "versPlays", fn := fun _ => fun
  | [d1, d2] => { results := [.lit (.bool false)], args := [d1, d2] }
  | _ => none }
def VersPlaysWrongFalsely : Prop := versPlaysRow.holds Try.pinned (OpenSpec.ofChange versPlaysWrong)

/-- 'pontoonlaw13.VersNil': WHATEVER THE INPUT: true; the input reads as it did. -/
def versNilSpec : ChangeSpec := { name := "versNil", fn := fun _ => fun
  | [d] => { results := [.lit (.bool true)], args := [d] }
  | _ => none }
def versNilRow : OpenClaim := { program := "ytjmgookpmngmaac", sum := "8b4848dfcdad66d518686bf7cf63d59c0fcfda44dc32ff4ef48f12f8b2041afe", func := "pontoon/pontoonlaw13.VersNil", spec := "versNil", inPlace := ["sync/atomic.LoadInt64", "sync/atomic.AddInt64", "sync/atomic.StoreInt64"], apart := false }
def VersNilSaid : Prop := versNilRow.holds Try.pinned (OpenSpec.ofChange versNilSpec)

/-- ITS FALSE NEIGHBOUR: 'it returns false'. Refute it at one input. -/
def versNilWrong : ChangeSpec := { name := "versNil", fn := fun _ => fun
  | [d] => { results := [.lit (.bool false)], args := [d] }
  | _ => none }
def VersNilWrongFalsely : Prop := versNilRow.holds Try.pinned (OpenSpec.ofChange versNilWrong)

/- THE SECOND FORM. 'bulk': how many values and letters a reading holds, each counted each time it is reached (what is shared counts as often as it is met; a slice's spare places count too). A statement '..UptoSaid' is the law's where the arguments, and the package variables that the reading takes, are together of bulk at most 1048576: NARROWER than '..Said'. Prove '..Said' where nothing that the law and all that it calls make is longer than what came in: it says more and counts as full. Else prove '..UptoSaid'. A law counts once. -/
mutual
def uptoBulk {H : Type} : DataW H → Nat
  | .lit (.string bytes) => bytes.length + 1
  | .lit _ => 1
  | .nil => 1
  | .ptr d => uptoBulk d + 1
  | .slice elems spare => uptoBulkAll elems + uptoBulkAll spare + 1
  | .agg parts => uptoBulkAll parts + 1
  | .iface _ d => uptoBulk d + 1
  | .map entries => uptoBulkEntries entries + 1
  | .held _ => 1
def uptoBulkAll {H : Type} : List (DataW H) → Nat
  | [] => 0
  | d :: r => uptoBulk d + uptoBulkAll r
def uptoBulkEntries {H : Type} : List (Lit × DataW H) → Nat
  | [] => 0
  | x :: r => uptoBulkEntry x + uptoBulkEntries r
def uptoBulkEntry {H : Type} : Lit × DataW H → Nat
  | (.string bytes, d) => bytes.length + uptoBulk d + 1
  | (_, d) => uptoBulk d + 1
 end
def uptoSmall : (H : Type) → List (DataW H) → Bool := fun _ ds => decide (uptoBulkAll ds ≤ 1048576)
def OpenSpec.upto (s : _root_.Go.ChangeSpec) : _root_.Go.OpenSpec := { _root_.Go.OpenSpec.ofChange s with cond := some uptoSmall }

/-- 'pontoonlaw13.VersFresh', WHERE WHAT IT READS IS OF BULK AT MOST 1048576: true; the input reads as it did. -/
def versFreshUptoRow : OpenClaim := { program := "ytjmgookpmngmaac", sum := "8b4848dfcdad66d518686bf7cf63d59c0fcfda44dc32ff4ef48f12f8b2041afe", func := "pontoon/pontoonlaw13.VersFresh", spec := "versFresh", inPlace := ["sync/atomic.LoadInt64", "sync/atomic.AddInt64"], apart := false, narrowed := true }
def VersFreshUptoSaid : Prop := versFreshUptoRow.holds Try.pinned (OpenSpec.upto versFreshSpec)

/-- 'pontoonlaw13.VersDirty', WHERE WHAT IT READS IS OF BULK AT MOST 1048576: true; the input reads as it did. -/
def versDirtyUptoRow : OpenClaim := { program := "ytjmgookpmngmaac", sum := "8b4848dfcdad66d518686bf7cf63d59c0fcfda44dc32ff4ef48f12f8b2041afe", func := "pontoon/pontoonlaw13.VersDirty", spec := "versDirty", inPlace := ["sync/atomic.LoadInt64", "sync/atomic.AddInt64"], apart := false, narrowed := true }
def VersDirtyUptoSaid : Prop := versDirtyUptoRow.holds Try.pinned (OpenSpec.upto versDirtySpec)

/-- 'pontoonlaw13.VersCounts', WHERE WHAT IT READS IS OF BULK AT MOST 1048576: true; the input reads as it did. -/
def versCountsUptoRow : OpenClaim := { program := "ytjmgookpmngmaac", sum := "8b4848dfcdad66d518686bf7cf63d59c0fcfda44dc32ff4ef48f12f8b2041afe", func := "pontoon/pontoonlaw13.VersCounts", spec := "versCounts", inPlace := ["sync/atomic.LoadInt64", "sync/atomic.AddInt64"], apart := false, narrowed := true }
def VersCountsUptoSaid : Prop := versCountsUptoRow.holds Try.pinned (OpenSpec.upto versCountsSpec)

/-- 'pontoonlaw13.VersPlays', WHERE WHAT IT READS IS OF BULK AT MOST 1048576: true; the input reads as it did. -/
def versPlaysUptoRow : OpenClaim := { program := "ytjmgookpmngmaac", sum := "8b4848dfcdad66d518686bf7cf63d59c0fcfda44dc32ff4ef48f12f8b2041afe", func := "pontoon/pontoonlaw13.VersPlays", spec := "versPlays", inPlace := ["sync/atomic.LoadInt64", "sync/atomic.AddInt64", "sync/atomic.StoreInt64"], apart := false, narrowed := true }
def VersPlaysUptoSaid : Prop := versPlaysUptoRow.holds Try.pinned (OpenSpec.upto versPlaysSpec)

/-- 'pontoonlaw13.VersNil', WHERE WHAT IT READS IS OF BULK AT MOST 1048576: true; the input reads as it did. -/
def versNilUptoRow : OpenClaim := { program := "ytjmgookpmngmaac", sum := "8b4848dfcdad66d518686bf7cf63d59c0fcfda44dc32ff4ef48f12f8b2041afe", func := "pontoon/pontoonlaw13.VersNil", spec := "versNil", inPlace := ["sync/atomic.LoadInt64", "sync/atomic.AddInt64", "sync/atomic.StoreInt64"], apart := false, narrowed := true }
def VersNilUptoSaid : Prop := versNilUptoRow.holds Try.pinned (OpenSpec.upto versNilSpec)

end Rows
end Go.Proofs.Ytjmgookpmngmaac
