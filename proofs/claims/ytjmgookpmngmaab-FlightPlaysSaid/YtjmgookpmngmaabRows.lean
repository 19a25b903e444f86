/-
  No cell of these rows narrows 'for every input' (looked for: loops, veiled, ifaces, maps, wideKeys, modest, calm, conditions, laid).
  DERIVED. THE GIVEN ROWS OF THIS SEAT. 5 by the template 'for every input the law returns true; each argument reads behind the call as it read before'; 0 by the template 'total and deterministic' (their statements: YtjmgookpmngmaabTotals.lean).
  GIVEN WITH THE SEED: the statements are not yours to turn. If you find one false, say at which input.
  Laid BY PROGRAM, IN A SANDBOX (cutbox-rows.mjs): the forced cells as the released guide's own fill.sh prints them over the translation 3d62dbb928cf5c2e… (all of the seat's roots in one cut). By AI agents, Wed Nov 11 2026. No macro, syntax, notation, axiom, sorry.
-/
import Derived.Test.YtjmgookpmngmaabChecked
import GoSem.Claim
import GoSem.ClaimJoined
import GoSem.ClaimMapViews
import Derived.JoinedTies
import Derived.KernelRfl
namespace Go.Proofs.Ytjmgookpmngmaab
/- THE CELL 'sum', in the pinned program and in every row, IS THE sha256 OF THE DUMP (.gsa) THAT YtjmgookpmngmaabProg.lean LOADS. Nothing in Lean hashes anything: it is a label: what it is worth is what the hold of that sum in a sandbox is worth. -/
noncomputable def Try.pinned : Pinned := { name := "ytjmgookpmngmaab", sum := "3d62dbb928cf5c2e9781d79cff73e7dfc7a16e63cb1f610273e1a95bb055cc67", checked := Try.checked }
namespace Rows
def none {H : Type} : Left H := { results := [], args := [] }

/-- 'pontoonlaw14.FlightOnce': WHATEVER THE INPUT: true; the input reads as it did. -/
def flightOnceSpec : ChangeSpec := { name := "flightOnce", fn := fun _ => fun
  | [d] => { results := [.lit (.bool true)], args := [d] }
  | _ => none }
def flightOnceRow : OpenClaim := { program := "ytjmgookpmngmaab", sum := "3d62dbb928cf5c2e9781d79cff73e7dfc7a16e63cb1f610273e1a95bb055cc67", func := "pontoon/pontoonlaw14.FlightOnce", spec := "flightOnce", plainKeys := false, apart := false }
def FlightOnceSaid : Prop := flightOnceRow.holds Try.pinned (OpenSpec.ofChange flightOnceSpec)

/-- ITS FALSE NEIGHBOUR: 'it returns false'. Refute it at one input. -/
def flightOnceWrong : ChangeSpec := { name := "flightOnce", fn := fun _ => fun
  | [d] => { results := [.lit (.bool false)], args := [d] }
  | _ => none }
def FlightOnceWrongFalsely : Prop := flightOnceRow.holds Try.pinned (OpenSpec.ofChange flightOnceWrong)

/-- 'pontoonlaw14.FlightLeaves': WHATEVER THE INPUT: true; the input reads as it did. -/
def flightLeavesSpec : ChangeSpec := { name := "flightLeaves", fn := fun _ => fun
  | [d1, d2, d3] => { results := [.lit (.bool true)], args := [d1, d2, d3] }
  | _ => none }
def flightLeavesRow : OpenClaim := { program := "ytjmgookpmngmaab", sum := "3d62dbb928cf5c2e9781d79cff73e7dfc7a16e63cb1f610273e1a95bb055cc67", func := "pontoon/pontoonlaw14.FlightLeaves", spec := "flightLeaves", plainKeys := false, apart := false }
def FlightLeavesSaid : Prop := flightLeavesRow.holds Try.pinned (OpenSpec.ofChange flightLeavesSpec)

/-- ITS FALSE NEIGHBOUR: 'it returns false'. Refute it at one input. -/
def flightLeavesWrong : ChangeSpec := { name := "flightLeaves", fn := fun _ => fun
  | [d1, d2, d3] => { results := [.lit (.bool false)], args := [d1, d2, d3] }
  | _ => none }
def FlightLeavesWrongFalsely : Prop := flightLeavesRow.holds Try.pinned (OpenSpec.ofChange flightLeavesWrong)

/-- 'pontoonlaw14.FlightKeys': WHATEVER THE INPUT: true; the input reads as it did. -/
def flightKeysSpec : ChangeSpec := { name := "flightKeys", fn := fun _ => fun
  | [d1, d2, d3] => { results := [.lit (.bool true)], args := [d1, d2, d3] }
  | _ => none }
def flightKeysRow : OpenClaim := { program := "ytjmgookpmngmaab", sum := "3d62dbb928cf5c2e9781d79cff73e7dfc7a16e63cb1f610273e1a95bb055cc67", func := "pontoon/pontoonlaw14.FlightKeys", spec := "flightKeys", plainKeys := false, apart := false }
def FlightKeysSaid : Prop := flightKeysRow.holds Try.pinned (OpenSpec.ofChange flightKeysSpec)

/-- ITS FALSE NEIGHBOUR: 'it returns false'. Refute it at one input. -/
def flightKeysWrong : ChangeSpec := { name := "flightKeys", fn := fun _ => fun
  | [d1, d2, d3] => { results := [.lit (.bool false)], args := [d1, d2, d3] }
  | _ => none }
def FlightKeysWrongFalsely : Prop := flightKeysRow.holds Try.pinned (OpenSpec.ofChange flightKeysWrong)

/-- 'pontoonlaw14.FlightPlays': WHATEVER THE INPUT: true; the input reads as it did. -/
def flightPlaysSpec : ChangeSpec := { name := "flightPlays", fn := fun _ => fun
  | [d] => { results := [.lit (.bool true)], args := [d] }
  | _ => none }
def flightPlaysRow : OpenClaim := { program := "ytjmgookpmngmaab", sum := "3d62dbb928cf5c2e9781d79cff73e7dfc7a16e63cb1f610273e1a95bb055cc67", func := "pontoon/pontoonlaw14.FlightPlays", spec := "flightPlays", plainKeys := false, apart := false }
def FlightPlaysSaid : Prop := flightPlaysRow.holds Try.pinned (OpenSpec.ofChange flightPlaysSpec)

/-- ITS FALSE NEIGHBOUR: 'it returns false'. Refute it at one input. -/
def flightPlaysWrong : ChangeSpec := { name := "flightPlays", fn := fun _ => fun
  | [d] => { results := [.lit (.bool false)], args := [d] }
  | _ => none }
def FlightPlaysWrongFalsely : Prop := flightPlaysRow.holds Try.pinned (OpenSpec.ofChange flightPlaysWrong)

/-- 'pontoonlaw14.FlightNil': WHATEVER THE INPUT: true; the input reads as it did. -/
def flightNilSpec : ChangeSpec := { name := "flightNil", fn := fun _ => fun
  | [d1, d2] => { results := [.lit (.bool true)], args := [d1, d2] }
  | _ => none }
def flightNilRow : OpenClaim := { program := "ytjmgookpmngmaab", sum := "3d62dbb928cf5c2e9781d79cff73e7dfc7a16e63cb1f610273e1a95bb055cc67", func := "pontoon/pontoonlaw14.FlightNil", spec := "flightNil", plainKeys := false, apart := false }
def FlightNilSaid : Prop := flightNilRow.holds Try.pinned (OpenSpec.ofChange flightNilSpec)

/-- ITS FALSE NEIGHBOUR: 'it returns false'. Refute it at one input. -/
def flightNilWrong : ChangeSpec := { name := "flightNil", fn := fun _ => fun
  | [d1, d2] => { results := [.lit (.bool false)], args := [d1, d2] }
  | _ => none }
def FlightNilWrongFalsely : Prop := flightNilRow.holds Try.pinned (OpenSpec.ofChange flightNilWrong)

/- THE SECOND FORM. 'bulk': how many values and letters a reading holds, each counted each time it is reached (what is shared counts as often as it is met; a slice's spare places count too). A statement '..UptoSaid' is the law's where the arguments, and the package variables that the reading takes, are together of bulk at most 1048576: NARROWER than '..Said'. Prove '..Said' where nothing that the law and all that it calls make is longer than what came in: it says more and counts as full. Else prove '..UptoSaid'. A law counts once. -/
mutual
def uptoBulk {H : Type} : DataW H → Nat
  | .lit (.string bytes) => bytes.length + 1
  | .lit _ => 1
  | .nil => 1
  | .ptr d => uptoBulk d + 1
  | .slice elems spare => uptoBulkAll elems + uptoBulkAll spare + 1
  | .agg parts => uptoBulkAll parts + 1
  | .iface _ d => uptoBulk d + 1
  | .map entries => uptoBulkEntries entries + 1
  | .held _ => 1
def uptoBulkAll {H : Type} : List (DataW H) → Nat
  | [] => 0
  | d :: r => uptoBulk d + uptoBulkAll r
def uptoBulkEntries {H : Type} : List (Lit × DataW H) → Nat
  | [] => 0
  | x :: r => uptoBulkEntry x + uptoBulkEntries r
def uptoBulkEntry {H : Type} : Lit × DataW H → Nat
  | (.string bytes, d) => bytes.length + uptoBulk d + 1
  | (_, d) => uptoBulk d + 1
 end
def uptoSmall : (H : Type) → List (DataW H) → Bool := fun _ ds => decide (uptoBulkAll ds ≤ 1048576)
def OpenSpec.upto (s : _root_.Go.ChangeSpec) : _root_.Go.OpenSpec := { _root_.Go.OpenSpec.ofChange s with cond := some uptoSmall }

/-- 'pontoonlaw14.FlightOnce', WHERE WHAT IT READS IS OF BULK AT MOST 1048576: true; the input reads as it did. -/
def flightOnceUptoRow : OpenClaim := { program := "ytjmgookpmngmaab", sum := "3d62dbb928cf5c2e9781d79cff73e7dfc7a16e63cb1f610273e1a95bb055cc67", func := "pontoon/pontoonlaw14.FlightOnce", spec := "flightOnce", plainKeys := false, apart := false, narrowed := true }
def FlightOnceUptoSaid : Prop := flightOnceUptoRow.holds Try.pinned (OpenSpec.upto flightOnceSpec)

/-- 'pontoonlaw14.FlightLeaves', WHERE WHAT IT READS IS OF BULK AT MOST 1048576: true; the input reads as it did. -/
def flightLeavesUptoRow : OpenClaim := { program := "ytjmgookpmngmaab", sum := "3d62dbb928cf5c2e9781d79cff73e7dfc7a16e63cb1f610273e1a95bb055cc67", func := "pontoon/pontoonlaw14.FlightLeaves", spec := "flightLeaves", plainKeys := false, apart := false, narrowed := true }
def FlightLeavesUptoSaid : Prop := flightLeavesUptoRow.holds Try.pinned (OpenSpec.upto flightLeavesSpec)

/-- 'pontoonlaw14.FlightKeys', WHERE WHAT IT READS IS OF BULK AT MOST 1048576: true; the input reads as it did. -/
def flightKeysUptoRow : OpenClaim := { program := "ytjmgookpmngmaab", sum := "3d62dbb928cf5c2e9781d79cff73e7dfc7a16e63cb1f610273e1a95bb055cc67", func := "pontoon/pontoonlaw14.FlightKeys", spec := "flightKeys", plainKeys := false, apart := false, narrowed := true }
def FlightKeysUptoSaid : Prop := flightKeysUptoRow.holds Try.pinned (OpenSpec.upto flightKeysSpec)

/-- 'pontoonlaw14.FlightPlays', WHERE WHAT IT READS IS OF BULK AT MOST 1048576: true; the input reads as it did. -/
def flightPlaysUptoRow : OpenClaim := { program := "ytjmgookpmngmaab", sum := "3d62dbb928cf5c2e9781d79cff73e7dfc7a16e63cb1f610273e1a95bb055cc67", func := "pontoon/pontoonlaw14.FlightPlays", spec := "flightPlays", plainKeys := false, apart := false, narrowed := true }
def FlightPlaysUptoSaid : Prop := flightPlaysUptoRow.holds Try.pinned (OpenSpec.upto flightPlaysSpec)

/-- 'pontoonlaw14.FlightNil', WHERE WHAT IT READS IS OF BULK AT MOST 1048576: true; the input reads as it did. -/
def flightNilUptoRow : OpenClaim := { program := "ytjmgookpmngmaab", sum := "3d62dbb928cf5c2e9781d79cff73e7dfc7a16e63cb1f610273e1a95bb055cc67", func := "pontoon/pontoonlaw14.FlightNil", spec := "flightNil", plainKeys := false, apart := false, narrowed := true }
def FlightNilUptoSaid : Prop := flightNilUptoRow.holds Try.pinned (OpenSpec.upto flightNilSpec)

end Rows
end Go.Proofs.Ytjmgookpmngmaab
