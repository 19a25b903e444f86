/-
  No cell of these rows narrows 'for every input' (looked for: loops, veiled, ifaces, maps, wideKeys, modest, calm, conditions, laid).
  DERIVED. THE GIVEN ROWS OF THIS SEAT. 4 by the template 'for every input the law returns true; each argument reads behind the call as it read before'; 0 by the template 'total and deterministic' (their statements: YthommlfigdjehaaTotals.lean).
  GIVEN WITH THE SEED: the statements are not yours to turn. If you find one false, say at which input.
  Laid BY PROGRAM, IN A SANDBOX (cutbox-rows.mjs): the forced cells as the released guide's own fill.sh prints them over the translation 820dd26d11f3e82e… (all of the seat's roots in one cut). By AI agents, Wed Nov 11 2026. No macro, syntax, notation, axiom, sorry.
-/
import Derived.Test.YthommlfigdjehaaChecked
import GoSem.Claim
import GoSem.ClaimJoined
import GoSem.ClaimMapViews
import Derived.JoinedTies
import Derived.KernelRfl
namespace Go.Proofs.Ythommlfigdjehaa
/- THE CELL 'sum', in the pinned program and in every row, IS THE sha256 OF THE DUMP (.gsa) THAT YthommlfigdjehaaProg.lean LOADS. Nothing in Lean hashes anything: it is a label: what it is worth is what the hold of that sum in a sandbox is worth. -/
noncomputable def Try.pinned : Pinned := { name := "ythommlfigdjehaa", sum := "820dd26d11f3e82eff245d838d3a82641bbc1d1d629f236f312426c3d94dc734", checked := Try.checked }
namespace Rows
def none {H : Type} : Left H := { results := [], args := [] }

/-- 'pontoonlaw19.SessOver': WHATEVER THE INPUT: true; the input reads as it did. -/
def sessOverSpec : ChangeSpec := { name := "sessOver", fn := fun _ => fun
  | [d1, d2] => { results := [.lit (.bool true)], args := [d1, d2] }
  | _ => none }
def sessOverRow : OpenClaim := { program := "ythommlfigdjehaa", sum := "820dd26d11f3e82eff245d838d3a82641bbc1d1d629f236f312426c3d94dc734", func := "pontoon/pontoonlaw19.SessOver", spec := "sessOver", plainKeys := false, apart := false }
def SessOverSaid : Prop := sessOverRow.holds Try.pinned (OpenSpec.ofChange sessOverSpec)

/-- ITS FALSE NEIGHBOUR: 'it returns false'. Refute it at one input. -/
def sessOverWrong : ChangeSpec := { name := "sessOver", fn := fun _ => fun
  | [d1, d2] => { results := [.lit (.bool false)], args := [d1, d2] }
  | _ => none }
def SessOverWrongFalsely : Prop := sessOverRow.holds Try.pinned (OpenSpec.ofChange sessOverWrong)

/-- 'pontoonlaw19.SessSkips': WHATEVER THE INPUT: true; the input reads as it did. -/
def sessSkipsSpec : ChangeSpec := { name := "sessSkips", fn := fun _ => fun
  | [d] => { results := [.lit (.bool true)], args := [d] }
  | _ => none }
def sessSkipsRow : OpenClaim := { program := "ythommlfigdjehaa", sum := "820dd26d11f3e82eff245d838d3a82641bbc1d1d629f236f312426c3d94dc734", func := "pontoon/pontoonlaw19.SessSkips", spec := "sessSkips", plainKeys := false, apart := false }
def SessSkipsSaid : Prop := sessSkipsRow.holds Try.pinned (OpenSpec.ofChange sessSkipsSpec)

/-- ITS FALSE NEIGHBOUR: 'it returns false'. Refute it at one input. -/
def sessSkipsWrong : ChangeSpec := { name := "sessSkips", fn := fun _ => fun
  | [d] => { results := [.lit (.bool false)], args := [d] }
  | _ => none }
def SessSkipsWrongFalsely : Prop := sessSkipsRow.holds Try.pinned (OpenSpec.ofChange sessSkipsWrong)

/-- 'pontoonlaw19.SessPlays': WHATEVER THE INPUT: true; the input reads as it did. -/
def sessPlaysSpec : ChangeSpec := { name := "sessPlays", fn := fun _ => fun
  | [d] => { results := [.lit (.bool true)], args := [d] }
  | _ => none }
def sessPlaysRow : OpenClaim := { program := "ythommlfigdjehaa", sum := "820dd26d11f3e82eff245d838d3a82641bbc1d1d629f236f312426c3d94dc734", func := "pontoon/pontoonlaw19.SessPlays", spec := "sessPlays", plainKeys := false, apart := false }
def SessPlaysSaid : Prop := sessPlaysRow.holds Try.pinned (OpenSpec.ofChange sessPlaysSpec)

/-- ITS FALSE NEIGHBOUR: 'it returns false'. Refute it at one input. -/
def sessPlaysWrong : ChangeSpec := { name := "sessPlays", fn := fun _ => fun
  | [d] => { results := [.lit (.bool false)], args := [d] }
  | _ => none }
def SessPlaysWrongFalsely : Prop := sessPlaysRow.holds Try.pinned (OpenSpec.ofChange sessPlaysWrong)

/-- 'pontoonlaw19.SessNil': WHATEVER THE INPUT: true; the input reads as it did. -/
def sessNilSpec : ChangeSpec := { name := "sessNil", fn := fun _ => fun
  | [d] => { results := [.lit (.bool true)], args := [d] }
  | _ => none }
def sessNilRow : OpenClaim := { program := "ythommlfigdjehaa", sum := "820dd26d11f3e82eff245d838d3a82641bbc1d1d629f236f312426c3d94dc734", func := "pontoon/pontoonlaw19.SessNil", spec := "sessNil", plainKeys := false, apart := false }
def SessNilSaid : Prop := sessNilRow.holds Try.pinned (OpenSpec.ofChange sessNilSpec)

/-- ITS FALSE NEIGHBOUR: 'it returns false'. Refute it at one input. -/
def sessNilWrong : ChangeSpec := { name := "sessNil", fn := fun _ => fun
  | [d] => { results := [.lit (.bool false)], args := [d] }
  | _ => none }
def SessNilWrongFalsely : Prop := sessNilRow.holds Try.pinned (OpenSpec.ofChange sessNilWrong)

/- THE SECOND FORM. 'bulk': how many values and letters a reading holds, each counted each time it is reached (what is shared counts as often as it is met; a slice's spare places count too). A statement '..UptoSaid' is the law's where the arguments, and the package variables that the reading takes, are together of bulk at most 1048576: NARROWER than '..Said'. Prove '..Said' where nothing that the law and all that it calls make is longer than what came in: it says more and counts as full. Else prove '..UptoSaid'. A law counts once. -/
mutual
def uptoBulk {H : Type} : DataW H → Nat
  | .lit (.string bytes) => bytes.length + 1
  | .lit _ => 1
  | .nil => 1
  | .ptr d => uptoBulk d + 1
  | .slice elems spare => uptoBulkAll elems + uptoBulkAll spare + 1
  | .agg parts => uptoBulkAll parts + 1
  | .iface _ d => uptoBulk d + 1
  | .map entries => uptoBulkEntries entries + 1
  | .held _ => 1
def uptoBulkAll {H : Type} : List (DataW H) → Nat
  | [] => 0
  | d :: r => uptoBulk d + uptoBulkAll r
def uptoBulkEntries {H : Type} : List (Lit × DataW H) → Nat
  | [] => 0
  | x :: r => uptoBulkEntry x + uptoBulkEntries r
def uptoBulkEntry {H : Type} : Lit × DataW H → Nat
  | (.string bytes, d) => bytes.length + uptoBulk d + 1
  | (_, d) => uptoBulk d + 1
 end
def uptoSmall : (H : Type) → List (DataW H) → Bool := fun _ ds => decide (uptoBulkAll ds ≤ 1048576)
def OpenSpec.upto (s : _root_.Go.ChangeSpec) : _root_.Go.OpenSpec := { _root_.Go.OpenSpec.ofChange s with cond := some uptoSmall }

/-- 'pontoonlaw19.SessOver', WHERE WHAT IT READS IS OF BULK AT MOST 1048576: true; the input reads as it did. -/
def sessOverUptoRow : OpenClaim := { program := "ythommlfigdjehaa", sum := "820dd26d11f3e82eff245d838d3a82641bbc1d1d629f236f312426c3d94dc734", func := "pontoon/pontoonlaw19.SessOver", spec := "sessOver", plainKeys := false, apart := false, narrowed := true }
def SessOverUptoSaid : Prop := sessOverUptoRow.holds Try.pinned (OpenSpec.upto sessOverSpec)

/-- 'pontoonlaw19.SessSkips', WHERE WHAT IT READS IS OF BULK AT MOST 1048576: true; the input reads as it did. -/
def sessSkipsUptoRow : OpenClaim := { program := "ythommlfigdjehaa", sum := "820dd26d11f3e82eff245d838d3a82641bbc1d1d629f236f312426c3d94dc734", func := "pontoon/pontoonlaw19.SessSkips", spec := "sessSkips", plainKeys := false, apart := false, narrowed := true }
def SessSkipsUptoSaid : Prop := sessSkipsUptoRow.holds Try.pinned (OpenSpec.upto sessSkipsSpec)

/-- 'pontoonlaw19.SessPlays', WHERE WHAT IT READS IS OF BULK AT MOST 1048576: true; the input reads as it did. -/
def sessPlaysUptoRow : OpenClaim := { program := "ythommlfigdjehaa", sum := "820dd26d11f3e82eff245d838d3a82641bbc1d1d629f236f312426c3d94dc734", func := "pontoon/pontoonlaw19.SessPlays", spec := "sessPlays", plainKeys := false, apart := false, narrowed := true }
def SessPlaysUptoSaid : Prop := sessPlaysUptoRow.holds Try.pinned (OpenSpec.upto sessPlaysSpec)

/-- 'pontoonlaw19.SessNil', WHERE WHAT IT READS IS OF BULK AT MOST 1048576: true; the input reads as it did. -/
def sessNilUptoRow : OpenClaim := { program := "ythommlfigdjehaa", sum := "820dd26d11f3e82eff245d838d3a82641bbc1d1d629f236f312426c3d94dc734", func := "pontoon/pontoonlaw19.SessNil", spec := "sessNil", plainKeys := false, apart := false, narrowed := true }
def SessNilUptoSaid : Prop := sessNilUptoRow.holds Try.pinned (OpenSpec.upto sessNilSpec)

end Rows
end Go.Proofs.Ythommlfigdjehaa
