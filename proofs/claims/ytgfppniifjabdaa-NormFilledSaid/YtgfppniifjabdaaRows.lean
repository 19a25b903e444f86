/-
  No cell of these rows narrows 'for every input' (looked for: loops, veiled, ifaces, maps, wideKeys, modest, calm, conditions, laid).
  DERIVED. THE GIVEN ROWS OF THIS SEAT. 4 by the template 'for every input the law returns true; each argument reads behind the call as it read before'; 0 by the template 'total and deterministic' (their statements: YtgfppniifjabdaaTotals.lean).
  GIVEN WITH THE SEED: the statements are not yours to turn. If you find one false, say at which input.
  Laid BY PROGRAM, IN A SANDBOX (cutbox-rows.mjs): the forced cells as the released guide's own fill.sh prints them over the translation b02d6a6854d6cbed… (all of the seat's roots in one cut). By AI agents, Wed Nov 11 2026. No macro, syntax, notation, axiom, sorry.
-/
import Derived.Test.YtgfppniifjabdaaChecked
import GoSem.Claim
import GoSem.ClaimJoined
import GoSem.ClaimMapViews
import Derived.JoinedTies
import Derived.KernelRfl
namespace Go.Proofs.Ytgfppniifjabdaa
/- THE CELL 'sum', in the pinned program and in every row, IS THE sha256 OF THE DUMP (.gsa) THAT YtgfppniifjabdaaProg.lean LOADS. Nothing in Lean hashes anything: it is a label: what it is worth is what the hold of that sum in a sandbox is worth. -/
noncomputable def Try.pinned : Pinned := { name := "ytgfppniifjabdaa", sum := "b02d6a6854d6cbed00ce98130be59622ba2e5ed24e9ca3f664bbf32700cfba22", checked := Try.checked }
namespace Rows
def none {H : Type} : Left H := { results := [], args := [] }

/-- 'pontoonlaw05.NormForms': WHATEVER THE INPUT: true; the input reads as it did. -/
def normFormsSpec : ChangeSpec := { name := "normForms", fn := fun _ => fun
  | [d1, d2] => { results := [.lit (.bool true)], args := [d1, d2] }
  | _ => none }
def normFormsRow : OpenClaim := { program := "ytgfppniifjabdaa", sum := "b02d6a6854d6cbed00ce98130be59622ba2e5ed24e9ca3f664bbf32700cfba22", func := "pontoon/pontoonlaw05.NormForms", spec := "normForms", unfollowed := true, recurses := true, apart := false }
def NormFormsSaid : Prop := normFormsRow.holds Try.pinned (OpenSpec.ofChange normFormsSpec)

/-- ITS FALSE NEIGHBOUR: 'it returns false'. Refute it at one input. -/
def normFormsWrong : ChangeSpec := { name := "normForms", fn := fun _ => fun
  | [d1, d2] => { results := [.lit (.bool false)], args := [d1, d2] }
  | _ => none }
def NormFormsWrongFalsely : Prop := normFormsRow.holds Try.pinned (OpenSpec.ofChange normFormsWrong)

/-- 'pontoonlaw05.NormFills': WHATEVER THE INPUT: true; the input reads as it did. -/
def normFillsSpec : ChangeSpec := { name := "normFills", fn := fun _ => fun
  | [d1, d2, d3] => { results := [.lit (.bool true)], args := [d1, d2, d3] }
  | _ => none }
def normFillsRow : OpenClaim := { program := "ytgfppniifjabdaa", sum := "b02d6a6854d6cbed00ce98130be59622ba2e5ed24e9ca3f664bbf32700cfba22", func := "pontoon/pontoonlaw05.NormFills", spec := "normFills", unfollowed := true, recurses := true, apart := false }
def NormFillsSaid : Prop := normFillsRow.holds Try.pinned (OpenSpec.ofChange normFillsSpec)

/-- ITS FALSE NEIGHBOUR: 'it returns false'. Refute it at one input. -/
def normFillsWrong : ChangeSpec := { name := "normFills", fn := fun _ => fun
  | [d1, d2, d3] => { results := [.lit (.bool false)], args := [d1, d2, d3] }
  | _ => none }
def NormFillsWrongFalsely : Prop := normFillsRow.holds Try.pinned (OpenSpec.ofChange normFillsWrong)

/-- 'pontoonlaw05.NormTwice': WHATEVER THE INPUT: true; the input reads as it did. -/
def normTwiceSpec : ChangeSpec := { name := "normTwice", fn := fun _ => fun
  | [d] => { results := [.lit (.bool true)], args := [d] }
  | _ => none }
def normTwiceRow : OpenClaim := { program := "ytgfppniifjabdaa", sum := "b02d6a6854d6cbed00ce98130be59622ba2e5ed24e9ca3f664bbf32700cfba22", func := "pontoon/pontoonlaw05.NormTwice", spec := "normTwice", unfollowed := true, recurses := true, apart := false }
def NormTwiceSaid : Prop := normTwiceRow.holds Try.pinned (OpenSpec.ofChange normTwiceSpec)

/-- ITS FALSE NEIGHBOUR: 'it returns false'. Refute it at one input. -/
def normTwiceWrong : ChangeSpec := { name := "normTwice", fn := fun _ => fun
  | [d] => { results := [.lit (.bool false)], args := [d] }
  | _ => none }
def NormTwiceWrongFalsely : Prop := normTwiceRow.holds Try.pinned (OpenSpec.ofChange normTwiceWrong)

/-- 'pontoonlaw05.NormFilled': WHATEVER THE INPUT: true; the input reads as it did. -/
def normFilledSpec : ChangeSpec := { name := "normFilled", fn := fun _ => fun
  | [d1, d2] => { results := [.lit (.bool true)], args := [d1, d2] }
  | _ => none }
def normFilledRow : OpenClaim := { program := "ytgfppniifjabdaa", sum := "b02d6a6854d6cbed00ce98130be59622ba2e5ed24e9ca3f664bbf32700cfba22", func := "pontoon/pontoonlaw05.NormFilled", spec := "normFilled", unfollowed := true, recurses := true, apart := false }
def NormFilledSaid : Prop := normFilledRow.holds Try.pinned (OpenSpec.ofChange normFilledSpec)

/-- ITS FALSE NEIGHBOUR: 'it returns false'. Refute it at one input. -/
def normFilledWrong : ChangeSpec := { name := "normFilled", fn := fun _ => fun
  | [d1, d2] => { results := [.lit (.bool false)], args := [d1, d2] }
  | _ => none }
def NormFilledWrongFalsely : Prop := normFilledRow.holds Try.pinned (OpenSpec.ofChange normFilledWrong)

/- THE SECOND FORM. 'bulk': how many values and letters a reading holds, each counted each time it is reached (what is shared counts as often as it is met; a slice's spare places count too). A statement '..UptoSaid' is the law's where the arguments, and the package variables that the reading takes, are together of bulk at most 1048576: NARROWER than '..Said'. Prove '..Said' where nothing that the law and all that it calls make is longer than what came in: it says more and counts as full. Else prove '..UptoSaid'. A law counts once. -/
mutual
def uptoBulk {H : Type} : DataW H → Nat
  | .lit (.string bytes) => bytes.length + 1
  | .lit _ => 1
  | .nil => 1
  | .ptr d => uptoBulk d + 1
  | .slice elems spare => uptoBulkAll elems + uptoBulkAll spare + 1
  | .agg parts => uptoBulkAll parts + 1
  | .iface _ d => uptoBulk d + 1
  | .map entries => uptoBulkEntries entries + 1
  | .held _ => 1
def uptoBulkAll {H : Type} : List (DataW H) → Nat
  | [] => 0
  | d :: r => uptoBulk d + uptoBulkAll r
def uptoBulkEntries {H : Type} : List (Lit × DataW H) → Nat
  | [] => 0
  | x :: r => uptoBulkEntry x + uptoBulkEntries r
def uptoBulkEntry {H : Type} : Lit × DataW H → Nat
  | (.string bytes, d) => bytes.length + uptoBulk d + 1
  | (_, d) => uptoBulk d + 1
 end
def uptoSmall : (H : Type) → List (DataW H) → Bool := fun _ ds => decide (uptoBulkAll ds ≤ 1048576)
def OpenSpec.upto (s : _root_.Go.ChangeSpec) : _root_.Go.OpenSpec := { _root_.Go.OpenSpec.ofChange s with cond := some uptoSmall }

/-- 'pontoonlaw05.NormForms', WHERE WHAT IT READS IS OF BULK AT MOST 1048576: true; the input reads as it did. -/
def normFormsUptoRow : OpenClaim := { program := "ytgfppniifjabdaa", sum := "b02d6a6854d6cbed00ce98130be59622ba2e5ed24e9ca3f664bbf32700cfba22", func := "pontoon/pontoonlaw05.NormForms", spec := "normForms", unfollowed := true, recurses := true, apart := false, narrowed := true }
def NormFormsUptoSaid : Prop := normFormsUptoRow.holds Try.pinned (OpenSpec.upto normFormsSpec)

/-- 'pontoonlaw05.NormFills', WHERE WHAT IT READS IS OF BULK AT MOST 1048576: true; the input reads as it did. -/
def normFillsUptoRow : OpenClaim := { program := "ytgfppniifjabdaa", sum := "b02d6a6854d6cbed00ce98130be59622ba2e5ed24e9ca3f664bbf32700cfba22", func := "pontoon/pontoonlaw05.NormFills", spec := "normFills", unfollowed := true, recurses := true, apart := false, narrowed := true }
def NormFillsUptoSaid : Prop := normFillsUptoRow.holds Try.pinned (OpenSpec.upto normFillsSpec)

/-- 'pontoonlaw05.NormTwice', WHERE WHAT IT READS IS OF BULK AT MOST 1048576: true; the input reads as it did. -/
def normTwiceUptoRow : OpenClaim := { program := "ytgfppniifjabdaa", sum := "b02d6a6854d6cbed00ce98130be59622ba2e5ed24e9ca3f664bbf32700cfba22", func := "pontoon/pontoonlaw05.NormTwice", spec := "normTwice", unfollowed := true, recurses := true, apart := false, narrowed := true }
def NormTwiceUptoSaid : Prop := normTwiceUptoRow.holds Try.pinned (OpenSpec.upto normTwiceSpec)

/-- 'pontoonlaw05.NormFilled', WHERE WHAT IT READS IS OF BULK AT MOST 1048576: true; the input reads as it did. -/
def normFilledUptoRow : OpenClaim := { program := "ytgfppniifjabdaa", sum := "b02d6a6854d6cbed00ce98130be59622ba2e5ed24e9ca3f664bbf32700cfba22", func := "pontoon/pontoonlaw05.NormFilled", spec := "normFilled", unfollowed := true, recurses := true, apart := false, narrowed := true }
def NormFilledUptoSaid : Prop := normFilledUptoRow.holds Try.pinned (OpenSpec.upto normFilledSpec)

end Rows
end Go.Proofs.Ytgfppniifjabdaa
