/-
  No cell of these rows narrows 'for every input' (looked for: loops, veiled, ifaces, maps, wideKeys, modest, calm, conditions, laid).
  DERIVED. THE GIVEN ROWS OF THIS SEAT. 5 by the template 'for every input the law returns true; each argument reads behind the call as it read before'; 0 by the template 'total and deterministic' (their statements: YthafopnaecbjdaaTotals.lean).
  GIVEN WITH THE SEED: the statements are not yours to turn. If you find one false, say at which input.
  Laid BY PROGRAM, IN A SANDBOX (cutbox-rows.mjs): the forced cells as the released guide's own fill.sh prints them over the translation 78d3a5a1ae82daab… (all of the seat's roots in one cut). By AI agents, Wed Nov 11 2026. No macro, syntax, notation, axiom, sorry.
-/
import Derived.Test.YthafopnaecbjdaaChecked
import GoSem.Claim
import GoSem.ClaimJoined
import GoSem.ClaimMapViews
import Derived.JoinedTies
import Derived.KernelRfl
namespace Go.Proofs.Ythafopnaecbjdaa
/- THE CELL 'sum', in the pinned program and in every row, IS THE sha256 OF THE DUMP (.gsa) THAT YthafopnaecbjdaaProg.lean LOADS. Nothing in Lean hashes anything: it is a label: what it is worth is what the hold of that sum in a sandbox is worth. -/
noncomputable def Try.pinned : Pinned := { name := "ythafopnaecbjdaa", sum := "78d3a5a1ae82daab0b91606580fbd03c05546b3937427bb1c070c85c180b42bd", checked := Try.checked }
namespace Rows
def none {H : Type} : Left H := { results := [], args := [] }

/-- 'pontoonlaw11.ExpiryPlays': WHATEVER THE INPUT: true; the input reads as it did. -/
def expiryPlaysSpec : ChangeSpec := { name := "expiryPlays", fn := fun _ => fun
  | [d] => { results := [.lit (.bool true)], args := [d] }
  | _ => none }
def expiryPlaysRow : OpenClaim := { program := "ythafopnaecbjdaa", sum := "78d3a5a1ae82daab0b91606580fbd03c05546b3937427bb1c070c85c180b42bd", func := "pontoon/pontoonlaw11.ExpiryPlays", spec := "expiryPlays", unfollowed := true, recurses := true, apart := false }
def ExpiryPlaysSaid : Prop := expiryPlaysRow.holds Try.pinned (OpenSpec.ofChange expiryPlaysSpec)

/-- ITS FALSE NEIGHBOUR: 'it returns false'. Refute it at one input. -/
def expiryPlaysWrong : ChangeSpec := { name := "expiryPlays", fn := fun _ => fun
  | [d] => { results := [.lit (.bool false)], args := [d] }
  | _ => none }
def ExpiryPlaysWrongFalsely : Prop := expiryPlaysRow.holds Try.pinned (OpenSpec.ofChange expiryPlaysWrong)

/-- 'pontoonlaw11.ExpiryOnce': WHATEVER THE INPUT: true; the input reads as it did. -/
def expiryOnceSpec : ChangeSpec := { name := "expiryOnce", fn := fun _ => fun
  | [d1, d2] => { results := [.lit (.bool true)], args := [d1, d2] }
  | _ => none }
def expiryOnceRow : OpenClaim := { program := "ythafopnaecbjdaa", sum := "78d3a5a1ae82daab0b91606580fbd03c05546b3937427bb1c070c85c180b42bd", func := "pontoon/pontoonlaw11.ExpiryOnce", spec := "expiryOnce", unfollowed := true, recurses := true, apart := false }
def ExpiryOnceSaid : Prop := expiryOnceRow.holds Try.pinned (OpenSpec.ofChange expiryOnceSpec)

/-- ITS FALSE NEIGHBOUR: 'it returns false'. Refute it at one input. -/
def expiryOnceWrong : ChangeSpec := { name := "expiryOnce", fn := fun _ => fun
  | [d1, d2] => { results := [.lit (.bool false)], args := [d1, d2] }
  | _ => none }
def ExpiryOnceWrongFalsely : Prop := expiryOnceRow.holds Try.pinned (OpenSpec.ofChange expiryOnceWrong)

/-- 'pontoonlaw11.ExpirySame': WHATEVER THE INPUT: true; the input reads as it did. -/
def expirySameSpec : ChangeSpec := { name := "expirySame", fn := fun _ => fun
  | [d1, d2] => { results := [.lit (.bool true)], args := [d1, d2] }
  | _ => none }
def expirySameRow : OpenClaim := { program := "ythafopnaecbjdaa", sum := "78d3a5a1ae82daab0b91606580fbd03c05546b3937427bb1c070c85c180b42bd", func := "pontoon/pontoonlaw11.ExpirySame", spec := "expirySame", unfollowed := true, recurses := true, apart := false }
def ExpirySameSaid : Prop := expirySameRow.holds Try.pinned (OpenSpec.ofChange expirySameSpec)

/-- ITS FALSE NEIGHBOUR: 'it returns false'. Refute it at one input. -/
def expirySameWrong : ChangeSpec := { name := "expirySame", fn := fun _ => fun
  | [d1, d2] => { results := [.lit (.bool false)], args := [d1, d2] }
  | _ => none }
def ExpirySameWrongFalsely : Prop := expirySameRow.holds Try.pinned (OpenSpec.ofChange expirySameWrong)

/-- 'pontoonlaw11.ExpiryNil': WHATEVER THE INPUT: true; the input reads as it did. -/
def expiryNilSpec : ChangeSpec := { name := "expiryNil", fn := fun _ => fun
  | [d] => { results := [.lit (.bool true)], args := [d] }
  | _ => none }
def expiryNilRow : OpenClaim := { program := "ythafopnaecbjdaa", sum := "78d3a5a1ae82daab0b91606580fbd03c05546b3937427bb1c070c85c180b42bd", func := "pontoon/pontoonlaw11.ExpiryNil", spec := "expiryNil", unfollowed := true, recurses := true, apart := false }
def ExpiryNilSaid : Prop := expiryNilRow.holds Try.pinned (OpenSpec.ofChange expiryNilSpec)

/-- ITS FALSE NEIGHBOUR: 'it returns false'. Refute it at one input. -/
def expiryNilWrong : ChangeSpec := { name := "expiryNil", fn := fun _ => fun
  | [d] => { results := [.lit (.bool false)], args := [d] }
  | _ => none }
def ExpiryNilWrongFalsely : Prop := expiryNilRow.holds Try.pinned (OpenSpec.ofChange expiryNilWrong)

/-- 'pontoonlaw11.ExpiryDrops': WHATEVER THE INPUT: true; the input reads as it did. -/
def expiryDropsSpec : ChangeSpec := { name := "expiryDrops", fn := fun _ => fun
  | [d1, d2, d3] => { results := [.lit (.bool true)], args := [d1, d2, d3] }
  | _ => none }
def expiryDropsRow : OpenClaim := { program := "ythafopnaecbjdaa", sum := "78d3a5a1ae82daab0b91606580fbd03c05546b3937427bb1c070c85c180b42bd", func := "pontoon/pontoonlaw11.ExpiryDrops", spec := "expiryDrops", unfollowed := true, recurses := true, apart := false }
def ExpiryDropsSaid : Prop := expiryDropsRow.holds Try.pinned (OpenSpec.ofChange expiryDropsSpec)

/-- ITS FALSE NEIGHBOUR: 'it returns false'. Refute it at one input. -/
def expiryDropsWrong : ChangeSpec := { name := "expiryDrops", fn := fun _ => fun
  | [d1, d2, d3] => { results := [.lit (.bool false)], args := [d1, d2, d3] }
  | _ => none }
def ExpiryDropsWrongFalsely : Prop := expiryDropsRow.holds Try.pinned (OpenSpec.ofChange expiryDropsWrong)

/- THE SECOND FORM. 'bulk': how many values and letters a reading holds, each counted each time it is reached (what is shared counts as often as it is met; a slice's spare places count too). A statement '..UptoSaid' is the law's where the arguments, and the package variables that the reading takes, are together of bulk at most 1048576: NARROWER than '..Said'. Prove '..Said' where nothing that the law and all that it calls make is longer than what came in: it says more and counts as full. Else prove '..UptoSaid'. A law counts once. -/
mutual
def uptoBulk {H : Type} : DataW H → Nat
  | .lit (.string bytes) => bytes.length + 1
  | .lit _ => 1
  | .nil => 1
  | .ptr d => uptoBulk d + 1
  | .slice elems spare => uptoBulkAll elems + uptoBulkAll spare + 1
  | .agg parts => uptoBulkAll parts + 1
  | .iface _ d => uptoBulk d + 1
  | .map entries => uptoBulkEntries entries + 1
  | .held _ => 1
def uptoBulkAll {H : Type} : List (DataW H) → Nat
  | [] => 0
  | d :: r => uptoBulk d + uptoBulkAll r
def uptoBulkEntries {H : Type} : List (Lit × DataW H) → Nat
  | [] => 0
  | x :: r => uptoBulkEntry x + uptoBulkEntries r
def uptoBulkEntry {H : Type} : Lit × DataW H → Nat
  | (.string bytes, d) => bytes.length + uptoBulk d + 1
  | (_, d) => uptoBulk d + 1
 end
def uptoSmall : (H : Type) → List (DataW H) → Bool := fun _ ds => decide (uptoBulkAll ds ≤ 1048576)
def OpenSpec.upto (s : _root_.Go.ChangeSpec) : _root_.Go.OpenSpec := { _root_.Go.OpenSpec.ofChange s with cond := some uptoSmall }

/-- 'pontoonlaw11.ExpiryPlays', WHERE WHAT IT READS IS OF BULK AT MOST 1048576: true; the input reads as it did. -/
def expiryPlaysUptoRow : OpenClaim := { program := "ythafopnaecbjdaa", sum := "78d3a5a1ae82daab0b91606580fbd03c05546b3937427bb1c070c85c180b42bd", func := "pontoon/pontoonlaw11.ExpiryPlays", spec := "expiryPlays", unfollowed := true, recurses := true, apart := false, narrowed := true }
def ExpiryPlaysUptoSaid : Prop := expiryPlaysUptoRow.holds Try.pinned (OpenSpec.upto expiryPlaysSpec)

/-- 'pontoonlaw11.ExpiryOnce', WHERE WHAT IT READS IS OF BULK AT MOST 1048576: true; the input reads as it did. -/
def expiryOnceUptoRow : OpenClaim := { program := "ythafopnaecbjdaa", sum := "78d3a5a1ae82daab0b91606580fbd03c05546b3937427bb1c070c85c180b42bd", func := "pontoon/pontoonlaw11.ExpiryOnce", spec := "expiryOnce", unfollowed := true, recurses := true, apart := false, narrowed := true }
def ExpiryOnceUptoSaid : Prop := expiryOnceUptoRow.holds Try.pinned (OpenSpec.upto expiryOnceSpec)

/-- 'pontoonlaw11.ExpirySame', WHERE WHAT IT READS IS OF BULK AT MOST 1048576: true; the input reads as it did. -/
def expirySameUptoRow : OpenClaim := { program := "ythafopnaecbjdaa", sum := "78d3a5a1ae82daab0b91606580fbd03c05546b3937427bb1c070c85c180b42bd", func := "pontoon/pontoonlaw11.ExpirySame", spec := "expirySame", unfollowed := true, recurses := true, apart := false, narrowed := true }
def ExpirySameUptoSaid : Prop := expirySameUptoRow.holds Try.pinned (OpenSpec.upto expirySameSpec)

/-- 'pontoonlaw11.ExpiryNil', WHERE WHAT IT READS IS OF BULK AT MOST 1048576: true; the input reads as it did. -/
def expiryNilUptoRow : OpenClaim := { program := "ythafopnaecbjdaa", sum := "78d3a5a1ae82daab0b91606580fbd03c05546b3937427bb1c070c85c180b42bd", func := "pontoon/pontoonlaw11.ExpiryNil", spec := "expiryNil", unfollowed := true, recurses := true, apart := false, narrowed := true }
def ExpiryNilUptoSaid : Prop := expiryNilUptoRow.holds Try.pinned (OpenSpec.upto expiryNilSpec)

/-- 'pontoonlaw11.ExpiryDrops', WHERE WHAT IT READS IS OF BULK AT MOST 1048576: true; the input reads as it did. -/
def expiryDropsUptoRow : OpenClaim := { program := "ythafopnaecbjdaa", sum := "78d3a5a1ae82daab0b91606580fbd03c05546b3937427bb1c070c85c180b42bd", func := "pontoon/pontoonlaw11.ExpiryDrops", spec := "expiryDrops", unfollowed := true, recurses := true, apart := false, narrowed := true }
def ExpiryDropsUptoSaid : Prop := expiryDropsUptoRow.holds Try.pinned (OpenSpec.upto expiryDropsSpec)

end Rows
end Go.Proofs.Ythafopnaecbjdaa
