-- Written by a program of this session's (wip/ext/run.py) over the kit's print, with contracts of its own.
import Derived.Test.YtjmgookpmngmaaaProg
import Derived.Below
import Derived.Deep.Draws
import Derived.Deep.AppendLies
import Derived.Maps.AppendAt
import Derived.OwnWalk
import Derived.Laws.BytesArg
import Derived.Laws.MakeOwn
import Derived.Laws.OwnMore
import Derived.Deep.OwnRows
import Derived.Tactics
import Derived.Lib.ConvBytes
import Derived.Laws.Slices
import Derived.WalkKit
import Derived.KernelRfl
import Derived.RowKit3
import Derived.Deep.LoopGhost
import Derived.Deep.QuietTactic
import Derived.BigQuiet
import Derived.WideLaws
import Derived.Deep.DeepCutAuto
import Derived.Deep.CutBlock
import Derived.Deep.RegionHeld3
import Derived.Laws.Rows
import Derived.Lib.AppendStr
import Derived.ArgAppend
import Derived.Laws.IdiomCopy
import Derived.OrdersHeld
import Derived.Laws.BitsLemmas
import Derived.RowKit
import Derived.Test.YtjmgookpmngmaaaOct
import Derived.Test.YtjmgookpmngmaaaWWords
import Derived.Test.YtjmgookpmngmaaaWLast
import Derived.Test.YtjmgookpmngmaaaWTab
import Derived.Test.YtjmgookpmngmaaaWFour
import Derived.Test.YtjmgookpmngmaaaWQPut
import Derived.Test.YtjmgookpmngmaaaWApart
import Derived.Test.YtjmgookpmngmaaaWArr
import Derived.Test.YtjmgookpmngmaaaWZeros
import Derived.Test.YtjmgookpmngmaaaWFoot
import Derived.Test.YtjmgookpmngmaaaWKept
import Derived.Test.YtjmgookpmngmaaaWShare
import Derived.Test.YtjmgookpmngmaaaWN
import Derived.Test.YtjmgookpmngmaaaWFootNe
import Derived.Test.YtjmgookpmngmaaaWAt
import Derived.Test.YtjmgookpmngmaaaWEqStruct
import Derived.Test.YtjmgookpmngmaaaWRepsOne
import Derived.Test.YtjmgookpmngmaaaWInv
import Derived.Test.YtjmgookpmngmaaaWInvWords
import Derived.Test.YtjmgookpmngmaaaWGuard
import Derived.Test.YtjmgookpmngmaaaWNEv
import Derived.Test.YtjmgookpmngmaaaWMore
namespace Go.Proofs.Ytjmgookpmngmaaa.Pr
open Go.RowKit Go.Proofs.YtjmgookpmngmaaaW.PrintWords Go.Proofs.YtjmgookpmngmaaaW.PrintLast Go.Proofs.YtjmgookpmngmaaaW.PrintMore
attribute [local go_sem] max2_int min2_int max_two min_two max_three min_three max_four min_four   -- for this text's walks alone
set_option linter.unusedVariables false
set_option linter.unusedSimpArgs false



def errW : Option Int → Value
  | none => .nilIface
  | some c => .iface 0 (.int .i64 c)
theorem errW_none : errW none = .nilIface := rfl
theorem errW_some (c : Int) : errW (some c) = .iface 0 (.int .i64 c) := rfl

theorem info5 : (Try.prog.info? 5).map (fun i => (i.zero, i.size, i.bytes)) = some (some (.int .u8 0), 1, 1) := by kernel_rfl
-- the values' own types

end Go.Proofs.Ytjmgookpmngmaaa.Pr
