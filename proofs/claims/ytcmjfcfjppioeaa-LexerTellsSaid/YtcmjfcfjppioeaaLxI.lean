/- lexer: what the second print brings with it. -/
import Derived.Test.YtcmjfcfjppioeaaLx2
import Derived.Test.YtcmjfcfjppioeaaLxL
import Derived.Test.YtcmjfcfjppioeaaLx1
import Derived.WalkMore
import Derived.Laws.RangeString
import Derived.Laws.RangeAny
import Derived.KernelRfl
namespace Go.Proofs.Ytcmjfcfjppioeaa
theorem lx_here : True := trivial
end Go.Proofs.Ytcmjfcfjppioeaa
