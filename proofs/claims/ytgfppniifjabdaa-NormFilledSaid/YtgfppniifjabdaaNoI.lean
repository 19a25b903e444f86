/- norm: what the second print brings with it. -/
import Derived.Test.YtgfppniifjabdaaLx2
import Derived.Test.YtgfppniifjabdaaLx1
import Derived.WalkMore
import Derived.Laws.RangeString
import Derived.Laws.RangeAny
import Derived.KernelRfl
import Derived.Test.YtgfppniifjabdaaNo5
namespace Go.Proofs.Ytgfppniifjabdaa
theorem no_here : True := trivial
end Go.Proofs.Ytgfppniifjabdaa
