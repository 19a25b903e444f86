/- class: what the second print brings with it. -/
import Derived.KernelRfl
import Derived.Test.YthfchnoebncpfaaCl1
import Derived.Test.YthfchnoebncpfaaMapLit
import Derived.BigQuiet
import Derived.Deep.QuietTactic
import Derived.Deep.OwnRows
import Derived.WideKeyEntry
import Derived.Deep.RegionHeld3
namespace Go.Proofs.Ythfchnoebncpfaa
theorem cl_here : True := trivial
end Go.Proofs.Ythfchnoebncpfaa
