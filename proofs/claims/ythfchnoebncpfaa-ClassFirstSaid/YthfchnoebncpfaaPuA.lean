import Derived.Test.YthfchnoebncpfaaPux0
import Derived.Test.YthfchnoebncpfaaPux1
import Derived.Test.YthfchnoebncpfaaPux2
import Derived.Test.YthfchnoebncpfaaPux3
import Derived.Test.YthfchnoebncpfaaPux4
import Derived.Test.YthfchnoebncpfaaPux5
import Derived.Test.YthfchnoebncpfaaPux6
import Derived.Test.YthfchnoebncpfaaPux7
import Derived.Test.YthfchnoebncpfaaPux8
import Derived.Test.YthfchnoebncpfaaPux9
namespace Go.Proofs.Ythfchnoebncpfaa.Pu
theorem pu_here : True := trivial
end Go.Proofs.Ythfchnoebncpfaa.Pu
