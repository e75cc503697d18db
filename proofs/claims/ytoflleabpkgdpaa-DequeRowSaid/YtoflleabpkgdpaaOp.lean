/- What the arguments of the laws read as: pure values, in range. No conditions. -/
import Derived.Test.YtoflleabpkgdpaaTb
import Derived.Test.YtoflleabpkgdpaaFwU
set_option linter.unusedVariables false
set_option linter.unusedSimpArgs false
namespace Go.Proofs.Ytoflleabpkgdpaa
open Go Go.Proofs
theorem opens_3 {w : World} : Opens Try.prog w 3 (kInt .i64) inI64 := opens_int Try.underlying3
end Go.Proofs.Ytoflleabpkgdpaa
