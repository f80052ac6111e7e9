import Derived.Test.YteindpciaceeeaaGreatZSh31
set_option linter.all false
set_option maxHeartbeats 8000000
namespace Go.Sh
open Go Go.Proofs
variable [Con]
end Go.Sh
