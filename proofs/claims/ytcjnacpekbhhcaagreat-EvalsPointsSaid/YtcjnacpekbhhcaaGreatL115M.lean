/-
  Contracts of the functions that the law reaches.
-/
import Derived.Test.YtcjnacpekbhhcaaGreatL98M
namespace Go.Proofs.YtcjnacpekbhhcaaGreat
open Go Go.Proofs Go.AL
set_option linter.unusedSimpArgs false
set_option linter.unusedVariables false

end Go.Proofs.YtcjnacpekbhhcaaGreat

namespace Go.Proofs.YtcjnacpekbhhcaaGreat
open Go Go.Proofs Go.AL
set_option linter.unusedSimpArgs false
set_option linter.unusedVariables false

end Go.Proofs.YtcjnacpekbhhcaaGreat
