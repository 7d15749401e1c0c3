/-
 What a law is handed,where the whole is bounded.
-/
import Derived.Test.YtmoiodckaadchaaGreatAbsS
namespace Go.AL
open Go.RowKit Go.ChangeShapes
set_option linter.unusedSimpArgs false
set_option linter.unusedVariables false
section
variable {P:Program} {w:World}
end
end Go.AL
