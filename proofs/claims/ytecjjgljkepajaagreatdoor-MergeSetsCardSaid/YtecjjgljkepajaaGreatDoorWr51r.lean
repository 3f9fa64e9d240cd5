/- Walks, printed by program: each theorem says what a function of the translation returns. -/
import Derived.Test.YtecjjgljkepajaaGreatDoorWr51
import Derived.Test.YtecjjgljkepajaaGreatDoorKo
namespace Go.Proofs.YtecjjgljkepajaaGreatDoor
open Go Go.Lx Go.RowKit
set_option maxRecDepth 100000
set_option linter.unusedVariables false
set_option linter.unusedSimpArgs false
set_option linter.unnecessarySimpa false
end Go.Proofs.YtecjjgljkepajaaGreatDoor
