/- Walks: what functions return. -/
import Derived.Test.YtecjjgljkepajaaGreatDoorWref11c
set_option linter.unusedVariables false
set_option linter.unusedSimpArgs false
set_option linter.unnecessarySimpa false
namespace Go.Proofs.YtecjjgljkepajaaGreatDoor
open Go Go.Lx Go.RowKit
set_option maxRecDepth 100000

end Go.Proofs.YtecjjgljkepajaaGreatDoor
