/- Walks: what functions return. -/
import Derived.Test.YtecjjgljkepajaaGreatDoorPure11
import Derived.Test.YtecjjgljkepajaaGreatDoorSort
import Derived.Test.YtecjjgljkepajaaGreatDoorTz
import Derived.ChangeKeysEq
set_option linter.unusedVariables false
set_option linter.unusedSimpArgs false
set_option linter.unnecessarySimpa false
namespace Go.Proofs.YtecjjgljkepajaaGreatDoor
open Go Go.Lx Go.RowKit
set_option maxRecDepth 100000
theorem el_pr : ElT Tryz.prog 70 115 2 16 (.agg #[.int .i64 0, .int .i64 0]) := ⟨Tryz.underlying70, ⟨Tryz.t115, by kernel_rfl, rfl, rfl, rfl⟩, rfl, by decide, by decide⟩
end Go.Proofs.YtecjjgljkepajaaGreatDoor
