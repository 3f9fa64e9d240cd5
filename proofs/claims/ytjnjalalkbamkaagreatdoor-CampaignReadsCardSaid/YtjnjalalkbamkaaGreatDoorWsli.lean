/- Walks: what functions return. -/
import Derived.Test.YtjnjalalkbamkaaGreatDoorWbits
import Derived.Test.YtjnjalalkbamkaaGreatDoorOwn2
import Derived.Test.YtjnjalalkbamkaaGreatDoorSe
import Derived.Test.YtjnjalalkbamkaaGreatDoorLk
set_option linter.unusedVariables false
set_option linter.unusedSimpArgs false
set_option linter.unnecessarySimpa false
namespace Go.Proofs.YtjnjalalkbamkaaGreatDoor
open Go Go.Lx Go.RowKit Tryz
set_option maxRecDepth 100000
theorem el_ses : ElT Tryz.prog 176 221 3 40 (.agg #[.int .i64 0, .int .i64 0, .slice none 0 0]) := ⟨underlying176, ⟨Tryz.t221, by kernel_rfl, rfl, rfl, rfl⟩, rfl, by decide, by decide⟩
