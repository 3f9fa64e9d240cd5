/- Walks: what functions return. -/
import Derived.Test.YtdnkjdmfnmdpdaaGreatDoorPure11
import Derived.Test.YtdnkjdmfnmdpdaaGreatDoorPure11g
import Derived.Test.YtdnkjdmfnmdpdaaGreatDoorTz
import Derived.ChangeKeysEq
set_option linter.unusedVariables false
set_option linter.unusedSimpArgs false
set_option linter.unnecessarySimpa false
namespace Go.Proofs.YtdnkjdmfnmdpdaaGreatDoor
open Go Go.Lx Go.RowKit Tryz
set_option maxRecDepth 100000
theorem el_pr : ElT Tryz.prog 31 103 2 16 (.agg #[.int .i64 0, .int .i64 0]) := ⟨underlying31, ⟨Tryz.t103, by kernel_rfl, rfl, rfl, rfl⟩, rfl, by decide, by decide⟩
