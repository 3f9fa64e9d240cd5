/- What the walks ask of this program's tables, and its calls without a body. -/
import Derived.Test.YtncmjgmlnnenhaaDoorPure11
import Derived.Test.YtncmjgmlnnenhaaDoorProg
namespace Go.Proofs.YtncmjgmlnnenhaaDoor
open Go Go.Lx
set_option linter.unusedSimpArgs false
set_option linter.unusedVariables false
set_option linter.unnecessarySimpa false
theorem mixed : Tryd.prog.follows .mixedOrders = true := by kernel_rfl
theorem el_byte : ElT Tryd.prog 22 5 1 1 (.int .u8 0) := ⟨Tryd.underlying22, ⟨Tryd.t5, by kernel_rfl, rfl, rfl, rfl⟩, rfl, by decide, by decide⟩
end Go.Proofs.YtncmjgmlnnenhaaDoor
