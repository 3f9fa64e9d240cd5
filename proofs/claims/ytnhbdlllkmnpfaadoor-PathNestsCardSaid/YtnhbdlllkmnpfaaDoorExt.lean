/- What the walks ask of this program's tables, and its calls without a body. -/
import Derived.Test.YtnhbdlllkmnpfaaDoorPure11
import Derived.Test.YtnhbdlllkmnpfaaDoorProg
namespace Go.Proofs.YtnhbdlllkmnpfaaDoor
open Go Go.Lx
set_option linter.unusedSimpArgs false
set_option linter.unusedVariables false
set_option linter.unnecessarySimpa false
theorem mixed : Tryd.prog.follows .mixedOrders = true := by kernel_rfl
theorem el_string : ElT Tryd.prog 35 9 1 16 (.string ⟨#[]⟩) := ⟨Tryd.underlying35, ⟨Tryd.t9, by kernel_rfl, rfl, rfl, rfl⟩, rfl, by decide, by decide⟩
theorem el_byte : ElT Tryd.prog 30 5 1 1 (.int .u8 0) := ⟨Tryd.underlying30, ⟨Tryd.t5, by kernel_rfl, rfl, rfl, rfl⟩, rfl, by decide, by decide⟩
theorem x_index (l : Str) (c : Int) (w : World) : (callFunc 120 #[str l, .int .u8 c]).run Tryd.prog w = .ok (.value (.int .i64 (Lib.indexByte l c.toNat.toUInt8))) w := by
  rw [run_callFunc_extern Tryd.func120 (by kernel_rfl) (by kernel_rfl) (by kernel_rfl) (e := Extern.BytealgIndexByte.indexByte) (by kernel_rfl)]
  rw [show str l = Value.string ⟨l.toArray⟩ from rfl, Lib.run_indexByteString]; rfl
theorem x_count (l : Str) (c : Int) (w : World) : (callFunc 105 #[str l, .int .u8 c]).run Tryd.prog w = .ok (.value (.int .i64 (l.count c.toNat.toUInt8 : Nat))) w := by
  rw [run_callFunc_extern Tryd.func105 (by kernel_rfl) (by kernel_rfl) (by kernel_rfl) (e := Extern.BytealgCount.count) (by kernel_rfl)]
  rw [show str l = Value.string ⟨l.toArray⟩ from rfl, Lib.run_countString]; rfl
end Go.Proofs.YtnhbdlllkmnpfaaDoor
