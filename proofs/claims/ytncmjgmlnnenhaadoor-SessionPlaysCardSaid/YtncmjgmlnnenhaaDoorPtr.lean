/- Pointers and nil; a checked type. Nothing of a program stands here. -/
import Derived.Test.YtncmjgmlnnenhaaDoorOwn2
import Derived.Laws.Pointers
namespace Go.Lx
open Go Go.RowKit
set_option linter.unusedSimpArgs false
set_option linter.unusedVariables false
set_option linter.unnecessarySimpa false
section
variable {P : Program} {fr : Fr} {w : World} {d : Option Nat} {t : TypeId} {ps : String} {af : Array Edge} {g : Option (Nat × Bool)} {x y z : Operand} {T K E U : TypeId}
theorem o_nilc {v : Addr} (hx : ev fr x = .pointer (some v)) : xop P fr w ⟨d, .nilCheck x, t, ps, af, g⟩ = .ok (.value (.pointer (some v))) w := by
  simp [xop, execOp, hx]
theorem o_tassert {v : Value} {D : TypeDesc} (hT : P.underlying T = some D) (hD : (match D with | .interface _ => true | _ => false) = false) (hx : ev fr x = .iface T v) : xop P fr w ⟨d, .typeAssert x U T false, t, ps, af, g⟩ = .ok (.value v) w := by
  cases D <;> simp_all [xop, execOp, Instr.typeAssert, run_underlying hT]
theorem pointee_of {tp : TypeId} (hT : P.underlying T = some (.pointer tp)) : P.underlying T = some (.pointer (P.pointee T)) := by
  have : P.pointee T = tp := by unfold Program.pointee; rw [hT]
  rw [this]; exact hT
theorem o_peq {a : Option Addr} {tp : TypeId} (hT : P.underlying T = some (.pointer tp)) (hx : ev fr x = .pointer a) (hy : ev fr y = .pointer none) : xop P fr w ⟨d, .binOp .eql T x y U, t, ps, af, g⟩ = .ok (.value (.bool a.isNone)) w := by
  have := run_eql_pointer_nil (P := P) (w := w) T a (pointee_of hT)
  simp only [xop, execOp, hx, hy, eqGuard]
  simp [this]
theorem o_peqL {a : Addr} {tp : TypeId} (hT : P.underlying T = some (.pointer tp)) (hx : ev fr x = .pointer none) (hy : ev fr y = .pointer (some a)) : xop P fr w ⟨d, .binOp .eql T x y U, t, ps, af, g⟩ = .ok (.value (.bool false)) w := by
  have e0 : ∀ d : Nat, (Op.equalIn (d + 1) T (.pointer none) (.pointer (some a))).run P w = .ok false w := fun d => by
    simp [Op.equalIn, run_underlying hT]
  have e : (Op.equal T (.pointer none) (.pointer (some a))).run P w = .ok false w := e0 9999
  have : (binOp .eql T (.pointer none) (.pointer (some a))).run P w = .ok (.bool false) w := by
    simp only [binOp]
    simp [e]
  simp only [xop, execOp, hx, hy, eqGuard]
  simp [this]
theorem o_pne {a : Option Addr} {tp : TypeId} (hT : P.underlying T = some (.pointer tp)) (hx : ev fr x = .pointer a) (hy : ev fr y = .pointer none) : xop P fr w ⟨d, .binOp .neq T x y U, t, ps, af, g⟩ = .ok (.value (.bool !a.isNone)) w := by
  have := run_neq_pointer_nil (P := P) (w := w) T a (pointee_of hT)
  simp only [xop, execOp, hx, hy, eqGuard]
  simp [this]
end
end Go.Lx
