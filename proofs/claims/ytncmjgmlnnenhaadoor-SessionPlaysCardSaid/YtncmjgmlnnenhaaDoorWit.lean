/- A world that holds the listed tables: for the rows' witnesses. Nothing of a program stands here. -/
import Derived.Test.YtncmjgmlnnenhaaDoorOpen
namespace Go.Lx
open Go
set_option linter.unusedSimpArgs false
set_option linter.unusedVariables false
set_option linter.unnecessarySimpa false
/-- The cells of a plain datum. -/
def datC : DataW Unit → List Value
  | .lit (.int k n) => [.int k n]
  | .lit (.bool b) => [.bool b]
  | .lit (.string s) => [.string ⟨s.toArray⟩]
  | .agg l => datCs l
  | _ => []
where datCs : List (DataW Unit) → List Value
  | [] => []
  | d :: r => datC d ++ datCs r
def layIn (h : Array Obj) (g : Nat) (d : DataW Unit) : Array Obj := h.modify g fun
  | .cells _ t frozen => .cells (datC d).toArray t frozen
  | o => o
end Go.Lx
