/- Several texts in one file. -/
import Derived.Test.YtecjjgljkepajaaGreatDoorNorm
/- The plain laws of permissions. Nothing of a program stands here. -/
namespace Go.Lx
open Go
set_option linter.unusedSimpArgs false
set_option linter.unusedVariables false
set_option linter.unnecessarySimpa false
structure RawV where
 act : UInt8
 a : Option Addr
 c : Nat
 names : List UInt8
 deep : Bool
def RawV.perm (x : RawV) : Perm := ⟨actionS x.act, pathS x.names, x.deep⟩
theorem RawV.ok (x : RawV) : x.perm.ok := ⟨by have := actionS_len x.act; show (actionS x.act).length ≤ _; omega, by have := pathS_len x.names; show (pathS x.names).length ≤ _; omega⟩
/-! the chapter's example -/
/-! covering -/
/-! the laws' conditions, as the code puts them -/
end Go.Lx
/- Permissions, more: the text of a permission is read back. Nothing of a program stands here. -/
namespace Go.Lx
open Go
set_option linter.unusedSimpArgs false
set_option linter.unusedVariables false
set_option linter.unnecessarySimpa false
end Go.Lx
/- Lists of permissions: the normal list covers the same; two normal lists are equal exactly if they imply the same; what is common, what is beyond. Nothing of a program stands here. -/
namespace Go.Lx
open Go
set_option linter.unusedSimpArgs false
set_option linter.unusedVariables false
set_option linter.unnecessarySimpa false
end Go.Lx
