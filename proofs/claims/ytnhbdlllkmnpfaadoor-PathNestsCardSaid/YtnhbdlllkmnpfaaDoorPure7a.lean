/- The chapter's examples of paths. Nothing of a program stands here. -/
import Derived.Test.YtnhbdlllkmnpfaaDoorSet
namespace Go.Lx
open Go
set_option linter.unusedSimpArgs false
set_option linter.unusedVariables false
set_option linter.unnecessarySimpa false
def awT : List Str := addT (addT [[47]] [47, 97, 47, 98]) [47, 97, 47, 99]
theorem awT_is : awT = [[47], [47, 97, 47, 98], [47, 97], [47, 97, 47, 99]] := by decide +kernel
theorem aw_child {r : List Str} (h : Srt r (childT (addT (addT [[47]] [47, 97, 47, 98]) [47, 97, 47, 99]) [47, 97])) : r = [[47, 97, 47, 98], [47, 97, 47, 99]] := by
  have e : childT (addT (addT [[47]] [47, 97, 47, 98]) [47, 97, 47, 99]) [47, 97] = [[47, 97, 47, 98], [47, 97, 47, 99]] := by decide +kernel
  rw [e] at h
  exact Srt.uniq (by decide +kernel) h ⟨List.Perm.refl _, by decide +kernel⟩
end Go.Lx
