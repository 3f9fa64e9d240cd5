/- What the walks ask of this program's types of permissions. -/
import Derived.Test.YtgnphpimkfcmlaaDoorStr
import Derived.Test.YtgnphpimkfcmlaaDoorPure11b
import Derived.Test.YtgnphpimkfcmlaaDoorExt
namespace Go.Proofs.YtgnphpimkfcmlaaDoor
open Go Go.Lx
set_option linter.unusedSimpArgs false
set_option linter.unusedVariables false
set_option linter.unnecessarySimpa false
set_option maxRecDepth 10000
theorem permBeq (x y : Perm) : (x == y) = ((x.act == y.act) && (x.path == y.path) && (x.deep == y.deep)) := by
  obtain ⟨a, b, c⟩ := x
  obtain ⟨a', b', c'⟩ := y
  rw [Bool.eq_iff_iff]
  simp only [Bool.and_eq_true, beq_iff_eq, Perm.mk.injEq, and_assoc]
theorem eq_perm : EqT Tryd.prog 27 encP := ⟨by kernel_rfl, fun w x y => by
  rw [run_equalIn_struct w 9999 _ _ _ (by kernel_rfl) (by kernel_rfl), permBeq, Bool.and_assoc, Program.fieldsOf, Tryd.underlying27]
  have h3 : ((x.deep == y.deep) : Bool) = ((x.deep == y.deep) && true) := (Bool.and_true _).symm
  rw [h3]
  exact eqF_cons (by simp) Tryd.isAgg9 rfl rfl (eqI_str _ _ Tryd.underlying9) (eqF_cons (by simp) Tryd.isAgg9 rfl rfl (eqI_str _ _ Tryd.underlying9) (eqF_cons (by simp) Tryd.isAgg4 rfl rfl (fun w => run_equalIn_bool' w _ _ _ _ Tryd.underlying4) eqF_nil)) w⟩
theorem eq_rperm : EqT Tryd.prog 28 encP := ⟨by kernel_rfl, fun w x y => by
  rw [run_equalIn_struct w 9999 _ _ _ (by kernel_rfl) (by kernel_rfl), permBeq, Bool.and_assoc, Program.fieldsOf, Tryd.underlying28]
  have h3 : ((x.deep == y.deep) : Bool) = ((x.deep == y.deep) && true) := (Bool.and_true _).symm
  rw [h3]
  exact eqF_cons (by simp) Tryd.isAgg9 rfl rfl (eqI_str _ _ Tryd.underlying9) (eqF_cons (by simp) Tryd.isAgg9 rfl rfl (eqI_str _ _ Tryd.underlying9) (eqF_cons (by simp) Tryd.isAgg4 rfl rfl (fun w => run_equalIn_bool' w _ _ _ _ Tryd.underlying4) eqF_nil)) w⟩
theorem el_perm : ElT Tryd.prog 46 27 3 40 (.agg #[.string ⟨#[]⟩, .string ⟨#[]⟩, .bool false]) := ⟨Tryd.underlying46, ⟨Tryd.t27, by kernel_rfl, rfl, rfl, rfl⟩, rfl, by decide, by decide⟩
theorem el_rperm : ElT Tryd.prog 47 28 3 40 (.agg #[.string ⟨#[]⟩, .string ⟨#[]⟩, .bool false]) := ⟨Tryd.underlying47, ⟨Tryd.t28, by kernel_rfl, rfl, rfl, rfl⟩, rfl, by decide, by decide⟩
end Go.Proofs.YtgnphpimkfcmlaaDoor
