/- Walks: what functions return. -/
import Derived.Test.YtjnjalalkbamkaaGreatDoorWperm
import Derived.Test.YtjnjalalkbamkaaGreatDoorGi
import Derived.Test.YtjnjalalkbamkaaGreatDoorSe
set_option linter.unusedVariables false
set_option linter.unusedSimpArgs false
set_option linter.unnecessarySimpa false
namespace Go.Proofs.YtjnjalalkbamkaaGreatDoor
open Go Go.Lx Go.RowKit Tryz
set_option maxRecDepth 100000
theorem eqI_k (d : Nat) {k : IntKind} {T : TypeId} (x y : Int) (h : Tryz.prog.underlying T = some (.int k)) : ∀ w, (Op.equalIn (d + 1) T (.int k x) (.int k y)).run Tryz.prog w = .ok (x == y) w := by
 intro w
 simp [Op.equalIn, run_underlying h]

theorem pmBeq (x y : Perm) : (x == y) = ((x.act == y.act) && ((x.path == y.path) && ((x.deep == y.deep) && true))) := by
 obtain ⟨a0, a1, a2⟩ := x
 obtain ⟨b0, b1, b2⟩ := y
 rw [Bool.eq_iff_iff]
 simp only [Bool.and_eq_true, beq_iff_eq, Perm.mk.injEq, and_true]
theorem eq_ppD (n : Nat) (x y : Perm) : ∀ w, (Op.equalIn (n + 2) 119 (.agg (encP x).toArray) (.agg (encP y).toArray)).run Tryz.prog w = .ok (x == y) w := fun w => by
 rw [run_equalIn_struct w (n + 1) _ _ _ (by kernel_rfl) (by kernel_rfl), pmBeq, Program.fieldsOf, underlying119]
 exact (eqF_cons (by simp) isAgg9 rfl rfl (eqI_str _ _ underlying9) (eqF_cons (by simp) isAgg9 rfl rfl (eqI_str _ _ underlying9) (eqF_cons (by simp) isAgg4 rfl rfl (fun w => run_equalIn_bool' w _ _ _ _ underlying4) eqF_nil))) w
theorem eq_pp : EqT Tryz.prog 119 encP := ⟨by kernel_rfl, fun w x y => eq_ppD 9998 x y w⟩
theorem okBeq (x y : OKey) : (x == y) = ((x.k == y.k) && ((x.a == y.a) && ((x.b == y.b) && ((x.p == y.p) && true)))) := by
 obtain ⟨a0, a1, a2, a3⟩ := x
 obtain ⟨b0, b1, b2, b3⟩ := y
 rw [Bool.eq_iff_iff]
 simp only [Bool.and_eq_true, beq_iff_eq, OKey.mk.injEq, and_true]
theorem eq_ckD (n : Nat) (x y : OKey) : ∀ w, (Op.equalIn (n + 3) 161 (.agg (encCk x).toArray) (.agg (encCk y).toArray)).run Tryz.prog w = .ok (x == y) w := fun w => by
 rw [run_equalIn_struct w (n + 2) _ _ _ (by kernel_rfl) (by kernel_rfl), okBeq, Program.fieldsOf, underlying161]
 exact (eqF_cons (by simp) isAgg117 rfl rfl (eqI_k _ _ _ underlying117) (eqF_cons (by simp) isAgg3 rfl rfl (eqI_k _ _ _ underlying3) (eqF_cons (by simp) isAgg3 rfl rfl (eqI_k _ _ _ underlying3) (eqF_consA (by simp) isAgg119 sizeOf119 rfl rfl (eq_ppD n x.p y.p) eqF_nil)))) w
theorem eq_ck : EqT Tryz.prog 161 encCk := ⟨by kernel_rfl, fun w x y => eq_ckD 9997 x y w⟩
theorem el_co : ElT Tryz.prog 60 121 8 72 (.agg #[.bool false, .int .u8 0, .int .i64 0, .int .i64 0, .int .i64 0, .string ⟨#[]⟩, .string ⟨#[]⟩, .bool false]) := ⟨underlying60, ⟨Tryz.t121, by kernel_rfl, rfl, rfl, rfl⟩, rfl, by decide, by decide⟩
