/- Walks: what functions return. -/
import Derived.Test.YtdnkjdmfnmdpdaaGreatDoorWref11d
import Derived.Test.YtdnkjdmfnmdpdaaGreatDoorGr
import Derived.Test.YtdnkjdmfnmdpdaaGreatDoorCs
set_option linter.unusedVariables false
set_option linter.unusedSimpArgs false
set_option linter.unnecessarySimpa false
namespace Go.Proofs.YtdnkjdmfnmdpdaaGreatDoor
open Go Go.Lx Go.RowKit Tryz
set_option maxRecDepth 100000
theorem eqI_k (d : Nat) {k : IntKind} {T : TypeId} (x y : Int) (h : Tryz.prog.underlying T = some (.int k)) : ∀ w, (Op.equalIn (d + 1) T (.int k x) (.int k y)).run Tryz.prog w = .ok (x == y) w := by
 intro w
 simp [Op.equalIn, run_underlying h]

theorem pmBeq (x y : Perm) : (x == y) = ((x.act == y.act) && ((x.path == y.path) && ((x.deep == y.deep) && true))) := by
 obtain ⟨a0, a1, a2⟩ := x
 obtain ⟨b0, b1, b2⟩ := y
 rw [Bool.eq_iff_iff]
 simp only [Bool.and_eq_true, beq_iff_eq, Perm.mk.injEq, and_true]
theorem eq_ppD (n : Nat) (x y : Perm) : ∀ w, (Op.equalIn (n + 2) 48 (.agg (encP x).toArray) (.agg (encP y).toArray)).run Tryz.prog w = .ok (x == y) w := fun w => by
 rw [run_equalIn_struct w (n + 1) _ _ _ (by kernel_rfl) (by kernel_rfl), pmBeq, Program.fieldsOf, underlying48]
 exact (JM (by simp) isAgg9 rfl rfl (eqI_str _ _ underlying9) (JM (by simp) isAgg9 rfl rfl (eqI_str _ _ underlying9) (JM (by simp) isAgg4 rfl rfl (fun w => run_equalIn_bool' w _ _ _ _ underlying4) eqF_nil))) w
theorem eq_pp : EqT Tryz.prog 48 encP := ⟨by kernel_rfl, fun w x y => eq_ppD 9998 x y w⟩
theorem eq_rpD (n : Nat) (x y : Perm) : ∀ w, (Op.equalIn (n + 2) 42 (.agg (encP x).toArray) (.agg (encP y).toArray)).run Tryz.prog w = .ok (x == y) w := fun w => by
 rw [run_equalIn_struct w (n + 1) _ _ _ (by kernel_rfl) (by kernel_rfl), pmBeq, Program.fieldsOf, underlying42]
 exact (JM (by simp) isAgg9 rfl rfl (eqI_str _ _ underlying9) (JM (by simp) isAgg9 rfl rfl (eqI_str _ _ underlying9) (JM (by simp) isAgg4 rfl rfl (fun w => run_equalIn_bool' w _ _ _ _ underlying4) eqF_nil))) w
theorem eq_rp : EqT Tryz.prog 42 encP := ⟨by kernel_rfl, fun w x y => eq_rpD 9998 x y w⟩
theorem okBeq (x y : OKey) : (x == y) = ((x.k == y.k) && ((x.a == y.a) && ((x.b == y.b) && ((x.p == y.p) && true)))) := by
 obtain ⟨a0, a1, a2, a3⟩ := x
 obtain ⟨b0, b1, b2, b3⟩ := y
 rw [Bool.eq_iff_iff]
 simp only [Bool.and_eq_true, beq_iff_eq, OKey.mk.injEq, and_true]
theorem eq_ckD (n : Nat) (x y : OKey) : ∀ w, (Op.equalIn (n + 3) 55 (.agg (encCk x).toArray) (.agg (encCk y).toArray)).run Tryz.prog w = .ok (x == y) w := fun w => by
 rw [run_equalIn_struct w (n + 2) _ _ _ (by kernel_rfl) (by kernel_rfl), okBeq, Program.fieldsOf, underlying55]
 exact (JM (by simp) isAgg47 rfl rfl (eqI_k _ _ _ underlying47) (JM (by simp) isAgg3 rfl rfl (eqI_k _ _ _ underlying3) (JM (by simp) isAgg3 rfl rfl (eqI_k _ _ _ underlying3) (eqF_consA (by simp) isAgg48 sizeOf48 rfl rfl (eq_ppD n x.p y.p) eqF_nil)))) w
theorem eq_ck : EqT Tryz.prog 55 encCk := ⟨by kernel_rfl, fun w x y => eq_ckD 9997 x y w⟩
theorem eq_rkD (n : Nat) (x y : OKey) : ∀ w, (Op.equalIn (n + 3) 59 (.agg (encRk x).toArray) (.agg (encRk y).toArray)).run Tryz.prog w = .ok (x == y) w := fun w => by
 rw [run_equalIn_struct w (n + 2) _ _ _ (by kernel_rfl) (by kernel_rfl), okBeq, Program.fieldsOf, underlying59]
 exact (JM (by simp) isAgg3 rfl rfl (eqI_k _ _ _ underlying3) (JM (by simp) isAgg3 rfl rfl (eqI_k _ _ _ underlying3) (JM (by simp) isAgg3 rfl rfl (eqI_k _ _ _ underlying3) (eqF_consA (by simp) isAgg42 sizeOf42 rfl rfl (eq_rpD n x.p y.p) eqF_nil)))) w
theorem eq_rk : EqT Tryz.prog 59 encRk := ⟨by kernel_rfl, fun w x y => eq_rkD 9997 x y w⟩
theorem coBeq (x y : COp) : (x == y) = ((x.add == y.add) && ((x.k == y.k) && ((x.a == y.a) && ((x.b == y.b) && ((x.u == y.u) && ((x.p == y.p) && true)))))) := by
 obtain ⟨a0, a1, a2, a3, a4, a5⟩ := x
 obtain ⟨b0, b1, b2, b3, b4, b5⟩ := y
 rw [Bool.eq_iff_iff]
 simp only [Bool.and_eq_true, beq_iff_eq, COp.mk.injEq, and_true]
theorem eq_coD (n : Nat) (x y : COp) : ∀ w, (Op.equalIn (n + 3) 50 (.agg (encCo x).toArray) (.agg (encCo y).toArray)).run Tryz.prog w = .ok (x == y) w := fun w => by
 rw [run_equalIn_struct w (n + 2) _ _ _ (by kernel_rfl) (by kernel_rfl), coBeq, Program.fieldsOf, underlying50]
 exact (JM (by simp) isAgg4 rfl rfl (fun w => run_equalIn_bool' w _ _ _ _ underlying4) (JM (by simp) isAgg47 rfl rfl (eqI_k _ _ _ underlying47) (JM (by simp) isAgg3 rfl rfl (eqI_k _ _ _ underlying3) (JM (by simp) isAgg3 rfl rfl (eqI_k _ _ _ underlying3) (JM (by simp) isAgg3 rfl rfl (eqI_k _ _ _ underlying3) (eqF_consA (by simp) isAgg48 sizeOf48 rfl rfl (eq_ppD n x.p y.p) eqF_nil)))))) w
theorem eq_co : EqT Tryz.prog 50 encCo := ⟨by kernel_rfl, fun w x y => eq_coD 9997 x y w⟩
theorem el_co : ElT Tryz.prog 61 50 8 72 (.agg #[.bool false, .int .u8 0, .int .i64 0, .int .i64 0, .int .i64 0, .string ⟨#[]⟩, .string ⟨#[]⟩, .bool false]) := ⟨underlying61, ⟨Tryz.t50, by kernel_rfl, rfl, rfl, rfl⟩, rfl, by decide, by decide⟩
theorem el_ck : ElT Tryz.prog 70 55 6 64 (.agg #[.int .u8 0, .int .i64 0, .int .i64 0, .string ⟨#[]⟩, .string ⟨#[]⟩, .bool false]) := ⟨underlying70, ⟨Tryz.t55, by kernel_rfl, rfl, rfl, rfl⟩, rfl, by decide, by decide⟩
theorem JW : ElT Tryz.prog 27 44 8 80 (.agg #[.bool false, .int .i64 0, .int .i64 0, .int .i64 0, .int .i64 0, .string ⟨#[]⟩, .string ⟨#[]⟩, .bool false]) := ⟨underlying27, ⟨Tryz.t44, by kernel_rfl, rfl, rfl, rfl⟩, rfl, by decide, by decide⟩
theorem el_a : ElT Tryz.prog 32 110 3 24 (.agg #[.int .i64 0, .int .i64 0, .int .i64 0]) := ⟨underlying32, ⟨Tryz.t110, by kernel_rfl, rfl, rfl, rfl⟩, rfl, by decide, by decide⟩
theorem el_c18 : ElT Tryz.prog 35 123 7 96 (.agg #[.bool false, .int .i64 0, .string ⟨#[]⟩, .int .i64 0, .int .i64 0, .slice none 0 0, .slice none 0 0]) := ⟨underlying35, ⟨Tryz.t123, by kernel_rfl, rfl, rfl, rfl⟩, rfl, by decide, by decide⟩
theorem el_f18 : ElT Tryz.prog 119 121 4 64 (.agg #[.int .i64 0, .int .i64 0, .slice none 0 0, .slice none 0 0]) := ⟨underlying119, ⟨Tryz.t121, by kernel_rfl, rfl, rfl, rfl⟩, rfl, by decide, by decide⟩
theorem el_r23 : ElT Tryz.prog 34 168 7 72 (.agg #[.bool false, .int .i64 0, .int .i64 0, .int .u64 0, .int .u64 0, .slice none 0 0, .int .i64 0]) := ⟨underlying34, ⟨Tryz.t168, by kernel_rfl, rfl, rfl, rfl⟩, rfl, by decide, by decide⟩
