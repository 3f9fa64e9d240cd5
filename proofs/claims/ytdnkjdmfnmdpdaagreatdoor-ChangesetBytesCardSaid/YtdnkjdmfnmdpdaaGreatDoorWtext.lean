/- Walks: what functions return. -/
import Derived.Test.YtdnkjdmfnmdpdaaGreatDoorWperm
import Derived.Test.YtdnkjdmfnmdpdaaGreatDoorNorm
import Derived.Test.YtdnkjdmfnmdpdaaGreatDoorOwn3
set_option linter.unusedVariables false
set_option linter.unusedSimpArgs false
set_option linter.unnecessarySimpa false
namespace Go.Proofs.YtdnkjdmfnmdpdaaGreatDoor
open Go Go.Lx Go.RowKit Tryz
set_option maxRecDepth 100000
theorem ptext_ok (β : Prop) (w : World) (x : Perm) (hx : x.ok) : Ok Tryz.prog 85 #[.agg (encP x).toArray] w fun v w' => v = str (textS x) ∧ Ext β w w' := by
 have hxa := hx.1; have hxp := hx.2
 refine ZQ 26 func85 rfl rfl rfl ?_
 have hX : Ext β w w := Bel.refl _ _
 refine QH (Qc ?_)
 refine Z2 rfl (JB (v := .agg _) rfl) ?_
 intro b1 w1 x2 hge1 hb1
 change Box _ _ _ (encP _) at hb1
 replace hX := hX.ex x2
 refine Rr Zi ?_
 refine Qg (QH (QH (Qc ?_)))
 refine Rr (ZO isAgg48 sizeOf48 rfl hb1.at rfl) ?_
 refine ZC rfl (ZK call51 rfl) (Ok.mono (check_ok (β) _ (by first | assumption | omega | (simp; done) | (simp; omega) | (simp at *; omega)) _) ?_)
 rintro _ w3 ⟨rfl, x4⟩
 replace hX := hX.ex x4
 replace hb1 := hb1.ext x4
 refine Rr (JD rfl rfl) ?_
 refine Qg ?_
 refine ZG rfl (fun hc1 => ?_) (fun hc1 => ?_)
 ·refine QH (Qc ?_)
  refine Rr Zi ?_
  refine Qg (ZJ ?_)
  refine ⟨_, ZF rfl rfl, ?_⟩
  refine ⟨congrArg str ?_, hX⟩
  all_goals (rw [textS, if_pos hc1])
 refine ZH (QH (Qc ?_))
 refine Rr (ZN underlying48 rfl sizeOf9 rfl) ?_
 refine Rr (ZB isAgg9 rfl (hb1.at.get 0 rfl)) ?_
 refine Rr (Z3 rfl rfl (by simp; omega)) ?_
 refine Rr (ZN underlying48 rfl sizeOf9 rfl) ?_
 refine Rr (ZB isAgg9 rfl (hb1.at.get 1 rfl)) ?_
 refine Rr (Z3 rfl rfl (by simp; omega)) ?_
 refine Rr (ZD (v := str _) rfl) ?_
 refine Qg (QH (ZM (QH (Qc ?_))))
 refine Rr (ZN underlying48 rfl sizeOf4 rfl) ?_
 refine Rr (ZB isAgg4 rfl (hb1.at.get 2 rfl)) ?_
 refine Rr (Jf rfl) ?_
 refine Rr (asB rfl) ?_
 refine Qg ?_
 refine ZG rfl (fun hc2 => ?_) (fun hc2 => ?_)
 ·refine QH (Qc ?_)
  refine Rr (Zt (v := str _) rfl) ?_
  refine Rr (ZD (v := str _) rfl) ?_
  refine Qg (ZJ ?_)
  refine ⟨_, ZF rfl rfl, ?_⟩
  refine ⟨congrArg str ?_, hX⟩
  all_goals (rw [textS, if_neg (by rw [hc1]; simp), if_pos hc2])
 refine QH (Qc ?_)
 refine Rr (ZN underlying48 rfl sizeOf9 rfl) ?_
 refine Rr (ZB isAgg9 rfl (hb1.at.get 1 rfl)) ?_
 refine Rr (o_seql rfl rfl) ?_
 refine Rr (asB rfl) ?_
 refine Qg ?_
 refine ZG rfl (fun hc3 => ?_) (fun hc3 => ?_)
 ·refine QH (Qc ?_)
  refine Rr (Zt (v := str _) rfl) ?_
  refine Rr (Z3 rfl rfl (by simp; omega)) ?_
  refine Rr (ZD (v := str _) rfl) ?_
  refine Qg (ZJ ?_)
  refine ⟨_, ZF rfl rfl, ?_⟩
  refine ⟨congrArg str ?_, hX⟩
  all_goals (rw [textS, if_neg (by rw [hc1]; simp), if_neg (by rw [hc2]; simp), if_pos hc3])
 refine ZH (QH (Qc ?_))
 refine Rr (Zt (v := str _) rfl) ?_
 refine Rr (Z3 rfl rfl (by simp; omega)) ?_
 refine Rr (ZD (v := str _) rfl) ?_
 refine Qg (ZJ ?_)
 refine ⟨_, ZF rfl rfl, ?_⟩
 refine ⟨congrArg str ?_, hX⟩
 all_goals (rw [textS, if_neg (by rw [hc1]; simp), if_neg (by rw [hc2]; simp), if_neg (by rw [hc3]; simp)])

