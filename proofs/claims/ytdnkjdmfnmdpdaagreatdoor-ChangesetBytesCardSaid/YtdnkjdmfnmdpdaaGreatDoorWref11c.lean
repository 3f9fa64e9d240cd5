/- Walks: what functions return. -/
import Derived.Test.YtdnkjdmfnmdpdaaGreatDoorWref11b
set_option linter.unusedVariables false
set_option linter.unusedSimpArgs false
set_option linter.unnecessarySimpa false
namespace Go.Proofs.YtdnkjdmfnmdpdaaGreatDoor
open Go Go.Lx Go.RowKit Tryz
set_option maxRecDepth 100000
theorem rtext_ok (w : World) (x : Perm) (hx : x.ok) : Ok Tryz.prog 87 #[.agg (encP x).toArray] w fun v w' => v = str (textS x) ∧ Ext False w w' := by
 have hxa := hx.1; have hxp := hx.2
 refine ZQ 27 func87 rfl rfl rfl ?_
 have hX := xRf w
 refine QH (Qc ?_)
 refine Z2 rfl (JB (v := .agg _) rfl) ?_
 intro b1 w1 x2 hge1 hb1
 change Box _ _ _ (encP _) at hb1
 replace hX := hX.ex x2
 refine Rr Zi ?_
 refine Qg (QH (QH (Qc ?_)))
 refine Rr (ZO isAgg42 sizeOf42 rfl hb1.at rfl) ?_
 refine ZC rfl (ZK call53 rfl) (Ok.mono (rcheck_ok _ _ (by first | assumption | omega | (simp; done) | (simp; omega) | (simp at *; omega))) ?_)
 rintro _ w3 ⟨rfl, x4⟩
 replace hX := hX.ex x4
 replace hb1 := hb1.ext x4
 refine Rr (JD rfl rfl) ?_
 refine Qg ?_
 refine ZG rfl (fun hc1 => ?_) (fun hc1 => ?_)
 ·refine QH (Qc ?_)
  refine Rr Zi ?_
  refine Qg (ZJ ?_)
  refine ⟨_, ZF rfl rfl, ?_⟩
  refine ⟨congrArg str ?_, hX⟩
  all_goals (rw [text_r, if_pos hc1])
 refine ZH (QH (Qc ?_))
 refine Rr (ZN underlying42 rfl sizeOf9 rfl) ?_
 refine Rr (ZB isAgg9 rfl (hb1.at.get 0 rfl)) ?_
 refine Rr (Z3 rfl rfl (by simp; omega)) ?_
 refine Rr (ZN underlying42 rfl sizeOf9 rfl) ?_
 refine Rr (ZB isAgg9 rfl (hb1.at.get 1 rfl)) ?_
 refine Rr (Z3 rfl rfl (by simp; omega)) ?_
 refine Rr (ZD (v := str _) rfl) ?_
 refine Qg (QH (QH (Qc ?_)))
 refine Rr (ZN underlying42 rfl sizeOf4 rfl) ?_
 refine Rr (ZB isAgg4 rfl (hb1.at.get 2 rfl)) ?_
 refine Rr (mvB rfl) ?_
 refine ZI 2 15 rfl rfl rfl (fun hg => (ZN underlying42 rfl sizeOf9 rfl)) ?_
 refine ZI 2 15 rfl rfl rfl (fun hg => (ZB isAgg9 (ZU (u := undef) hg) (hb1.at.get 1 rfl))) ?_
 refine ZI 2 15 rfl rfl rfl (fun hg => (o_seql (ZU (u := undef) hg) rfl)) ?_
 refine Rr (Jq (u := undef) rfl rfl) ?_
 refine Qg ?_
 refine ZG rfl (fun hc2 => ?_) (fun hc2 => ?_)
 ·refine QH (Qc ?_)
  refine Rr (Zt (v := str _) rfl) ?_
  refine Rr (Z3 rfl rfl (by simp; omega)) ?_
  refine Rr (ZD (v := str _) rfl) ?_
  refine Qg (ZJ ?_)
  refine ⟨_, ZF rfl rfl, ?_⟩
  refine ⟨congrArg str ?_, hX⟩
  all_goals (rw [text_r, if_neg (by rw [hc1]; simp), if_pos hc2])
 refine ZH (QH (QH (Qc ?_)))
 refine Rr (ZN underlying42 rfl sizeOf4 rfl) ?_
 refine Rr (ZB isAgg4 rfl (hb1.at.get 2 rfl)) ?_
 refine Qg ?_
 refine ZG rfl (fun hc3 => ?_) (fun hc3 => ?_)
 ·refine QH (Qc ?_)
  refine Rr (Zt (v := str _) rfl) ?_
  refine Rr (Z3 rfl rfl (by simp; omega)) ?_
  refine Rr (ZD (v := str _) rfl) ?_
  refine Qg (ZJ ?_)
  refine ⟨_, ZF rfl rfl, ?_⟩
  refine ⟨congrArg str ?_, hX⟩
  all_goals (rw [text_r, if_neg (by rw [hc1]; simp), if_neg (by rw [hc2]; simp), if_pos hc3])
 refine ZH (QH (Qc ?_))
 refine Rr (Zt (v := str _) rfl) ?_
 refine Rr (ZD (v := str _) rfl) ?_
 refine Qg (ZJ ?_)
 refine ⟨_, ZF rfl rfl, ?_⟩
 refine ⟨congrArg str ?_, hX⟩
 all_goals (rw [text_r, if_neg (by rw [hc1]; simp), if_neg (by rw [hc2]; simp), if_neg (by rw [hc3]; simp)])

