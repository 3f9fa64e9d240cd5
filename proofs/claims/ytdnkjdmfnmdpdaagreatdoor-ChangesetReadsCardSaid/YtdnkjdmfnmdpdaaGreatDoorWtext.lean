/- Walks: what functions return. -/
import Derived.Test.YtdnkjdmfnmdpdaaGreatDoorWperm
import Derived.Test.YtdnkjdmfnmdpdaaGreatDoorStr
import Derived.Test.YtdnkjdmfnmdpdaaGreatDoorMore
set_option linter.unusedVariables false
set_option linter.unusedSimpArgs false
set_option linter.unnecessarySimpa false
namespace Go.Proofs.YtdnkjdmfnmdpdaaGreatDoor
open Go Go.Lx Go.RowKit Tryz
set_option maxRecDepth 100000
theorem ptext_ok (β : Prop) (w : World) (x : Perm) (hx : x.ok) : Ok Tryz.prog 85 #[.agg (encP x).toArray] w fun v w' => v = str (textS x) ∧ Ext β w w' := by
 have hxa := hx.1; have hxp := hx.2
 refine QD 26 func85 rfl rfl rfl ?_
 have hX : Ext β w w := Bel.refl _ _
 refine Qd (Qa ?_)
 refine QT rfl (Zw (v := .agg _) rfl) ?_
 intro b1 w1 x2 hge1 hb1
 change Box _ _ _ (encP _) at hb1
 replace hX := hX.ex x2
 refine Rr Qf ?_
 refine Qb (Qd (Qd (Qa ?_)))
 refine Rr (QA isAgg48 sizeOf48 rfl hb1.at rfl) ?_
 refine Qn rfl (Qy call51 rfl) (Ok.mono (check_ok (β) _ (by first | assumption | omega | (simp; done) | (simp; omega) | (simp at *; omega)) _) ?_)
 rintro _ w3 ⟨rfl, x4⟩
 replace hX := hX.ex x4
 replace hb1 := hb1.ext x4
 refine Rr (Zn rfl rfl) ?_
 refine Qb ?_
 refine Qt rfl (fun hc1 => ?_) (fun hc1 => ?_)
 ·refine Qd (Qa ?_)
  refine Rr Qf ?_
  refine Qb (Qx ?_)
  refine ⟨_, Qu rfl rfl, ?_⟩
  refine ⟨congrArg str ?_, hX⟩
  all_goals (rw [textS, if_pos hc1])
 refine Qs (Qd (Qa ?_))
 refine Rr (QB underlying48 rfl sizeOf9 rfl) ?_
 refine Rr (Qo isAgg9 rfl (hb1.at.get 0 rfl)) ?_
 refine Rr (Zs rfl rfl (by simp; omega)) ?_
 refine Rr (QB underlying48 rfl sizeOf9 rfl) ?_
 refine Rr (Qo isAgg9 rfl (hb1.at.get 1 rfl)) ?_
 refine Rr (Zs rfl rfl (by simp; omega)) ?_
 refine Rr (Qq (v := str _) rfl) ?_
 refine Qb (Qd (Qz (Qd (Qa ?_))))
 refine Rr (QB underlying48 rfl sizeOf4 rfl) ?_
 refine Rr (Qo isAgg4 rfl (hb1.at.get 2 rfl)) ?_
 refine Rr (QQ rfl) ?_
 refine Rr (asB rfl) ?_
 refine Qb ?_
 refine Qt rfl (fun hc2 => ?_) (fun hc2 => ?_)
 ·refine Qd (Qa ?_)
  refine Rr (Qh (v := str _) rfl) ?_
  refine Rr (Qq (v := str _) rfl) ?_
  refine Qb (Qx ?_)
  refine ⟨_, Qu rfl rfl, ?_⟩
  refine ⟨congrArg str ?_, hX⟩
  all_goals (rw [textS, if_neg (by rw [hc1]; simp), if_pos hc2])
 refine Qd (Qa ?_)
 refine Rr (QB underlying48 rfl sizeOf9 rfl) ?_
 refine Rr (Qo isAgg9 rfl (hb1.at.get 1 rfl)) ?_
 refine Rr (o_seql rfl rfl) ?_
 refine Rr (asB rfl) ?_
 refine Qb ?_
 refine Qt rfl (fun hc3 => ?_) (fun hc3 => ?_)
 ·refine Qd (Qa ?_)
  refine Rr (Qh (v := str _) rfl) ?_
  refine Rr (Zs rfl rfl (by simp; omega)) ?_
  refine Rr (Qq (v := str _) rfl) ?_
  refine Qb (Qx ?_)
  refine ⟨_, Qu rfl rfl, ?_⟩
  refine ⟨congrArg str ?_, hX⟩
  all_goals (rw [textS, if_neg (by rw [hc1]; simp), if_neg (by rw [hc2]; simp), if_pos hc3])
 refine Qs (Qd (Qa ?_))
 refine Rr (Qh (v := str _) rfl) ?_
 refine Rr (Zs rfl rfl (by simp; omega)) ?_
 refine Rr (Qq (v := str _) rfl) ?_
 refine Qb (Qx ?_)
 refine ⟨_, Qu rfl rfl, ?_⟩
 refine ⟨congrArg str ?_, hX⟩
 all_goals (rw [textS, if_neg (by rw [hc1]; simp), if_neg (by rw [hc2]; simp), if_neg (by rw [hc3]; simp)])

end Go.Proofs.YtdnkjdmfnmdpdaaGreatDoor
