/- Walks: what functions return. -/
import Derived.Test.YtdnkjdmfnmdpdaaGreatDoorWperm
import Derived.Test.YtdnkjdmfnmdpdaaGreatDoorPure11c
import Derived.Test.YtdnkjdmfnmdpdaaGreatDoorOwn3
set_option linter.unusedVariables false
set_option linter.unusedSimpArgs false
set_option linter.unnecessarySimpa false
namespace Go.Proofs.YtdnkjdmfnmdpdaaGreatDoor
open Go Go.Lx Go.RowKit Tryz
set_option maxRecDepth 100000
theorem ptext_ok (β : Prop) (w : World) (x : Perm) (hx : x.ok) : Ok Tryz.prog 85 #[.agg (encP x).toArray] w fun v w' => v = str (textS x) ∧ Ext β w w' := by
 have hxa := hx.1; have hxp := hx.2
 refine Ok_of_W 26 func85 rfl rfl rfl ?_
 have hX : Ext β w w := Bel.refl _ _
 refine W_seq (W_region ?_)
 refine Rg_newB rfl (o_box (v := .agg _) rfl) ?_
 intro b1 w1 x2 hge1 hb1
 change Box _ _ _ (encP _) at hb1
 replace hX := hX.ex x2
 refine Rr o_assignc ?_
 refine Rg_nil (W_seq (W_seq (W_region ?_)))
 refine Rr (o_loadS isAgg48 sizeOf48 rfl hb1.at rfl) ?_
 refine Rg_enter rfl (o_call1 call51 rfl) (Ok.mono (check_ok (β) _ (by first | assumption | omega | (simp; done) | (simp; omega) | (simp at *; omega)) _) ?_)
 rintro _ w3 ⟨rfl, x4⟩
 replace hX := hX.ex x4
 replace hb1 := hb1.ext x4
 refine Rr (o_neq rfl rfl) ?_
 refine Rg_nil ?_
 refine W_cond rfl (fun hc1 => ?_) (fun hc1 => ?_)
 ·refine W_seq (W_region ?_)
  refine Rr o_assignc ?_
  refine Rg_nil (W_ret ?_)
  refine ⟨_, res_tmp rfl rfl, ?_⟩
  refine ⟨congrArg str ?_, hX⟩
  all_goals (rw [textS, if_pos hc1])
 refine W_skip (W_seq (W_region ?_))
 refine Rr (o_fa underlying48 rfl sizeOf9 rfl) ?_
 refine Rr (o_load1 isAgg9 rfl (hb1.at.get 0 rfl)) ?_
 refine Rr (o_sadd rfl rfl (by simp; omega)) ?_
 refine Rr (o_fa underlying48 rfl sizeOf9 rfl) ?_
 refine Rr (o_load1 isAgg9 rfl (hb1.at.get 1 rfl)) ?_
 refine Rr (o_sadd rfl rfl (by simp; omega)) ?_
 refine Rr (o_assignh (v := str _) rfl) ?_
 refine Rg_nil (W_seq (W_block (W_seq (W_region ?_))))
 refine Rr (o_fa underlying48 rfl sizeOf4 rfl) ?_
 refine Rr (o_load1 isAgg4 rfl (hb1.at.get 2 rfl)) ?_
 refine Rr (o_not rfl) ?_
 refine Rr (asB rfl) ?_
 refine Rg_nil ?_
 refine W_cond rfl (fun hc2 => ?_) (fun hc2 => ?_)
 ·refine W_seq (W_region ?_)
  refine Rr (o_moveh (v := str _) rfl) ?_
  refine Rr (o_assignh (v := str _) rfl) ?_
  refine Rg_nil (W_ret ?_)
  refine ⟨_, res_tmp rfl rfl, ?_⟩
  refine ⟨congrArg str ?_, hX⟩
  all_goals (rw [textS, if_neg (by rw [hc1]; simp), if_pos hc2])
 refine W_seq (W_region ?_)
 refine Rr (o_fa underlying48 rfl sizeOf9 rfl) ?_
 refine Rr (o_load1 isAgg9 rfl (hb1.at.get 1 rfl)) ?_
 refine Rr (o_seql rfl rfl) ?_
 refine Rr (asB rfl) ?_
 refine Rg_nil ?_
 refine W_cond rfl (fun hc3 => ?_) (fun hc3 => ?_)
 ·refine W_seq (W_region ?_)
  refine Rr (o_moveh (v := str _) rfl) ?_
  refine Rr (o_sadd rfl rfl (by simp; omega)) ?_
  refine Rr (o_assignh (v := str _) rfl) ?_
  refine Rg_nil (W_ret ?_)
  refine ⟨_, res_tmp rfl rfl, ?_⟩
  refine ⟨congrArg str ?_, hX⟩
  all_goals (rw [textS, if_neg (by rw [hc1]; simp), if_neg (by rw [hc2]; simp), if_pos hc3])
 refine W_skip (W_seq (W_region ?_))
 refine Rr (o_moveh (v := str _) rfl) ?_
 refine Rr (o_sadd rfl rfl (by simp; omega)) ?_
 refine Rr (o_assignh (v := str _) rfl) ?_
 refine Rg_nil (W_ret ?_)
 refine ⟨_, res_tmp rfl rfl, ?_⟩
 refine ⟨congrArg str ?_, hX⟩
 all_goals (rw [textS, if_neg (by rw [hc1]; simp), if_neg (by rw [hc2]; simp), if_neg (by rw [hc3]; simp)])

end Go.Proofs.YtdnkjdmfnmdpdaaGreatDoor
