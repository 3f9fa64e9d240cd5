/- Walks: what functions return. -/
import Derived.Test.YtdnkjdmfnmdpdaaGreatDoorWct
import Derived.Test.YtdnkjdmfnmdpdaaGreatDoorOwn3
import Derived.Test.YtdnkjdmfnmdpdaaGreatDoorDrawC
import Derived.Test.YtdnkjdmfnmdpdaaGreatDoorWperm
set_option linter.unusedVariables false
set_option linter.unusedSimpArgs false
set_option linter.unnecessarySimpa false
namespace Go.Proofs.YtdnkjdmfnmdpdaaGreatDoor
open Go Go.Lx Go.RowKit Tryz
set_option maxRecDepth 100000
theorem ckey_ok (β : Prop) (o : COp) (w : World) : Ok Tryz.prog 13 #[.agg (encCo o).toArray] w fun v w' => v = .agg (encCk o.key).toArray ∧ Ext β w w' := by
 refine Ok_of_W 12 func13 rfl rfl rfl ?_
 have hX : Ext β w w := Bel.refl _ _
 refine W_seq (W_region ?_)
 refine Rg_newB rfl (o_box (v := .agg _) rfl) ?_
 intro b1 w1 x2 hge1 hb1
 have hlt1 := hb1.lt
 change Box _ _ _ (encCo _) at hb1
 have z3 := x2.size
 replace hX := hX.ex x2
 refine Rg_newB rfl (o_alloc zeroValue55) ?_
 intro b2 w4 x5 hge2 hb2
 have hlt2 := hb2.lt
 change Box _ _ _ ([.int _ _, .int _ _, .int _ _, str _, str _, .bool _]) at hb2
 have z6 := x5.size
 replace hX := hX.ex x5
 replace hb1 := hb1.ext x5
 refine Rg_nil (W_seq (W_region ?_))
 refine Rr (o_fa underlying50 rfl sizeOf47 rfl) ?_
 refine Rr (o_load1 isAgg47 rfl (hb1.at.get 1 rfl)) ?_
 refine Rr (o_fa underlying50 rfl sizeOf3 rfl) ?_
 refine Rr (o_load1 isAgg3 rfl (hb1.at.get 2 rfl)) ?_
 refine Rr (o_fa underlying50 rfl sizeOf3 rfl) ?_
 refine Rr (o_load1 isAgg3 rfl (hb1.at.get 3 rfl)) ?_
 refine Rr (o_fa underlying50 rfl sizeOf48 rfl) ?_
 refine Rr (o_loadS isAgg48 sizeOf48 rfl (hb1.at.sub 5 3) rfl) ?_
 refine Rr (o_build (cells := encCk o.key) (vs := [(0, .int _ _), (1, .int _ _), (2, .int _ _), (3, .agg _)]) rfl (by kernel_rfl)) ?_
 refine Rg_storeW (v := .agg _) rfl sizeOf55 rfl rfl hb2 rfl rfl rfl ?_
 intro w7 c8 hb2
 change Box _ _ _ (encCk _) at hb2
 have z9 := Bel.size c8
 replace hX := Bel.out hX c8 om2
 refine Rg_nil (W_ret ?_)
 refine ⟨_, res_1 (v := .agg _) rfl (rv_cellS isAgg55 sizeOf55 rfl hb2.at rfl), ?_⟩
 exact ⟨rfl, hX⟩

theorem crole_ok (w : World) (r : Int) : Ok Tryz.prog 50 #[.int .i64 r] w fun v w' => v = .bool (decide (1 ≤ r) && decide (r ≤ 63)) ∧ Ext False w w' := by
 refine Ok_of_W 9 func50 rfl rfl rfl ?_
 have hX : Ext False w w := Bel.refl _ _
 refine W_seq (W_region ?_)
 refine Rr o_assignc ?_
 refine Rg_nil (W_seq (W_region ?_))
 refine Rr (mvI rfl) ?_
 refine Rr (o_geq rfl rfl) ?_
 refine Rr (mvB rfl) ?_
 refine Rg_may 2 5 rfl rfl rfl (fun hg => (mvI rfl)) ?_
 refine Rg_may 2 5 rfl rfl rfl (fun hg => (o_leq (gsel (u := undef) hg) rfl)) ?_
 refine Rr (o_and (u := undef) rfl rfl) ?_
 refine Rr (asB rfl) ?_
 refine Rg_nil (W_ret ?_)
 refine ⟨_, res_tmp rfl rfl, ?_⟩
 refine ⟨congrArg Value.bool ?_, hX⟩
 all_goals (rfl)

theorem ccheck_ok (o : COp) (hp : o.p.ok) (w : World) : Ok Tryz.prog 11 #[.agg (encCo o).toArray] w fun v w' => v = .int .i64 (checkO o) ∧ Ext False w w' := by
 refine Ok_of_W 92 func11 rfl rfl rfl ?_
 have hX : Ext False w w := Bel.refl _ _
 refine W_seq (W_region ?_)
 refine Rg_newB rfl (o_box (v := .agg _) rfl) ?_
 intro b1 w1 x2 hge1 hb1
 change Box _ _ _ (encCo _) at hb1
 replace hX := hX.ex x2
 refine Rr o_assignc ?_
 refine Rg_nil (W_seq (W_region ?_))
 refine Rr o_assignc ?_
 refine Rr o_assignc ?_
 refine Rg_nil (W_seq (W_seq (W_region ?_)))
 refine Rr (o_fa underlying50 rfl sizeOf47 rfl) ?_
 refine Rr (o_load1 isAgg47 rfl (hb1.at.get 1 rfl)) ?_
 refine Rg_nil (W_block (W_seq (W_region ?_)))
 refine Rr (o_eql rfl rfl) ?_
 refine Rr (asB rfl) ?_
 refine Rg_nil ?_
 refine W_cond rfl (fun hc1 => ?_) (fun hc1 => ?_)
 ·have hk : o.k = 1 := by simpa using hc1
  refine W_seq (W_region ?_)
  refine Rr (o_fa underlying50 rfl sizeOf48 rfl) ?_
  refine Rr (o_loadS isAgg48 sizeOf48 rfl (hb1.at.sub 5 3) rfl) ?_
  refine Rr (o_build (cells := encP pz) (vs := []) rfl (by kernel_rfl)) ?_
  refine Rr (o_teql eq_pp rfl rfl) ?_
  refine Rr (asB rfl) ?_
  refine Rg_nil (W_region ?_)
  refine Rr (o_fa underlying50 rfl sizeOf3 rfl) ?_
  refine Rr (o_load1 isAgg3 rfl (hb1.at.get 2 rfl)) ?_
  refine Rr (o_geq rfl rfl) ?_
  refine Rr (mvB rfl) ?_
  refine Rg_may 3 16 rfl rfl rfl (fun hg => (o_fa underlying50 rfl sizeOf3 rfl)) ?_
  refine Rg_may 3 16 rfl rfl rfl (fun hg => (o_load1 isAgg3 (gsel (u := undef) hg) (hb1.at.get 2 rfl))) ?_
  refine Rg_may 3 16 rfl rfl rfl (fun hg => (o_leq (gsel (u := undef) hg) rfl)) ?_
  refine Rr (o_and (u := undef) rfl rfl) ?_
  refine Rr (mvB rfl) ?_
  refine Rg_may 8 21 rfl rfl rfl (fun hg => (o_fa underlying50 rfl sizeOf3 rfl)) ?_
  refine Rg_may 8 21 rfl rfl rfl (fun hg => (o_load1 isAgg3 (gsel (u := undef) hg) (hb1.at.get 3 rfl))) ?_
  refine Rg_mayCall 8 21 rfl rfl rfl (fun hg => ⟨(o_call1 call50 (gsel (u := undef) hg)), crole_ok _ _⟩) ?_
  intro w3 x4
  replace hX := hX.ex x4
  replace hb1 := hb1.ext x4
  refine Rr (o_and (u := undef) rfl rfl) ?_
  refine Rr (mvB rfl) ?_
  refine Rg_may 13 26 rfl rfl rfl (fun hg => (o_fa underlying50 rfl sizeOf3 rfl)) ?_
  refine Rg_may 13 26 rfl rfl rfl (fun hg => (o_load1 isAgg3 (gsel (u := undef) hg) (hb1.at.get 4 rfl))) ?_
  refine Rg_may 13 26 rfl rfl rfl (fun hg => (o_geq (gsel (u := undef) hg) rfl)) ?_
  refine Rr (o_and (u := undef) rfl rfl) ?_
  refine Rr (mvB rfl) ?_
  refine Rg_may 18 31 rfl rfl rfl (fun hg => (o_fa underlying50 rfl sizeOf3 rfl)) ?_
  refine Rg_may 18 31 rfl rfl rfl (fun hg => (o_load1 isAgg3 (gsel (u := undef) hg) (hb1.at.get 4 rfl))) ?_
  refine Rg_may 18 31 rfl rfl rfl (fun hg => (o_leq (gsel (u := undef) hg) rfl)) ?_
  refine Rr (o_and (u := undef) rfl rfl) ?_
  refine Rr (asB rfl) ?_
  refine Rg_nil (W_seq (W_block (W_seq (W_region ?_))))
  refine Rr (mvB rfl) ?_
  refine Rr (o_not rfl) ?_
  refine Rr (asB rfl) ?_
  refine Rg_nil ?_
  refine W_cond rfl (fun hc2 => ?_) (fun hc2 => ?_)
  ·have hf : ¬ o.p = pz := by simpa using hc2
   refine W_seq (W_region ?_)
   refine Rr o_assignc ?_
   refine Rg_nil (W_ret ?_)
   refine ⟨_, res_tmp rfl rfl, ?_⟩
   refine ⟨congrArg (Value.int .i64) ?_, hX⟩
   all_goals (rw [checkO, if_neg (by omega), if_pos (.inl ⟨by omega, hf⟩)])
  have hf : o.p = pz := by simpa using hc2
  refine W_seq (W_region ?_)
  refine Rr (mvB rfl) ?_
  refine Rr (o_not rfl) ?_
  refine Rr (asB rfl) ?_
  refine Rg_nil ?_
  refine W_cond rfl (fun hc3 => ?_) (fun hc3 => ?_)
  ·have hn : o.a < 1 ∨ 256 < o.a ∨ o.b < 1 ∨ 63 < o.b ∨ o.u < 0 ∨ 30000 < o.u := by simp at hc3; omega
   refine W_seq (W_region ?_)
   refine Rr o_assignc ?_
   refine Rg_nil (W_ret ?_)
   refine ⟨_, res_tmp rfl rfl, ?_⟩
   refine ⟨congrArg (Value.int .i64) ?_, hX⟩
   all_goals (rw [checkO, if_neg (by omega), if_neg (fun h => by rcases h with ⟨h1, h2⟩ | ⟨h1, h2⟩ | ⟨h1, h2⟩ <;> first | omega | exact h2 hf | exact h2 hf.2), if_pos hk, if_pos hn])
  have hn : ¬ (o.a < 1 ∨ 256 < o.a ∨ o.b < 1 ∨ 63 < o.b ∨ o.u < 0 ∨ 30000 < o.u) := by simp at hc3; omega
  refine W_seq (W_region ?_)
  refine Rr (o_fa underlying50 rfl sizeOf47 rfl) ?_
  refine Rr (o_load1 isAgg47 rfl (hb1.at.get 1 rfl)) ?_
  refine Rr (o_eql rfl rfl) ?_
  refine Rr (asB rfl) ?_
  refine Rg_nil ?_
  refine W_cond_false (congrArg Value.bool (by first | (rw [hk]; rfl) | (rw [beq_eq_false_iff_ne]; omega))) ?_
  refine W_seq (W_region ?_)
  refine Rr (o_fa underlying50 rfl sizeOf47 rfl) ?_
  refine Rr (o_load1 isAgg47 rfl (hb1.at.get 1 rfl)) ?_
  refine Rr (o_eql rfl rfl) ?_
  refine Rr (mvB rfl) ?_
  refine Rg_may 3 85 rfl rfl rfl (fun hg => (o_fa underlying50 rfl sizeOf3 rfl)) ?_
  refine Rg_may 3 85 rfl rfl rfl (fun hg => (o_load1 isAgg3 (gsel (u := undef) hg) (hb1.at.get 2 rfl))) ?_
  refine Rg_may 3 85 rfl rfl rfl (fun hg => (o_fa underlying50 rfl sizeOf3 rfl)) ?_
  refine Rg_may 3 85 rfl rfl rfl (fun hg => (o_load1 isAgg3 (gsel (u := undef) hg) (hb1.at.get 3 rfl))) ?_
  refine Rg_may 3 85 rfl rfl rfl (fun hg => (o_eql (gsel (u := undef) hg) (gsel (u := undef) hg))) ?_
  refine Rr (o_and (u := undef) rfl rfl) ?_
  refine Rr (asB rfl) ?_
  refine Rg_nil ?_
  refine W_cond_false (congrArg Value.bool (by rw [hk]; rfl)) ?_
  refine W_skip (W_seq (W_region ?_))
  refine Rr o_assignc ?_
  refine Rg_nil (W_ret ?_)
  refine ⟨_, res_tmp rfl rfl, ?_⟩
  refine ⟨congrArg (Value.int .i64) ?_, hX⟩
  all_goals (rw [checkO, if_neg (by omega), if_neg (fun h => by rcases h with ⟨h1, h2⟩ | ⟨h1, h2⟩ | ⟨h1, h2⟩ <;> first | omega | exact h2 hf | exact h2 hf.2), if_pos hk, if_neg hn])
 have hk1 : ¬ o.k = 1 := by simpa using hc1
 refine W_seq (W_region ?_)
 refine Rr (o_eql rfl rfl) ?_
 refine Rr (asB rfl) ?_
 refine Rg_nil ?_
 refine W_cond rfl (fun hc6 => ?_) (fun hc6 => ?_)
 ·have hk : o.k = 2 := by simpa using hc6
  apply W_draw (β := False) [peq _, peq _, peq _, peq _, peq _, peq _, peq _, peq _, peq _, peq _, peq _, peq _, peq _] 13 mixed (by kernel_rfl) rfl ⟨peq_stable _, peq_stable _, peq_stable _, peq_stable _, peq_stable _, peq_stable _, peq_stable _, peq_stable _, peq_stable _, peq_stable _, peq_stable _, peq_stable _, peq_stable _, trivial⟩ ?ob8 ?fin8
  case ob8 =>
   refine OblL_cons (fun w5 x6 => ?_) ?_
   ·refine bindP_nil ?_
    exact OpS_v rfl (o_fa underlying50 rfl sizeOf3 rfl)
   refine OblL_cons (fun w7 x8 => ?_) ?_
   ·have hb1 := hb1.ext x8
    refine bindP_eq (bindP_nil ?_)
    exact OpS_v rfl (o_load1 isAgg3 rfl (hb1.at.get 3 rfl))
   refine OblL_cons (fun w9 x10 => ?_) ?_
   ·refine bindP_eq (bindP_nil ?_)
    exact OpS_v rfl (o_eql rfl rfl)
   refine OblL_cons (fun w11 x12 => ?_) ?_
   ·refine bindP_eq (bindP_nil ?_)
    exact OpS_v rfl (mvB rfl)
   refine OblL_cons (fun w13 x14 => ?_) ?_
   ·refine bindP_eq (bindP_nil ?_)
    exact OpS_may 3 41 rfl rfl (fun hg => (o_fa underlying50 rfl sizeOf3 rfl))
   refine OblL_cons (fun w15 x16 => ?_) ?_
   ·have hb1 := hb1.ext x16
    refine bindP_eq (bindP_eq (bindP_nil ?_))
    exact OpS_may 3 41 rfl rfl (fun hg => (o_load1 isAgg3 (gsel (u := undef) hg) (hb1.at.get 4 rfl)))
   refine OblL_cons (fun w17 x18 => ?_) ?_
   ·refine bindP_eq (bindP_eq (bindP_nil ?_))
    exact OpS_may 3 41 rfl rfl (fun hg => (o_eql (gsel (u := undef) hg) rfl))
   refine OblL_cons (fun w19 x20 => ?_) ?_
   ·refine bindP_eq (bindP_eq (bindP_nil ?_))
    exact OpS_v rfl (o_and (u := undef) rfl rfl)
   refine OblL_cons (fun w21 x22 => ?_) ?_
   ·refine bindP_nil ?_
    exact OpS_v rfl (o_fa underlying50 rfl sizeOf3 rfl)
   refine OblL_cons (fun w23 x24 => ?_) ?_
   ·have hb1 := hb1.ext x24
    refine bindP_eq (bindP_nil ?_)
    exact OpS_v rfl (o_load1 isAgg3 rfl (hb1.at.get 2 rfl))
   refine OblL_cons (fun w25 x26 => ?_) ?_
   ·refine bindP_eq (bindP_eq (bindP_nil ?_))
    exact OpS_call rfl (o_call1 call50 rfl) (crole_ok _ _)
   refine OblL_cons (fun w27 x28 => ?_) ?_
   ·refine bindP_eq (bindP_eq (bindP_eq (bindP_eq (bindP_eq (bindP_eq (bindP_eq (bindP_eq (bindP_eq ?_))))))))
    refine bindP_eq (bindP_nil ?_)
    exact OpS_v rfl (asB rfl)
   refine OblL_cons (fun w29 x30 => ?_) ?_
   ·refine bindP_eq (bindP_eq (bindP_eq (bindP_eq (bindP_eq (bindP_eq (bindP_eq (bindP_eq (bindP_eq ?_))))))))
    refine bindP_eq (bindP_eq (bindP_eq (bindP_eq (bindP_eq (bindP_nil ?_)))))
    exact OpS_v rfl (asB rfl)
   exact OblL_nil
  case fin8 =>
   intro w31 x32
   replace hX := hX.ex x32
   replace hb1 := hb1.ext x32
   refine bindP_eq (bindP_eq (bindP_eq (bindP_eq (bindP_eq (bindP_eq (bindP_eq (bindP_eq (bindP_eq ?_))))))))
   refine bindP_eq (bindP_eq (bindP_eq (bindP_eq (bindP_nil (Rg_nil (W_seq (W_block (W_seq ?_))))))))
   refine W_region ?_
   refine Rr (mvB rfl) ?_
   refine Rr (o_not rfl) ?_
   refine Rr (asB rfl) ?_
   refine Rg_nil ?_
   refine W_cond rfl (fun hc7 => ?_) (fun hc7 => ?_)
   ·have hf : ¬ o.b = 0 ∨ ¬ o.u = 0 := by simpa using hc7
    refine W_seq (W_region ?_)
    refine Rr o_assignc ?_
    refine Rg_nil (W_ret ?_)
    refine ⟨_, res_tmp rfl rfl, ?_⟩
    refine ⟨congrArg (Value.int .i64) ?_, hX⟩
    all_goals (rw [checkO, if_neg (by omega), if_pos (by omega)])
   have hf : o.b = 0 ∧ o.u = 0 := by simpa using hc7
   refine W_seq (W_region ?_)
   refine Rr (mvB rfl) ?_
   refine Rr (o_not rfl) ?_
   refine Rr (asB rfl) ?_
   refine Rg_nil ?_
   refine W_cond rfl (fun hc8 => ?_) (fun hc8 => ?_)
   ·have hn : o.a < 1 ∨ 63 < o.a := by simp at hc8; omega
    refine W_seq (W_region ?_)
    refine Rr o_assignc ?_
    refine Rg_nil (W_ret ?_)
    refine ⟨_, res_tmp rfl rfl, ?_⟩
    refine ⟨congrArg (Value.int .i64) ?_, hX⟩
    all_goals (rw [checkO, if_neg (by omega), if_neg (fun h => by rcases h with ⟨h1, h2⟩ | ⟨h1, h2⟩ | ⟨h1, h2⟩ <;> first | omega | exact h2 hf | exact h2 hf.2), if_neg (by omega), if_pos hk, if_pos hn])
   have hn : ¬ (o.a < 1 ∨ 63 < o.a) := by simp at hc8; omega
   refine W_seq (W_region ?_)
   refine Rr (o_fa underlying50 rfl sizeOf47 rfl) ?_
   refine Rr (o_load1 isAgg47 rfl (hb1.at.get 1 rfl)) ?_
   refine Rr (o_eql rfl rfl) ?_
   refine Rr (asB rfl) ?_
   refine Rg_nil ?_
   refine W_cond_true (congrArg Value.bool (by first | (rw [hk]; rfl) | (rw [beq_eq_false_iff_ne]; omega))) ?_
   refine W_seq (W_region ?_)
   refine Rr (o_fa underlying50 rfl sizeOf48 rfl) ?_
   refine Rr (o_loadS isAgg48 sizeOf48 rfl (hb1.at.sub 5 3) rfl) ?_
   refine Rg_enter rfl (o_call1 call51 rfl) (Ok.mono (check_ok (False) _ hp _) ?_)
   rintro _ w33 ⟨rfl, x34⟩
   replace hX := hX.ex x34
   refine Rr (asI rfl) ?_
   refine Rg_nil (W_ret ?_)
   refine ⟨_, res_tmp rfl rfl, ?_⟩
   refine ⟨congrArg (Value.int .i64) ?_, hX⟩
   all_goals (rw [checkO, if_neg (by omega), if_neg (fun h => by rcases h with ⟨h1, h2⟩ | ⟨h1, h2⟩ | ⟨h1, h2⟩ <;> first | omega | exact h2 hf | exact h2 hf.2), if_neg (by omega), if_pos hk, if_neg hn])
 have hk2 : ¬ o.k = 2 := by simpa using hc6
 refine W_seq (W_region ?_)
 refine Rr (o_eql rfl rfl) ?_
 refine Rr (asB rfl) ?_
 refine Rg_nil ?_
 refine W_cond rfl (fun hc10 => ?_) (fun hc10 => ?_)
 ·have hk : o.k = 3 := by simpa using hc10
  apply W_draw (β := False) [peq _, peq _, peq _, peq _, peq _, peq _, peq _, peq _, peq _, peq _, peq _, peq _, peq _, peq _, peq _, peq _, peq _, peq _, peq _] 19 mixed (by kernel_rfl) rfl ⟨peq_stable _, peq_stable _, peq_stable _, peq_stable _, peq_stable _, peq_stable _, peq_stable _, peq_stable _, peq_stable _, peq_stable _, peq_stable _, peq_stable _, peq_stable _, peq_stable _, peq_stable _, peq_stable _, peq_stable _, peq_stable _, peq_stable _, trivial⟩ ?ob10 ?fin10
  case ob10 =>
   refine OblL_cons (fun w35 x36 => ?_) ?_
   ·refine bindP_nil ?_
    exact OpS_v rfl (o_fa underlying50 rfl sizeOf3 rfl)
   refine OblL_cons (fun w37 x38 => ?_) ?_
   ·have hb1 := hb1.ext x38
    refine bindP_eq (bindP_nil ?_)
    exact OpS_v rfl (o_load1 isAgg3 rfl (hb1.at.get 4 rfl))
   refine OblL_cons (fun w39 x40 => ?_) ?_
   ·refine bindP_eq (bindP_nil ?_)
    exact OpS_v rfl (o_eql rfl rfl)
   refine OblL_cons (fun w41 x42 => ?_) ?_
   ·refine bindP_eq (bindP_nil ?_)
    exact OpS_v rfl (mvB rfl)
   refine OblL_cons (fun w43 x44 => ?_) ?_
   ·refine bindP_eq (bindP_nil ?_)
    exact OpS_may 3 54 rfl rfl (fun hg => (o_fa underlying50 rfl sizeOf48 rfl))
   refine OblL_cons (fun w45 x46 => ?_) ?_
   ·have hb1 := hb1.ext x46
    refine bindP_eq (bindP_eq (bindP_nil ?_))
    exact OpS_may 3 54 rfl rfl (fun hg => (o_loadS isAgg48 sizeOf48 (gsel (u := undef) hg) (hb1.at.sub 5 3) rfl))
   refine OblL_cons (fun w47 x48 => ?_) ?_
   ·refine bindP_eq (bindP_nil ?_)
    exact OpS_may 3 54 rfl rfl (fun hg => (o_build (cells := encP pz) (vs := []) rfl (by kernel_rfl)))
   refine OblL_cons (fun w49 x50 => ?_) ?_
   ·refine bindP_eq (bindP_eq (bindP_eq (bindP_nil ?_)))
    exact OpS_may 3 54 rfl rfl (fun hg => (o_teql eq_pp (gsel (u := undef) hg) (gsel (u := undef) hg)))
   refine OblL_cons (fun w51 x52 => ?_) ?_
   ·refine bindP_eq (bindP_eq (bindP_nil ?_))
    exact OpS_v rfl (o_and (u := undef) rfl rfl)
   refine OblL_cons (fun w53 x54 => ?_) ?_
   ·refine bindP_nil ?_
    exact OpS_v rfl (o_fa underlying50 rfl sizeOf3 rfl)
   refine OblL_cons (fun w55 x56 => ?_) ?_
   ·have hb1 := hb1.ext x56
    refine bindP_eq (bindP_nil ?_)
    exact OpS_v rfl (o_load1 isAgg3 rfl (hb1.at.get 2 rfl))
   refine OblL_cons (fun w57 x58 => ?_) ?_
   ·refine bindP_eq (bindP_eq (bindP_nil ?_))
    exact OpS_call rfl (o_call1 call50 rfl) (crole_ok _ _)
   refine OblL_cons (fun w59 x60 => ?_) ?_
   ·refine bindP_eq (bindP_eq (bindP_nil ?_))
    exact OpS_v rfl (mvB rfl)
   refine OblL_cons (fun w61 x62 => ?_) ?_
   ·refine bindP_eq (bindP_nil ?_)
    exact OpS_may 12 63 rfl rfl (fun hg => (o_fa underlying50 rfl sizeOf3 rfl))
   refine OblL_cons (fun w63 x64 => ?_) ?_
   ·have hb1 := hb1.ext x64
    refine bindP_eq (bindP_eq (bindP_nil ?_))
    exact OpS_may 12 63 rfl rfl (fun hg => (o_load1 isAgg3 (gsel (u := undef) hg) (hb1.at.get 3 rfl)))
   refine OblL_cons (fun w65 x66 => ?_) ?_
   ·refine bindP_eq (bindP_eq (bindP_eq (bindP_nil ?_)))
    exact OpS_mayCall 12 63 rfl rfl (fun hg => ⟨(o_call1 call50 (gsel (u := undef) hg)), crole_ok _ _⟩)
   refine OblL_cons (fun w67 x68 => ?_) ?_
   ·refine bindP_eq (bindP_eq (bindP_nil ?_))
    exact OpS_v rfl (o_and (u := undef) rfl rfl)
   refine OblL_cons (fun w69 x70 => ?_) ?_
   ·refine bindP_eq (bindP_eq (bindP_eq (bindP_eq (bindP_eq (bindP_eq (bindP_eq (bindP_eq (bindP_eq ?_))))))))
    refine bindP_eq (bindP_eq (bindP_nil ?_))
    exact OpS_v rfl (asB rfl)
   refine OblL_cons (fun w71 x72 => ?_) ?_
   ·refine bindP_eq (bindP_eq (bindP_eq (bindP_eq (bindP_eq (bindP_eq (bindP_eq (bindP_eq (bindP_eq ?_))))))))
    refine bindP_eq (bindP_eq (bindP_eq (bindP_eq (bindP_eq (bindP_eq (bindP_eq (bindP_eq (bindP_eq ?_))))))))
    refine bindP_eq (bindP_eq (bindP_nil ?_))
    exact OpS_v rfl (asB rfl)
   exact OblL_nil
  case fin10 =>
   intro w73 x74
   replace hX := hX.ex x74
   replace hb1 := hb1.ext x74
   refine bindP_eq (bindP_eq (bindP_eq (bindP_eq (bindP_eq (bindP_eq (bindP_eq (bindP_eq (bindP_eq ?_))))))))
   refine bindP_eq (bindP_eq (bindP_eq (bindP_eq (bindP_eq (bindP_eq (bindP_eq (bindP_eq (bindP_eq ?_))))))))
   refine bindP_eq (bindP_nil (Rg_nil (W_seq (W_block (W_seq (W_region ?_))))))
   refine Rr (mvB rfl) ?_
   refine Rr (o_not rfl) ?_
   refine Rr (asB rfl) ?_
   refine Rg_nil ?_
   refine W_cond rfl (fun hc11 => ?_) (fun hc11 => ?_)
   ·have hf : ¬ o.u = 0 ∨ ¬ o.p = pz := by simpa using hc11
    refine W_seq (W_region ?_)
    refine Rr o_assignc ?_
    refine Rg_nil (W_ret ?_)
    refine ⟨_, res_tmp rfl rfl, ?_⟩
    refine ⟨congrArg (Value.int .i64) ?_, hX⟩
    all_goals (rw [checkO, if_neg (by omega), if_pos (hf.elim (fun h => .inr (.inl ⟨by omega, h⟩)) (fun h => .inl ⟨by omega, h⟩))])
   have hf : o.u = 0 ∧ o.p = pz := by simpa using hc11
   refine W_seq (W_region ?_)
   refine Rr (mvB rfl) ?_
   refine Rr (o_not rfl) ?_
   refine Rr (asB rfl) ?_
   refine Rg_nil ?_
   refine W_cond rfl (fun hc12 => ?_) (fun hc12 => ?_)
   ·have hn : o.a < 1 ∨ 63 < o.a ∨ o.b < 1 ∨ 63 < o.b := by simp at hc12; omega
    refine W_seq (W_region ?_)
    refine Rr o_assignc ?_
    refine Rg_nil (W_ret ?_)
    refine ⟨_, res_tmp rfl rfl, ?_⟩
    refine ⟨congrArg (Value.int .i64) ?_, hX⟩
    all_goals (rw [checkO, if_neg (by omega), if_neg (fun h => by rcases h with ⟨h1, h2⟩ | ⟨h1, h2⟩ | ⟨h1, h2⟩ <;> first | omega | exact h2 hf | exact h2 hf.2), if_neg (by omega), if_neg (by omega), if_pos hn])
   have hn : ¬ (o.a < 1 ∨ 63 < o.a ∨ o.b < 1 ∨ 63 < o.b) := by simp at hc12; omega
   refine W_seq (W_region ?_)
   refine Rr (o_fa underlying50 rfl sizeOf47 rfl) ?_
   refine Rr (o_load1 isAgg47 rfl (hb1.at.get 1 rfl)) ?_
   refine Rr (o_eql rfl rfl) ?_
   refine Rr (asB rfl) ?_
   refine Rg_nil ?_
   refine W_cond_false (congrArg Value.bool (by first | (rw [hk]; rfl) | (rw [beq_eq_false_iff_ne]; omega))) ?_
   refine W_seq (W_region ?_)
   refine Rr (o_fa underlying50 rfl sizeOf47 rfl) ?_
   refine Rr (o_load1 isAgg47 rfl (hb1.at.get 1 rfl)) ?_
   refine Rr (o_eql rfl rfl) ?_
   refine Rr (mvB rfl) ?_
   refine Rg_may 3 85 rfl rfl rfl (fun hg => (o_fa underlying50 rfl sizeOf3 rfl)) ?_
   refine Rg_may 3 85 rfl rfl rfl (fun hg => (o_load1 isAgg3 (gsel (u := undef) hg) (hb1.at.get 2 rfl))) ?_
   refine Rg_may 3 85 rfl rfl rfl (fun hg => (o_fa underlying50 rfl sizeOf3 rfl)) ?_
   refine Rg_may 3 85 rfl rfl rfl (fun hg => (o_load1 isAgg3 (gsel (u := undef) hg) (hb1.at.get 3 rfl))) ?_
   refine Rg_may 3 85 rfl rfl rfl (fun hg => (o_eql (gsel (u := undef) hg) (gsel (u := undef) hg))) ?_
   refine Rr (o_and (u := undef) rfl rfl) ?_
   refine Rr (asB rfl) ?_
   refine Rg_nil ?_
   refine W_cond rfl (fun hc14 => ?_) (fun hc14 => ?_)
   ·have he : o.a = o.b := by simp at hc14; omega
    refine W_seq (W_region ?_)
    refine Rr o_assignc ?_
    refine Rg_nil (W_ret ?_)
    refine ⟨_, res_tmp rfl rfl, ?_⟩
    refine ⟨congrArg (Value.int .i64) ?_, hX⟩
    all_goals (rw [checkO, if_neg (by omega), if_neg (fun h => by rcases h with ⟨h1, h2⟩ | ⟨h1, h2⟩ | ⟨h1, h2⟩ <;> first | omega | exact h2 hf | exact h2 hf.2), if_neg (by omega), if_neg (by omega), if_neg hn, if_pos he])
   have he : ¬ o.a = o.b := by simp at hc14; omega
   refine W_skip (W_seq (W_region ?_))
   refine Rr o_assignc ?_
   refine Rg_nil (W_ret ?_)
   refine ⟨_, res_tmp rfl rfl, ?_⟩
   refine ⟨congrArg (Value.int .i64) ?_, hX⟩
   all_goals (rw [checkO, if_neg (by omega), if_neg (fun h => by rcases h with ⟨h1, h2⟩ | ⟨h1, h2⟩ | ⟨h1, h2⟩ <;> first | omega | exact h2 hf | exact h2 hf.2), if_neg (by omega), if_neg (by omega), if_neg hn, if_neg he])
 have hk3 : ¬ o.k = 3 := by simpa using hc10
 refine W_seq (W_region ?_)
 refine Rr o_assignc ?_
 refine Rg_nil (W_ret ?_)
 refine ⟨_, res_tmp rfl rfl, ?_⟩
 refine ⟨congrArg (Value.int .i64) ?_, hX⟩
 all_goals (rw [checkO, if_pos (by omega)])

theorem ccmpk_ok (β : Prop) (x y : OKey) (hx : Kr x) (hy : Kr y) (w : World) : Ok Tryz.prog 66 #[.agg (encCk x).toArray, .agg (encCk y).toArray] w fun v w' => v = .int .i64 (cmpK x y) ∧ Ext β w w' := by
 have h1 := hx.k; have h2 := hx.a; have h3 := hx.b; have h4 := hy.k; have h5 := hy.a; have h6 := hy.b
 refine Ok_of_W 45 func66 rfl rfl rfl ?_
 have hX : Ext β w w := Bel.refl _ _
 refine W_seq (W_region ?_)
 refine Rg_newB rfl (o_box (v := .agg _) rfl) ?_
 intro b2 w1 x2 hge2 hb2
 change Box _ _ _ (encCk _) at hb2
 replace hX := hX.ex x2
 refine Rg_newB rfl (o_box (v := .agg _) rfl) ?_
 intro b3 w3 x4 hge3 hb3
 change Box _ _ _ (encCk _) at hb3
 replace hX := hX.ex x4
 replace hb2 := hb2.ext x4
 refine Rr o_assignc ?_
 refine Rg_nil (W_seq (W_block (W_seq (W_region ?_))))
 refine Rr (o_fa underlying55 rfl sizeOf47 rfl) ?_
 refine Rr (o_load1 isAgg47 rfl (hb2.at.get 0 rfl)) ?_
 refine Rr (o_fa underlying55 rfl sizeOf47 rfl) ?_
 refine Rr (o_load1 isAgg47 rfl (hb3.at.get 0 rfl)) ?_
 refine Rr (o_neq rfl rfl) ?_
 refine Rr (asB rfl) ?_
 refine Rg_nil ?_
 refine W_cond rfl (fun hc1 => ?_) (fun hc1 => ?_)
 ·refine W_seq (W_region ?_)
  refine Rr (o_fa underlying55 rfl sizeOf47 rfl) ?_
  refine Rr (o_load1 isAgg47 rfl (hb2.at.get 0 rfl)) ?_
  refine Rr (o_convS underlying47 underlying3 rfl (wrap_in (by unfold I64; omega))) ?_
  refine Rr (o_fa underlying55 rfl sizeOf47 rfl) ?_
  refine Rr (o_load1 isAgg47 rfl (hb3.at.get 0 rfl)) ?_
  refine Rr (o_convS underlying47 underlying3 rfl (wrap_in (by unfold I64; omega))) ?_
  refine Rr (o_sub rfl rfl (by unfold I64; omega)) ?_
  refine Rr (asI rfl) ?_
  refine Rg_nil (W_ret ?_)
  refine ⟨_, res_tmp rfl rfl, ?_⟩
  refine ⟨congrArg (Value.int .i64) ?_, hX⟩
  all_goals (rw [cmpK, if_pos (by simpa using hc1)])
 refine W_seq (W_region ?_)
 refine Rr (o_fa underlying55 rfl sizeOf3 rfl) ?_
 refine Rr (o_load1 isAgg3 rfl (hb2.at.get 1 rfl)) ?_
 refine Rr (o_fa underlying55 rfl sizeOf3 rfl) ?_
 refine Rr (o_load1 isAgg3 rfl (hb3.at.get 1 rfl)) ?_
 refine Rr (o_neq rfl rfl) ?_
 refine Rr (asB rfl) ?_
 refine Rg_nil ?_
 refine W_cond rfl (fun hc2 => ?_) (fun hc2 => ?_)
 ·refine W_seq (W_region ?_)
  refine Rr (o_fa underlying55 rfl sizeOf3 rfl) ?_
  refine Rr (o_load1 isAgg3 rfl (hb2.at.get 1 rfl)) ?_
  refine Rr (o_fa underlying55 rfl sizeOf3 rfl) ?_
  refine Rr (o_load1 isAgg3 rfl (hb3.at.get 1 rfl)) ?_
  refine Rr (o_sub rfl rfl (by unfold I64; omega)) ?_
  refine Rr (asI rfl) ?_
  refine Rg_nil (W_ret ?_)
  refine ⟨_, res_tmp rfl rfl, ?_⟩
  refine ⟨congrArg (Value.int .i64) ?_, hX⟩
  all_goals (rw [cmpK, if_neg (by simpa using hc1), if_pos (by simpa using hc2)])
 refine W_seq (W_region ?_)
 refine Rr (o_fa underlying55 rfl sizeOf3 rfl) ?_
 refine Rr (o_load1 isAgg3 rfl (hb2.at.get 2 rfl)) ?_
 refine Rr (o_fa underlying55 rfl sizeOf3 rfl) ?_
 refine Rr (o_load1 isAgg3 rfl (hb3.at.get 2 rfl)) ?_
 refine Rr (o_neq rfl rfl) ?_
 refine Rr (asB rfl) ?_
 refine Rg_nil ?_
 refine W_cond rfl (fun hc3 => ?_) (fun hc3 => ?_)
 ·refine W_seq (W_region ?_)
  refine Rr (o_fa underlying55 rfl sizeOf3 rfl) ?_
  refine Rr (o_load1 isAgg3 rfl (hb2.at.get 2 rfl)) ?_
  refine Rr (o_fa underlying55 rfl sizeOf3 rfl) ?_
  refine Rr (o_load1 isAgg3 rfl (hb3.at.get 2 rfl)) ?_
  refine Rr (o_sub rfl rfl (by unfold I64; omega)) ?_
  refine Rr (asI rfl) ?_
  refine Rg_nil (W_ret ?_)
  refine ⟨_, res_tmp rfl rfl, ?_⟩
  refine ⟨congrArg (Value.int .i64) ?_, hX⟩
  all_goals (rw [cmpK, if_neg (by simpa using hc1), if_neg (by simpa using hc2), if_pos (by simpa using hc3)])
 refine W_skip (W_seq (W_region ?_))
 refine Rr (o_fa underlying55 rfl sizeOf48 rfl) ?_
 refine Rr (o_loadS isAgg48 sizeOf48 rfl (hb2.at.sub 3 3) rfl) ?_
 refine Rr (o_fa underlying55 rfl sizeOf48 rfl) ?_
 refine Rr (o_loadS isAgg48 sizeOf48 rfl (hb3.at.sub 3 3) rfl) ?_
 refine Rg_enter rfl (o_call2 call112 rfl rfl) (Ok.mono (pmcompare_ok (β) _ hx.ok _ hy.ok _) ?_)
 rintro _ w5 ⟨rfl, x6⟩
 replace hX := hX.ex x6
 refine Rr (asI rfl) ?_
 refine Rg_nil (W_ret ?_)
 refine ⟨_, res_tmp rfl rfl, ?_⟩
 refine ⟨congrArg (Value.int .i64) ?_, hX⟩
 all_goals (rw [cmpK, if_neg (by simpa using hc1), if_neg (by simpa using hc2), if_neg (by simpa using hc3)])

theorem ccmp_ok (β : Prop) (x y : COp) (hx : Kr x.key) (hy : Kr y.key) (w : World) : Ok Tryz.prog 56 #[.agg (encCo x).toArray, .agg (encCo y).toArray] w fun v w' => v = .int .i64 (cmpO x y) ∧ Ext β w w' := by
 refine Ok_of_W 23 func56 rfl rfl rfl ?_
 have hX : Ext β w w := Bel.refl _ _
 refine W_seq (W_region ?_)
 refine Rg_newB rfl (o_box (v := .agg _) rfl) ?_
 intro b2 w1 x2 hge2 hb2
 change Box _ _ _ (encCo _) at hb2
 replace hX := hX.ex x2
 refine Rg_newB rfl (o_box (v := .agg _) rfl) ?_
 intro b3 w3 x4 hge3 hb3
 change Box _ _ _ (encCo _) at hb3
 replace hX := hX.ex x4
 replace hb2 := hb2.ext x4
 refine Rr o_assignc ?_
 refine Rg_nil (W_seq (W_seq ?_))
 apply W_draw (β := β) [peq _, peq _, peq _, peq _, peq _, peq _] 6 mixed (by kernel_rfl) rfl ⟨peq_stable _, peq_stable _, peq_stable _, peq_stable _, peq_stable _, peq_stable _, trivial⟩ ?ob1 ?fin1
 case ob1 =>
  refine OblL_cons (fun w5 x6 => ?_) ?_
  ·have hb2 := hb2.ext x6
   refine bindP_nil ?_
   exact OpS_v rfl (o_loadS isAgg50 sizeOf50 rfl hb2.at rfl)
  refine OblL_cons (fun w7 x8 => ?_) ?_
  ·refine bindP_eq (bindP_nil ?_)
   exact OpS_call rfl (o_call1 call13 rfl) (ckey_ok (β) x _)
  refine OblL_cons (fun w9 x10 => ?_) ?_
  ·have hb3 := hb3.ext x10
   refine bindP_nil ?_
   exact OpS_v rfl (o_loadS isAgg50 sizeOf50 rfl hb3.at rfl)
  refine OblL_cons (fun w11 x12 => ?_) ?_
  ·refine bindP_eq (bindP_eq (bindP_nil ?_))
   exact OpS_call rfl (o_call1 call13 rfl) (ckey_ok (β) y _)
  refine OblL_cons (fun w13 x14 => ?_) ?_
  ·refine bindP_eq (bindP_eq (bindP_eq (bindP_nil ?_)))
   exact OpS_call rfl (o_call2 call66 rfl rfl) (ccmpk_ok (β) x.key y.key hx hy _)
  refine OblL_cons (fun w15 x16 => ?_) ?_
  ·refine bindP_eq (bindP_eq (bindP_eq (bindP_eq (bindP_eq (bindP_eq (bindP_eq (bindP_nil ?_)))))))
   exact OpS_v rfl (asI rfl)
  exact OblL_nil
 case fin1 =>
  intro w17 x18
  replace hX := hX.ex x18
  replace hb2 := hb2.ext x18
  replace hb3 := hb3.ext x18
  refine bindP_eq (bindP_eq (bindP_eq (bindP_eq (bindP_eq (bindP_eq (bindP_nil (Rg_nil (W_seq ?_))))))))
  refine W_region ?_
  refine Rr (mvI rfl) ?_
  refine Rr (o_neq rfl rfl) ?_
  refine Rg_nil ?_
  refine W_cond rfl (fun hc1 => ?_) (fun hc1 => ?_)
  ·refine W_seq (W_region ?_)
   refine Rr (mvI rfl) ?_
   refine Rr (asI rfl) ?_
   refine Rg_nil (W_ret ?_)
   refine ⟨_, res_tmp rfl rfl, ?_⟩
   refine ⟨congrArg (Value.int .i64) ?_, hX⟩
   all_goals (rw [cmpO, if_pos (by simpa using hc1)])
  refine W_skip (W_seq (W_block (W_seq (W_region ?_))))
  refine Rr (o_fa underlying50 rfl sizeOf4 rfl) ?_
  refine Rr (o_load1 isAgg4 rfl (hb2.at.get 0 rfl)) ?_
  refine Rr (o_fa underlying50 rfl sizeOf4 rfl) ?_
  refine Rr (o_load1 isAgg4 rfl (hb3.at.get 0 rfl)) ?_
  refine Rr (o_beql underlying4 rfl rfl) ?_
  refine Rr (asB rfl) ?_
  refine Rg_nil ?_
  refine W_cond rfl (fun hc2 => ?_) (fun hc2 => ?_)
  ·refine W_seq (W_region ?_)
   refine Rr o_assignc ?_
   refine Rg_nil (W_ret ?_)
   refine ⟨_, res_tmp rfl rfl, ?_⟩
   refine ⟨congrArg (Value.int .i64) ?_, hX⟩
   all_goals (rw [cmpO, if_neg (by simpa using hc1), if_pos (by simpa using hc2)])
  refine W_seq (W_region ?_)
  refine Rr (o_fa underlying50 rfl sizeOf4 rfl) ?_
  refine Rr (o_load1 isAgg4 rfl (hb3.at.get 0 rfl)) ?_
  refine Rr (asB rfl) ?_
  refine Rg_nil ?_
  refine W_cond rfl (fun hc3 => ?_) (fun hc3 => ?_)
  ·refine W_seq (W_region ?_)
   refine Rr o_assignc ?_
   refine Rg_nil (W_ret ?_)
   refine ⟨_, res_tmp rfl rfl, ?_⟩
   refine ⟨congrArg (Value.int .i64) ?_, hX⟩
   all_goals (rw [cmpO, if_neg (by simpa using hc1), if_neg (by simpa using hc2), if_pos (by simpa using hc3)])
  refine W_skip (W_seq (W_region ?_))
  refine Rr o_assignc ?_
  refine Rg_nil (W_ret ?_)
  refine ⟨_, res_tmp rfl rfl, ?_⟩
  refine ⟨congrArg (Value.int .i64) ?_, hX⟩
  all_goals (rw [cmpO, if_neg (by simpa using hc1), if_neg (by simpa using hc2), if_neg (by simpa using hc3)])

theorem cclone_ok (w : World) (vl : Value) (l : List COp) (hl : Rd encCo 8 (Lt w.heap.size) w vl l) (nl : l.length ≤ 100000) : Ok Tryz.prog 54 #[vl] w fun v w' => Own encCo 8 50 (Fsh w w') w' v (l) ∧ Ext False w w' := by
 obtain ⟨al, cl, rfl, hl⟩ := hl; have ml := hl.len
 refine Ok_of_W 8 func54 rfl rfl rfl ?_
 have hX : Ext False w w := Bel.refl _ _
 refine W_seq (W_region ?_)
 refine Rr o_assignc ?_
 refine Rg_nil (W_seq (W_seq (W_region ?_)))
 refine Rr (mvS rfl) ?_
 refine Rr (o_lnil underlying61 rfl) ?_
 refine Rg_nil ?_
 refine W_cond rfl (fun hc1 => ?_) (fun hc1 => ?_)
 ·have hnl := sl_none hl hc1; subst hnl
  refine W_seq (W_region ?_)
  refine Rr o_assignc ?_
  refine Rg_nil (W_ret ?_)
  refine ⟨_, res_tmp rfl rfl, ?_⟩
  exact ⟨Own.nil _ _, hX⟩
 refine W_skip (W_seq (W_region ?_))
 refine Rg_bs (vs := []) (([] : List COp)) rfl encCo_ok el_co rfl rfl trivial rfl rfl rfl rfl ?_
 intro a5 w1 x2 hown5
 have z3 := x2.size
 replace hX := hX.ex x2
 replace hl := hl.ext x2
 replace hown5 := hown5.mono (D' := fun g => w.heap.size ≤ g) (fun g h1 h2 => by omega)
 refine Rr (mvS rfl) ?_
 refine Rg_app rfl encCo_ok el_co rfl rfl hown5 hl rfl (by simp; omega) omU ?_
 intro v7 w4 x5 hown5
 have z6 := x5.size
 replace hX := Bel.out hX x5 om2
 refine Rr (o_assignh (v := v7) rfl) ?_
 refine Rg_nil (W_ret ?_)
 refine ⟨_, res_tmp rfl rfl, ?_⟩
 rw [List.nil_append] at hown5; exact ⟨hown5.mono (fun g h1 h2 => by omega), hX⟩

theorem coeq_ok (a b : Option Addr) (c d : Nat) (A C : Nat → Prop) (x y : List COp) (w : World) (hx : Sl encCo 8 A w a c x) (hy : Sl encCo 8 C w b d y) : Ok Tryz.prog 58 #[.slice a x.length c, .slice b y.length d] w fun v w' => v = .bool (x == y) ∧ Ext False w w' := by
 have hlx := hx.len; have hly := hy.len
 replace hx := hx.mono (F' := fun g => g < w.heap.size) (fun g h1 h2 => h1)
 replace hy := hy.mono (F' := fun g => g < w.heap.size) (fun g h1 h2 => h1)
 refine Ok_of_W 26 func58 rfl rfl rfl ?_
 have hX : Ext False w w := Bel.refl _ _
 refine W_seq (W_region ?_)
 refine Rr o_assignc ?_
 refine Rg_nil (W_seq (W_seq (W_region ?_)))
 refine Rr (mvS rfl) ?_
 refine Rr (o_llen underlying61 rfl) ?_
 refine Rr (mvS rfl) ?_
 refine Rr (o_llen underlying61 rfl) ?_
 refine Rr (o_neq rfl rfl) ?_
 refine Rg_nil ?_
 refine W_cond rfl (fun hc1 => ?_) (fun hc1 => ?_)
 ·skip
  refine W_seq (W_region ?_)
  refine Rr o_assignc ?_
  refine Rg_nil (W_ret ?_)
  refine ⟨_, res_tmp rfl rfl, ?_⟩
  refine ⟨congrArg Value.bool ?_, hX⟩
  all_goals (exact (eqT_len (by simpa using hc1)).symm)
 have hle : (x.length : Int) = y.length := by simpa using hc1
 refine W_skip (W_seq (W_seq (W_region ?_)))
 refine Rr (mvS rfl) ?_
 refine Rr (o_llen underlying61 rfl) ?_
 refine Rr o_movec ?_
 refine Rg_nil (W_block ?_)
 refine W_for (α := Nat) [(4, 5), (13, 25)] (fun k => [(13, .int .i64 (k : Int))]) (fun k w' => (k ≤ x.length ∧ x.take k = y.take k) ∧ Ext False w w') (fun k => x.length - k) 0 ⟨rfl, trivial⟩ ⟨⟨by omega, by simp⟩, Bel.refl _ _⟩ ?_
 rintro k fb3 w2 ⟨⟨hk, hall⟩, hXL1⟩
 replace hX := hX.ex hXL1
 replace hx := hx.ext hXL1
 replace hy := hy.ext hXL1
 refine W_seq (W_region ?_)
 refine Rr (o_lss rfl rfl) ?_
 refine Rg_nil (W_seq ?_)
 refine W_cond rfl (fun hc2 => ?_) (fun hc2 => ?_)
 ·replace hc2 := of_decide_eq_true hc2
  refine W_skip (W_seq (W_block (W_seq (W_region ?_))))
  refine Rr (mvI rfl) ?_
  refine Rr (asI rfl) ?_
  refine Rg_nil (W_seq ?_)
  apply W_draw (β := False) [peq _, peq _, peq _, peq _, peq _, peq _, peq _, peq _, peq _] 9 mixed (by kernel_rfl) rfl ⟨peq_stable _, peq_stable _, peq_stable _, peq_stable _, peq_stable _, peq_stable _, peq_stable _, peq_stable _, peq_stable _, trivial⟩ ?ob6 ?fin6
  case ob6 =>
   refine OblL_cons (fun w4 x5 => ?_) ?_
   ·refine bindP_nil ?_
    exact OpS_v rfl (mvS rfl)
   refine OblL_cons (fun w6 x7 => ?_) ?_
   ·refine bindP_nil ?_
    exact OpS_v rfl (mvI rfl)
   refine OblL_cons (fun w8 x9 => ?_) ?_
   ·have hx := hx.ext x9
    refine bindP_eq (bindP_eq (bindP_nil ?_))
    exact OpS_v rfl (o_iaR underlying61 sizeOf50 hx rfl rfl omg)
   refine OblL_cons (fun w10 x11 => ?_) ?_
   ·have hx := hx.ext x11
    refine bindP_eq (bindP_nil ?_)
    exact OpS_v rfl (o_ldRS isAgg50 sizeOf50 hx rfl (getE coz (by omega)))
   refine OblL_cons (fun w12 x13 => ?_) ?_
   ·refine bindP_nil ?_
    exact OpS_v rfl (mvS rfl)
   refine OblL_cons (fun w14 x15 => ?_) ?_
   ·refine bindP_nil ?_
    exact OpS_v rfl (mvI rfl)
   refine OblL_cons (fun w16 x17 => ?_) ?_
   ·have hy := hy.ext x17
    refine bindP_eq (bindP_eq (bindP_nil ?_))
    exact OpS_v rfl (o_iaR underlying61 sizeOf50 hy rfl rfl omg)
   refine OblL_cons (fun w18 x19 => ?_) ?_
   ·have hy := hy.ext x19
    refine bindP_eq (bindP_nil ?_)
    exact OpS_v rfl (o_ldRS isAgg50 sizeOf50 hy rfl (getE coz (by omega)))
   refine OblL_cons (fun w20 x21 => ?_) ?_
   ·refine bindP_eq (bindP_eq (bindP_nil ?_))
    exact OpS_v rfl (o_tneq eq_co rfl rfl)
   exact OblL_nil
  case fin6 =>
   intro w22 x23
   replace hX := hX.ex x23
   replace hXL1 := Bel.ex hXL1 x23
   refine bindP_eq (bindP_eq (bindP_eq (bindP_eq (bindP_eq (bindP_eq (bindP_eq (bindP_eq (bindP_eq ?_))))))))
   refine bindP_nil (Rg_nil ?_)
   refine W_cond rfl (fun hc3 => ?_) (fun hc3 => ?_)
   ·refine W_seq (W_region ?_)
    refine Rr o_assignc ?_
    refine Rg_nil (W_ret ?_)
    refine ⟨_, res_tmp rfl rfl, ?_⟩
    refine ⟨congrArg Value.bool ?_, hX⟩
    all_goals (exact (eqT_ne (z := coz) (k := k) (by simpa using hc3)).symm)
   refine W_skip (W_region ?_)
   refine Rr (o_add rfl rfl omg) ?_
   refine Rr (mvI rfl) ?_
   refine Rg_nil ?_
   refine ⟨k + 1, ⟨sT, trivial⟩, oT, ⟨?_, hXL1⟩, ?_⟩
   ·exact ⟨by omega, eqT_succ (z := coz) (by omega) (by omega) hall (by simpa using hc3)⟩
   ·omega
 replace hc2 := of_decide_eq_false hc2
 refine W_exit (exAt_hit (W_seq (W_region ?_)))
 refine Rr o_assignc ?_
 refine Rg_nil (W_ret ?_)
 refine ⟨_, res_tmp rfl rfl, ?_⟩
 refine ⟨congrArg Value.bool ?_, hX⟩
 all_goals (exact (eqT_end (k := k) (by omega) (by omega) hall).symm)

theorem coeq_okV (v1 v2 : Value) (A C : Nat → Prop) (x y : List COp) (w : World) (hx : Rd encCo 8 A w v1 x) (hy : Rd encCo 8 C w v2 y) : Ok Tryz.prog 58 #[v1, v2] w fun v w' => v = .bool (x == y) ∧ Ext False w w' := by
 obtain ⟨a, c, rfl, h1⟩ := hx
 obtain ⟨b, d, rfl, h2⟩ := hy
 exact coeq_ok _ _ _ _ _ _ _ _ _ h1 h2
theorem ckcomp (β : Prop) (a : Option Addr) (c : Nat) (B : Nat → Prop) (l : List OKey) (w : World) (ho : Own encCk 6 55 B w (.slice a l.length c) l) : Ok Tryz.prog 60 #[.slice a l.length c] w fun v w' => ∃ m, v = .slice a m c ∧ Own encCk 6 55 B w' (.slice a m c) (compL l) ∧ Bel β B w w' := by
 have hs := ho.slA encCk_ok; have hlen := hs.len; have hcap := ho.capOf.1
 refine Ok_of_W 61 func60 rfl rfl rfl ?_
 have hX : Bel β (B) w w := Bel.refl _ _
 refine W_seq (W_region ?_)
 refine Rr o_assignc ?_
 refine Rg_nil (W_seq (W_seq (W_region ?_)))
 refine Rr (mvS rfl) ?_
 refine Rr (o_llen underlying70 rfl) ?_
 refine Rr (o_lss rfl rfl) ?_
 refine Rg_nil ?_
 refine W_cond rfl (fun hc1 => ?_) (fun hc1 => ?_)
 ·first | replace hc1 := of_decide_eq_true hc1 | replace hc1 := bnot_t hc1 | skip
  refine W_seq (W_region ?_)
  refine Rr (mvS rfl) ?_
  refine Rr (asS rfl) ?_
  refine Rg_nil (W_ret ?_)
  refine ⟨_, res_tmp rfl rfl, ?_⟩
  exact ⟨_, rfl, by rw [comp_one (by omega)]; exact ho, hX⟩
 first | replace hc1 := of_decide_eq_false hc1 | replace hc1 := bnot_f hc1 | skip
 refine W_skip (W_seq (W_seq (W_region ?_)))
 refine Rr o_assignc ?_
 refine Rg_nil (W_block ?_)
 refine W_for (α := Nat) [(2, 5), (10, 59)] (fun k => [(3, .int .i64 (k : Int))]) (fun k w' => (1 ≤ k ∧ k ≤ l.length ∧ compL (l.take k) = l.take k) ∧ Bel β (B) w w' ∧ (Own encCk 6 55 B w' (.slice a l.length c) l)) (fun k => l.length - k) 1 ⟨rfl, trivial⟩ ⟨⟨by omega, by omega, comp_take1 (by omega)⟩, Bel.refl _ _, ho⟩ ?_
 rintro k fb3 w2 ⟨⟨hk1, hk, hall⟩, hXL1, ho⟩
 have z4 := Bel.size hXL1
 replace hX := Bel.out hX hXL1 om2
 have hs := ho.slA encCk_ok
 refine W_seq (W_seq (W_region ?_))
 refine Rr (mvI rfl) ?_
 refine Rr (mvS rfl) ?_
 refine Rr (o_llen underlying70 rfl) ?_
 refine Rr (o_lss rfl rfl) ?_
 refine Rg_nil ?_
 refine W_cond rfl (fun hc2 => ?_) (fun hc2 => ?_)
 ·first | replace hc2 := of_decide_eq_true hc2 | replace hc2 := bnot_t hc2 | skip
  refine W_skip (W_seq (W_block (W_seq ?_)))
  apply W_draw (β := β) [peq _, peq _, peq _, peq _, peq _, peq _, peq _, peq _, peq _, peq _] 10 mixed (by kernel_rfl) rfl ⟨peq_stable _, peq_stable _, peq_stable _, peq_stable _, peq_stable _, peq_stable _, peq_stable _, peq_stable _, peq_stable _, peq_stable _, trivial⟩ ?ob6 ?fin6
  case ob6 =>
   refine OblL_cons (fun w5 x6 => ?_) ?_
   ·have z7 := x6.size
    refine bindP_nil ?_
    exact OpS_v rfl (mvS rfl)
   refine OblL_cons (fun w8 x9 => ?_) ?_
   ·have z10 := x9.size
    refine bindP_nil ?_
    exact OpS_v rfl (mvI rfl)
   refine OblL_cons (fun w11 x12 => ?_) ?_
   ·have z13 := x12.size
    have ho := ho.ext x12
    refine bindP_eq (bindP_eq (bindP_nil ?_))
    exact OpS_v rfl (o_iaO underlying70 sizeOf55 ho rfl rfl (by omega))
   refine OblL_cons (fun w14 x15 => ?_) ?_
   ·have z16 := x15.size
    have hs := hs.ext x15
    refine bindP_eq (bindP_nil ?_)
    exact OpS_v rfl (o_ldRS isAgg55 sizeOf55 hs rfl (getE okz (by omega)))
   refine OblL_cons (fun w17 x18 => ?_) ?_
   ·have z19 := x18.size
    refine bindP_nil ?_
    exact OpS_v rfl (mvS rfl)
   refine OblL_cons (fun w20 x21 => ?_) ?_
   ·have z22 := x21.size
    refine bindP_nil ?_
    exact OpS_v rfl (mvI rfl)
   refine OblL_cons (fun w23 x24 => ?_) ?_
   ·have z25 := x24.size
    refine bindP_eq (bindP_nil ?_)
    exact OpS_v rfl (o_subN (b := 1) rfl rfl (by omega) (by omega))
   refine OblL_cons (fun w26 x27 => ?_) ?_
   ·have z28 := x27.size
    have ho := ho.ext x27
    refine bindP_eq (bindP_eq (bindP_nil ?_))
    exact OpS_v rfl (o_iaO underlying70 sizeOf55 ho rfl rfl (by omega))
   refine OblL_cons (fun w29 x30 => ?_) ?_
   ·have z31 := x30.size
    have hs := hs.ext x30
    refine bindP_eq (bindP_nil ?_)
    exact OpS_v rfl (o_ldRS isAgg55 sizeOf55 hs rfl (getE okz (by omega)))
   refine OblL_cons (fun w32 x33 => ?_) ?_
   ·have z34 := x33.size
    refine bindP_eq (bindP_eq (bindP_nil ?_))
    exact OpS_v rfl (o_teql eq_ck rfl rfl)
   exact OblL_nil
  case fin6 =>
   intro w35 x36
   have z37 := x36.size
   replace hX := hX.ex x36
   replace hXL1 := Bel.ex hXL1 x36
   replace ho := ho.ext x36
   replace hs := hs.ext x36
   refine bindP_eq (bindP_eq (bindP_eq (bindP_eq (bindP_eq (bindP_eq (bindP_eq (bindP_eq (bindP_eq ?_))))))))
   refine bindP_eq (bindP_nil (Rg_nil ?_))
   refine W_cond rfl (fun hc3 => ?_) (fun hc3 => ?_)
   ·first | replace hc3 := of_decide_eq_true hc3 | replace hc3 := bnot_t hc3 | skip
    refine W_seq (W_region ?_)
    refine Rr (mvS rfl) ?_
    refine Rr (mvI rfl) ?_
    refine Rr (o_sfromO (j := k) underlying70 sizeOf55 rfl rfl (by omega) (by omega)) ?_
    refine Rr (asS rfl) ?_
    refine Rg_nil (W_seq (W_seq (W_region ?_)))
    refine Rr o_assignc ?_
    refine Rg_nil (W_block ?_)
    refine W_for (α := List OKey × Nat × Nat) [(3, 3), (5, 5), (29, 53)] (fun p => [(3, .int .i64 (p.2.2 : Int)), (5, .int .i64 (p.2.1 : Int))]) (fun p w' => (1 ≤ p.2.1 ∧ k + p.2.1 ≤ l.length ∧ p.1 = compL (l.take (k + p.2.1)) ∧ p.1.length = p.2.2 ∧ p.2.2 + 1 ≤ k + p.2.1) ∧ Bel β (B) w35 w' ∧ (Own encCk 6 55 B w' (.slice a l.length c) (p.1 ++ l.drop p.1.length))) (fun p => l.length - (k + p.2.1)) (l.take k, 1, k) ⟨rfl, rfl, trivial⟩ ⟨⟨Nat.le_refl _, by show k + 1 ≤ l.length; omega, by rw [comp_eq (z := okz) (by omega) hk1 (by simpa using hc3), hall], by simp; omega, Nat.le_refl _⟩, Bel.refl _ _, (by rw [List.length_take, Nat.min_eq_left (by omega), List.take_append_drop]; exact ho)⟩ ?_
    rintro p fb40 w39 ⟨⟨hp1, hp2, hp3, hp4, hp5⟩, hXL38, hown⟩
    have z41 := Bel.size hXL38
    replace hX := Bel.out hX hXL38 om2
    replace hXL1 := Bel.out hXL1 hXL38 om2
    have hs := hown.slA encCk_ok
    refine W_seq (W_seq (W_region ?_))
    refine Rr (mvI rfl) ?_
    refine Rr (mvS rfl) ?_
    refine Rr (o_llen underlying70 rfl) ?_
    refine Rr (o_lss rfl rfl) ?_
    refine Rg_nil ?_
    refine W_cond rfl (fun hc4 => ?_) (fun hc4 => ?_)
    ·first | replace hc4 := of_decide_eq_true hc4 | replace hc4 := bnot_t hc4 | skip
     refine W_skip (W_seq (W_block (W_seq ?_)))
     apply W_draw (β := β) [peq _, peq _, peq _, peq _, peq _, peq _, peq _, peq _, peq _, peq _] 10 mixed (by kernel_rfl) rfl ⟨peq_stable _, peq_stable _, peq_stable _, peq_stable _, peq_stable _, peq_stable _, peq_stable _, peq_stable _, peq_stable _, peq_stable _, trivial⟩ ?ob11 ?fin11
     case ob11 =>
      refine OblL_cons (fun w42 x43 => ?_) ?_
      ·have z44 := x43.size
       refine bindP_nil ?_
       exact OpS_v rfl (mvS rfl)
      refine OblL_cons (fun w45 x46 => ?_) ?_
      ·have z47 := x46.size
       refine bindP_nil ?_
       exact OpS_v rfl (mvI rfl)
      refine OblL_cons (fun w48 x49 => ?_) ?_
      ·have z50 := x49.size
       have hown := hown.ext x49
       refine bindP_eq (bindP_eq (bindP_nil ?_))
       exact OpS_v rfl (o_iaO2 (i := p.2.1) underlying70 sizeOf55 hown rfl rfl (by omega) (by omega))
      refine OblL_cons (fun w51 x52 => ?_) ?_
      ·have z53 := x52.size
       have hs := hs.ext x52
       refine bindP_eq (bindP_nil ?_)
       exact OpS_v rfl (o_ldRS isAgg55 sizeOf55 hs rfl (tail_get (z := okz) (by omega) (by omega)))
      refine OblL_cons (fun w54 x55 => ?_) ?_
      ·have z56 := x55.size
       refine bindP_nil ?_
       exact OpS_v rfl (mvS rfl)
      refine OblL_cons (fun w57 x58 => ?_) ?_
      ·have z59 := x58.size
       refine bindP_nil ?_
       exact OpS_v rfl (mvI rfl)
      refine OblL_cons (fun w60 x61 => ?_) ?_
      ·have z62 := x61.size
       refine bindP_eq (bindP_nil ?_)
       exact OpS_v rfl (o_subN (b := 1) rfl rfl (by omega) (by omega))
      refine OblL_cons (fun w63 x64 => ?_) ?_
      ·have z65 := x64.size
       have hown := hown.ext x64
       refine bindP_eq (bindP_eq (bindP_nil ?_))
       exact OpS_v rfl (o_iaO2 (i := p.2.1 - 1) underlying70 sizeOf55 hown rfl rfl (by omega) (by omega))
      refine OblL_cons (fun w66 x67 => ?_) ?_
      ·have z68 := x67.size
       have hs := hs.ext x67
       refine bindP_eq (bindP_nil ?_)
       exact OpS_v rfl (o_ldRS isAgg55 sizeOf55 hs rfl (tail_get (z := okz) (by omega) (by omega)))
      refine OblL_cons (fun w69 x70 => ?_) ?_
      ·have z71 := x70.size
       refine bindP_eq (bindP_eq (bindP_nil ?_))
       exact OpS_v rfl (o_tneq eq_ck rfl rfl)
      exact OblL_nil
     case fin11 =>
      intro w72 x73
      have z74 := x73.size
      replace hX := hX.ex x73
      replace hXL1 := Bel.ex hXL1 x73
      replace hXL38 := Bel.ex hXL38 x73
      replace hown := hown.ext x73
      replace hs := hs.ext x73
      refine bindP_eq (bindP_eq (bindP_eq (bindP_eq (bindP_eq (bindP_eq (bindP_eq (bindP_eq (bindP_eq ?_))))))))
      refine bindP_eq (bindP_nil (Rg_nil ?_))
      refine W_cond rfl (fun hc5 => ?_) (fun hc5 => ?_)
      ·first | replace hc5 := of_decide_eq_true hc5 | replace hc5 := bnot_t hc5 | skip
       refine W_seq (W_region ?_)
       refine Rr (mvS rfl) ?_
       refine Rr (mvI rfl) ?_
       refine Rr (mvS rfl) ?_
       refine Rr (mvI rfl) ?_
       refine Rr (o_iaO2 (i := p.2.1) underlying70 sizeOf55 hown rfl rfl (by omega) (by omega)) ?_
       refine Rr (o_ldRS isAgg55 sizeOf55 hs rfl (tail_get (z := okz) (by omega) (by omega))) ?_
       refine Rr (o_iaO underlying70 sizeOf55 hown rfl rfl (by omega)) ?_
       refine Rg_elst (u := l.getD (k + p.2.1) okz) rfl encCk_ok sizeOf55 rfl rfl rfl hown (by simp; omega) ?_
       intro w75 x76 hown
       have z77 := x76.size
       replace hX := Bel.out hX x76 om2
       replace hXL1 := Bel.out hXL1 x76 om2
       replace hXL38 := Bel.out hXL38 x76 om2
       refine Rg_nil (W_region ?_)
       refine Rr (mvI rfl) ?_
       refine Rr (o_add rfl rfl omg) ?_
       refine Rr (asI rfl) ?_
       refine Rg_nil (W_region ?_)
       refine Rr (mvI rfl) ?_
       refine Rr (o_add rfl rfl omg) ?_
       refine Rr (asI rfl) ?_
       refine Rg_nil ?_
       refine ⟨(p.1 ++ [l.getD (k + p.2.1) okz], p.2.1 + 1, p.2.2 + 1), ⟨sT, sT, trivial⟩, oT, ⟨?_, hXL38, ?_⟩, ?_⟩
       ·exact ⟨by show 1 ≤ p.2.1 + 1; omega, by show k + (p.2.1 + 1) ≤ l.length; omega, by show _ = compL (l.take (k + p.2.1 + 1)); rw [comp_ne (z := okz) (by omega) (by omega) (by rw [show k + p.2.1 - 1 = k + (p.2.1 - 1) by omega]; simpa using hc5), hp3], by simp [hp4], by show p.2.2 + 1 + 1 ≤ k + (p.2.1 + 1); omega⟩
       ·rw [← hp4, tail_set (by omega)] at hown; exact hown
       ·show l.length - (k + (p.2.1 + 1)) < _; omega
      first | replace hc5 := of_decide_eq_false hc5 | replace hc5 := bnot_f hc5 | skip
      refine W_skip (W_region ?_)
      refine Rr (mvI rfl) ?_
      refine Rr (o_add rfl rfl omg) ?_
      refine Rr (asI rfl) ?_
      refine Rg_nil ?_
      refine ⟨(p.1, p.2.1 + 1, p.2.2), ⟨sT, sT, trivial⟩, oT, ⟨?_, hXL38, ?_⟩, ?_⟩
      ·exact ⟨by show 1 ≤ p.2.1 + 1; omega, by show k + (p.2.1 + 1) ≤ l.length; omega, by show _ = compL (l.take (k + p.2.1 + 1)); rw [comp_eq (z := okz) (by omega) (by omega) (by rw [show k + p.2.1 - 1 = k + (p.2.1 - 1) by omega]; simpa using hc5), hp3], hp4, by show p.2.2 + 1 ≤ k + (p.2.1 + 1); omega⟩
      ·exact hown
      ·show l.length - (k + (p.2.1 + 1)) < _; omega
    first | replace hc4 := of_decide_eq_false hc4 | replace hc4 := bnot_f hc4 | skip
    refine W_exit (exAt_hit (W_seq (W_region ?_)))
    refine Rr (mvS rfl) ?_
    refine Rr (mvI rfl) ?_
    refine Rr (o_sfromO (j := p.2.2) underlying70 sizeOf55 rfl rfl (by omega) (by omega)) ?_
    refine Rg_clear okz encCk_ok el_ck rfl rfl hown (by simp; omega) (by simp; omega) ?_
    intro w78 x79 hown
    have z80 := x79.size
    replace hX := Bel.out hX x79 om2
    replace hXL1 := Bel.out hXL1 x79 om2
    refine Rg_nil (W_seq (W_region ?_))
    refine Rr (mvS rfl) ?_
    refine Rr (mvI rfl) ?_
    refine Rr (o_slto underlying70 sizeOf55 rfl rfl omg) ?_
    refine Rr (asS rfl) ?_
    refine Rg_nil (W_ret ?_)
    refine ⟨_, res_tmp rfl rfl, ?_⟩
    have e : compL l = p.1 := by rw [hp3, show k + p.2.1 = l.length by omega, List.take_length]
    exact ⟨_, rfl, by rw [e]; exact hown.cutTo encCk_ok hp4, hX⟩
   first | replace hc3 := of_decide_eq_false hc3 | replace hc3 := bnot_f hc3 | skip
   refine W_skip (W_region ?_)
   refine Rr (mvI rfl) ?_
   refine Rr (o_add rfl rfl omg) ?_
   refine Rr (asI rfl) ?_
   refine Rg_nil ?_
   refine ⟨k + 1, ⟨sT, trivial⟩, oT, ⟨?_, hXL1, ?_⟩, ?_⟩
   ·exact ⟨by omega, by omega, by rw [comp_ne (z := okz) (by omega) hk1 (by simpa using hc3), hall, List.take_succ_eq_append_getElem (by omega)]; simp [List.getD, show k < l.length by omega]⟩
   ·exact ho
   ·omega
 first | replace hc2 := of_decide_eq_false hc2 | replace hc2 := bnot_f hc2 | skip
 refine W_exit (exAt_hit (W_seq (W_region ?_)))
 refine Rr (mvS rfl) ?_
 refine Rr (asS rfl) ?_
 refine Rg_nil (W_ret ?_)
 refine ⟨_, res_tmp rfl rfl, ?_⟩
 rw [List.take_of_length_le (by omega)] at hall
 exact ⟨_, rfl, by rw [hall]; exact ho, hX⟩

theorem ckcompV (B : Nat → Prop) (l : List OKey) (v : Value) (w : World) (ho : Own encCk 6 55 B w v l) : Ok Tryz.prog 60 #[v] w fun v' w' => Own encCk 6 55 B w' v' (compL l) ∧ Bel False B w w' := by
 obtain ⟨a, c, rfl, _⟩ := ho.sl encCk_ok
 refine (ckcomp False a c B l w ho).mono ?_
 rintro _ w' ⟨m, rfl, h1, h2⟩
 exact ⟨h1, h2⟩
end Go.Proofs.YtdnkjdmfnmdpdaaGreatDoor
