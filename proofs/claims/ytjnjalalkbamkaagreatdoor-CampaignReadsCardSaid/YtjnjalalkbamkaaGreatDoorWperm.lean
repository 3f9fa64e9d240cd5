/- Walks: what functions return. -/
import Derived.Test.YtjnjalalkbamkaaGreatDoorWname
import Derived.Test.YtjnjalalkbamkaaGreatDoorDrawC
set_option linter.unusedVariables false
set_option linter.unusedSimpArgs false
set_option linter.unnecessarySimpa false
namespace Go.Proofs.YtjnjalalkbamkaaGreatDoor
open Go Go.Lx Go.RowKit Tryz
set_option maxRecDepth 100000
theorem check_ok (β : Prop) (x : Perm) (hx : x.ok) (w : World) : Ok Tryz.prog 117 #[.agg (encP x).toArray] w fun v w' => v = .int .i64 (checkS x) ∧ Ext β w w' := by
 have ha := hx.1; have hp := hx.2
 refine Qz 21 func117 rfl rfl rfl ?_
 have hX : Ext β w w := Bel.refl _ _
 refine Qe (Qc ?_)
 refine QJ rfl (Q4 (v := .agg _) rfl) ?_
 intro b1 w1 x2 hge1 hb1
 replace hX := hX.ex x2
 refine Rr Qm ?_
 refine Qd (Qe (QB (Qe (Qc ?_))))
 refine Rr (Qx underlying119 rfl sizeOf9 rfl) ?_
 refine Rr (Qn isAgg9 rfl (hb1.at.get 0 rfl)) ?_
 refine Qo rfl (QA call100 rfl) (Ok.mono (name_ok (β) _ (by first | assumption | omega | (simp; done) | (simp; omega) | (simp at *; omega)) _) ?_)
 rintro _ w3 ⟨rfl, x4⟩
 replace hX := hX.ex x4
 replace hb1 := hb1.ext x4
 refine Rr (Q5 rfl) ?_
 refine Rr (asB rfl) ?_
 refine Qd ?_
 refine QD rfl (fun hc1 => ?_) (fun hc1 => ?_)
 ·refine Qe (Qc ?_)
  refine Rr Qm ?_
  refine Qd (Qy ?_)
  refine ⟨_, Qp rfl rfl, ?_⟩
  refine ⟨congrArg (Value.int .i64) ?_, hX⟩
  all_goals (rw [checkS, if_pos hc1])
 refine Qe (Qe (Qc ?_))
 refine Rr (Qx underlying119 rfl sizeOf9 rfl) ?_
 refine Rr (Qn isAgg9 rfl (hb1.at.get 1 rfl)) ?_
 refine Qo rfl (QA call146 rfl) (Ok.mono (pvalid_ok (β) _ (by first | assumption | omega | (simp; done) | (simp; omega) | (simp at *; omega)) _) ?_)
 rintro _ w5 ⟨rfl, x6⟩
 replace hX := hX.ex x6
 replace hb1 := hb1.ext x6
 refine Rr (Q5 rfl) ?_
 refine Rr (asB rfl) ?_
 refine Qd ?_
 refine QD rfl (fun hc2 => ?_) (fun hc2 => ?_)
 ·refine Qu ?_
  refine QD rfl (fun hc3 => ?_) (fun hc3 => ?_)
  ·refine Qe (Qc ?_)
   refine Rr Qm ?_
   refine Qd (Qy ?_)
   refine ⟨_, Qp rfl rfl, ?_⟩
   refine ⟨congrArg (Value.int .i64) ?_, hX⟩
   all_goals (rw [checkS, if_neg (by rw [hc1]; simp), if_pos (by rw [hc2]; rfl)])
  refine Qu (Qe (Qc ?_))
  refine Rr Qm ?_
  refine Qd (Qy ?_)
  refine ⟨_, Qp rfl rfl, ?_⟩
  refine ⟨congrArg (Value.int .i64) ?_, hX⟩
  all_goals (rw [hc2] at hc3; cases hc3)
 refine Qc ?_
 refine Rr (Qx underlying119 rfl sizeOf4 rfl) ?_
 refine Rr (Qn isAgg4 rfl (hb1.at.get 2 rfl)) ?_
 refine Rr (mvB rfl) ?_
 refine Qq 2 15 rfl rfl rfl (fun hg => (Qx underlying119 rfl sizeOf9 rfl)) ?_
 refine Qq 2 15 rfl rfl rfl (fun hg => (Qn isAgg9 (QE (u := undef) hg) (hb1.at.get 1 rfl))) ?_
 refine Rg_mayCall 2 15 rfl rfl rfl (fun hg => ⟨(QA call147 (QE (u := undef) hg)), depth_ok (β) _ (by first | assumption | omega | (simp; done) | (simp; omega) | (simp at *; omega)) _⟩) ?_
 intro w7 x8
 replace hX := hX.ex x8
 refine Qq 2 15 rfl rfl rfl (fun hg => (Q0 (QE (u := undef) hg) rfl)) ?_
 refine Rr (o_and (u := undef) rfl rfl) ?_
 refine Rr (asB rfl) ?_
 refine Qd ?_
 refine QD rfl (fun hc4 => ?_) (fun hc4 => ?_)
 ·refine Qe (Qc ?_)
  refine Rr Qm ?_
  refine Qd (Qy ?_)
  refine ⟨_, Qp rfl rfl, ?_⟩
  refine ⟨congrArg (Value.int .i64) ?_, hX⟩
  all_goals (rw [checkS, if_neg (by rw [hc1]; simp), if_pos (by rw [hc2, hc4]; rfl)])
 refine Qu (Qe (Qc ?_))
 refine Rr Qm ?_
 refine Qd (Qy ?_)
 refine ⟨_, Qp rfl rfl, ?_⟩
 refine ⟨congrArg (Value.int .i64) ?_, hX⟩
 all_goals (rw [checkS, if_neg (by rw [hc1]; simp), if_neg (by rw [hc2, hc4]; simp)])

theorem pmcompare_ok (β : Prop) (x : Perm) (hx : x.ok) (x1 : Perm) (hx1 : x1.ok) (w : World) : Ok Tryz.prog 158 #[.agg (encP x).toArray, .agg (encP x1).toArray] w fun v w' => v = .int .i64 (cmpM x x1) ∧ Ext β w w' := by
 have ha := hx.1; have hp := hx.2; have ha1 := hx1.1; have hp1 := hx1.2
 refine Qz 49 func158 rfl rfl rfl ?_
 have hX : Ext β w w := Bel.refl _ _
 refine Qe (Qc ?_)
 refine QJ rfl (Q4 (v := .agg _) rfl) ?_
 intro b2 w1 x2 hge2 hb2
 replace hX := hX.ex x2
 refine QJ rfl (Q4 (v := .agg _) rfl) ?_
 intro b3 w3 x4 hge3 hb3
 replace hX := hX.ex x4
 replace hb2 := hb2.ext x4
 refine Rr Qm ?_
 refine Qd (Qe (Qe (Qc ?_)))
 refine Rr (Qx underlying119 rfl sizeOf9 rfl) ?_
 refine Rr (Qn isAgg9 rfl (hb2.at.get 0 rfl)) ?_
 refine Rr (Qx underlying119 rfl sizeOf9 rfl) ?_
 refine Rr (Qn isAgg9 rfl (hb3.at.get 0 rfl)) ?_
 refine Qo rfl (QM call176 rfl rfl) (Ok.mono (cmp_ok (β) _ _ _) ?_)
 rintro _ w5 ⟨rfl, x6⟩
 replace hX := hX.ex x6
 replace hb2 := hb2.ext x6
 replace hb3 := hb3.ext x6
 refine Rr (asI rfl) ?_
 refine Qd (Qe (Qc ?_))
 refine Rr (mvI rfl) ?_
 refine Rr (o_neq rfl rfl) ?_
 refine Qd ?_
 refine QD rfl (fun hc1 => ?_) (fun hc1 => ?_)
 ·refine Qe (Qc ?_)
  refine Rr (mvI rfl) ?_
  refine Rr (asI rfl) ?_
  refine Qd (Qy ?_)
  refine ⟨_, Qp rfl rfl, ?_⟩
  refine ⟨congrArg (Value.int .i64) ?_, hX⟩
  all_goals (rw [cmpM, if_pos hc1])
 refine Qu (Qe (Qc ?_))
 refine Rr (Qx underlying119 rfl sizeOf9 rfl) ?_
 refine Rr (Qn isAgg9 rfl (hb2.at.get 1 rfl)) ?_
 refine Rr (Qx underlying119 rfl sizeOf9 rfl) ?_
 refine Rr (Qn isAgg9 rfl (hb3.at.get 1 rfl)) ?_
 refine Qo rfl (QM call177 rfl rfl) (Ok.mono (pcompare_ok (β) _ _ (by first | assumption | omega | (simp; done) | (simp; omega) | (simp at *; omega)) (by first | assumption | omega | (simp; done) | (simp; omega) | (simp at *; omega)) _) ?_)
 rintro _ w7 ⟨rfl, x8⟩
 replace hX := hX.ex x8
 replace hb2 := hb2.ext x8
 replace hb3 := hb3.ext x8
 refine Rr (asI rfl) ?_
 refine Qd (Qe (Qe (Qc ?_)))
 refine Rr (Qx underlying119 rfl sizeOf9 rfl) ?_
 refine Rr (Qn isAgg9 rfl (hb2.at.get 1 rfl)) ?_
 refine Qo rfl (QA call146 rfl) (Ok.mono (pvalid_ok (β) _ (by first | assumption | omega | (simp; done) | (simp; omega) | (simp at *; omega)) _) ?_)
 rintro _ w9 ⟨rfl, x10⟩
 replace hX := hX.ex x10
 replace hb2 := hb2.ext x10
 replace hb3 := hb3.ext x10
 refine Rr (Q5 rfl) ?_
 refine Rr (mvB rfl) ?_
 refine Qq 4 24 rfl rfl rfl (fun hg => (Qx underlying119 rfl sizeOf9 rfl)) ?_
 refine Qq 4 24 rfl rfl rfl (fun hg => (Qn isAgg9 (QE (u := undef) hg) (hb3.at.get 1 rfl))) ?_
 refine Rg_mayCall 4 24 rfl rfl rfl (fun hg => ⟨(QA call146 (QE (u := undef) hg)), pvalid_ok (β) _ (by first | assumption | omega | (simp; done) | (simp; omega) | (simp at *; omega)) _⟩) ?_
 intro w11 x12
 replace hX := hX.ex x12
 replace hb2 := hb2.ext x12
 replace hb3 := hb3.ext x12
 refine Qq 4 24 rfl rfl rfl (fun hg => (Q5 (QE (u := undef) hg))) ?_
 refine Rr (o_or (u := undef) rfl rfl) ?_
 refine Qd ?_
 refine QD rfl (fun hc2 => ?_) (fun hc2 => ?_)
 ·refine Qc ?_
  refine Rr (Qx underlying119 rfl sizeOf9 rfl) ?_
  refine Rr (Qn isAgg9 rfl (hb2.at.get 1 rfl)) ?_
  refine Rr (Qx underlying119 rfl sizeOf9 rfl) ?_
  refine Rr (Qn isAgg9 rfl (hb3.at.get 1 rfl)) ?_
  refine Qo rfl (QM call176 rfl rfl) (Ok.mono (cmp_ok (β) _ _ _) ?_)
  rintro _ w13 ⟨rfl, x14⟩
  replace hX := hX.ex x14
  replace hb2 := hb2.ext x14
  replace hb3 := hb3.ext x14
  refine Rr (asI rfl) ?_
  refine Qd (Qe (QB (Qe (Qc ?_))))
  refine Rr (mvI rfl) ?_
  refine Rr (o_neq rfl rfl) ?_
  refine Rr (mvB rfl) ?_
  refine Qq 2 38 rfl rfl rfl (fun hg => (Qx underlying119 rfl sizeOf4 rfl)) ?_
  refine Qq 2 38 rfl rfl rfl (fun hg => (Qn isAgg4 (QE (u := undef) hg) (hb2.at.get 2 rfl))) ?_
  refine Qq 2 38 rfl rfl rfl (fun hg => (Qx underlying119 rfl sizeOf4 rfl)) ?_
  refine Qq 2 38 rfl rfl rfl (fun hg => (Qn isAgg4 (QE (u := undef) hg) (hb3.at.get 2 rfl))) ?_
  refine Qq 2 38 rfl rfl rfl (fun hg => (o_beql underlying4 (QE (u := undef) hg) (QE (u := undef) hg))) ?_
  refine Rr (o_or (u := undef) rfl rfl) ?_
  refine Rr (asB rfl) ?_
  refine Qd ?_
  refine QD rfl (fun hc3 => ?_) (fun hc3 => ?_)
  ·refine Qe (Qc ?_)
   refine Rr (mvI rfl) ?_
   refine Rr (asI rfl) ?_
   refine Qd (Qy ?_)
   refine ⟨_, Qp rfl rfl, ?_⟩
   refine ⟨congrArg (Value.int .i64) ?_, hX⟩
   all_goals (rw [cmpM, if_neg (by rw [hc1]; simp)]; simp only [hc2, if_true]; rw [if_pos hc3])
  refine Qe (Qc ?_)
  refine Rr (Qx underlying119 rfl sizeOf4 rfl) ?_
  refine Rr (Qn isAgg4 rfl (hb3.at.get 2 rfl)) ?_
  refine Rr (asB rfl) ?_
  refine Qd ?_
  refine QD rfl (fun hc4 => ?_) (fun hc4 => ?_)
  ·refine Qe (Qc ?_)
   refine Rr Qm ?_
   refine Qd (Qy ?_)
   refine ⟨_, Qp rfl rfl, ?_⟩
   refine ⟨congrArg (Value.int .i64) ?_, hX⟩
   all_goals (rw [cmpM, if_neg (by rw [hc1]; simp)]; simp only [hc2, if_true]; rw [if_neg (by rw [hc3]; simp), if_pos hc4])
  refine Qu (Qe (Qc ?_))
  refine Rr Qm ?_
  refine Qd (Qy ?_)
  refine ⟨_, Qp rfl rfl, ?_⟩
  refine ⟨congrArg (Value.int .i64) ?_, hX⟩
  all_goals (rw [cmpM, if_neg (by rw [hc1]; simp)]; simp only [hc2, if_true]; rw [if_neg (by rw [hc3]; simp), if_neg (by rw [hc4]; simp)])
 refine Qu (Qe (QB (Qe (Qc ?_))))
 refine Rr (mvI rfl) ?_
 refine Rr (o_neq rfl rfl) ?_
 refine Rr (mvB rfl) ?_
 refine Qq 2 38 rfl rfl rfl (fun hg => (Qx underlying119 rfl sizeOf4 rfl)) ?_
 refine Qq 2 38 rfl rfl rfl (fun hg => (Qn isAgg4 (QE (u := undef) hg) (hb2.at.get 2 rfl))) ?_
 refine Qq 2 38 rfl rfl rfl (fun hg => (Qx underlying119 rfl sizeOf4 rfl)) ?_
 refine Qq 2 38 rfl rfl rfl (fun hg => (Qn isAgg4 (QE (u := undef) hg) (hb3.at.get 2 rfl))) ?_
 refine Qq 2 38 rfl rfl rfl (fun hg => (o_beql underlying4 (QE (u := undef) hg) (QE (u := undef) hg))) ?_
 refine Rr (o_or (u := undef) rfl rfl) ?_
 refine Rr (asB rfl) ?_
 refine Qd ?_
 refine QD rfl (fun hc5 => ?_) (fun hc5 => ?_)
 ·refine Qe (Qc ?_)
  refine Rr (mvI rfl) ?_
  refine Rr (asI rfl) ?_
  refine Qd (Qy ?_)
  refine ⟨_, Qp rfl rfl, ?_⟩
  refine ⟨congrArg (Value.int .i64) ?_, hX⟩
  all_goals (rw [cmpM, if_neg (by rw [hc1]; simp)]; simp only [hc2, Bool.false_eq_true, if_false]; rw [if_pos hc5])
 refine Qe (Qc ?_)
 refine Rr (Qx underlying119 rfl sizeOf4 rfl) ?_
 refine Rr (Qn isAgg4 rfl (hb3.at.get 2 rfl)) ?_
 refine Rr (asB rfl) ?_
 refine Qd ?_
 refine QD rfl (fun hc6 => ?_) (fun hc6 => ?_)
 ·refine Qe (Qc ?_)
  refine Rr Qm ?_
  refine Qd (Qy ?_)
  refine ⟨_, Qp rfl rfl, ?_⟩
  refine ⟨congrArg (Value.int .i64) ?_, hX⟩
  all_goals (rw [cmpM, if_neg (by rw [hc1]; simp)]; simp only [hc2, Bool.false_eq_true, if_false]; rw [if_neg (by rw [hc5]; simp), if_pos hc6])
 refine Qu (Qe (Qc ?_))
 refine Rr Qm ?_
 refine Qd (Qy ?_)
 refine ⟨_, Qp rfl rfl, ?_⟩
 refine ⟨congrArg (Value.int .i64) ?_, hX⟩
 all_goals (rw [cmpM, if_neg (by rw [hc1]; simp)]; simp only [hc2, Bool.false_eq_true, if_false]; rw [if_neg (by rw [hc5]; simp), if_neg (by rw [hc6]; simp)])

