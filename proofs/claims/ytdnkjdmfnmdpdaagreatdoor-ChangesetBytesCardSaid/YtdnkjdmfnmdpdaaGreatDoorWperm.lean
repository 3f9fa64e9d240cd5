/- Walks: what functions return. -/
import Derived.Test.YtdnkjdmfnmdpdaaGreatDoorWname
import Derived.Test.YtdnkjdmfnmdpdaaGreatDoorPure11
set_option linter.unusedVariables false
set_option linter.unusedSimpArgs false
set_option linter.unnecessarySimpa false
namespace Go.Proofs.YtdnkjdmfnmdpdaaGreatDoor
open Go Go.Lx Go.RowKit Tryz
set_option maxRecDepth 100000
theorem check_ok (β : Prop) (x : Perm) (hx : x.ok) (w : World) : Ok Tryz.prog 51 #[.agg (encP x).toArray] w fun v w' => v = .int .i64 (checkS x) ∧ Ext β w w' := by
 have ha := hx.1; have hp := hx.2
 refine ZQ 21 func51 rfl rfl rfl ?_
 have hX : Ext β w w := Bel.refl _ _
 refine QH (Qc ?_)
 refine Z2 rfl (JB (v := .agg _) rfl) ?_
 intro b1 w1 x2 hge1 hb1
 replace hX := hX.ex x2
 refine Rr Zi ?_
 refine Qg (QH (ZM (QH (Qc ?_))))
 refine Rr (ZN underlying48 rfl sizeOf9 rfl) ?_
 refine Rr (ZB isAgg9 rfl (hb1.at.get 0 rfl)) ?_
 refine ZC rfl (ZK call103 rfl) (Ok.mono (name_ok (β) _ (by first | assumption | omega | (simp; done) | (simp; omega) | (simp at *; omega)) _) ?_)
 rintro _ w3 ⟨rfl, x4⟩
 replace hX := hX.ex x4
 replace hb1 := hb1.ext x4
 refine Rr (Jf rfl) ?_
 refine Rr (asB rfl) ?_
 refine Qg ?_
 refine ZG rfl (fun hc1 => ?_) (fun hc1 => ?_)
 ·refine QH (Qc ?_)
  refine Rr Zi ?_
  refine Qg (ZJ ?_)
  refine ⟨_, ZF rfl rfl, ?_⟩
  refine ⟨congrArg (Value.int .i64) ?_, hX⟩
  all_goals (rw [checkS, if_pos hc1])
 refine QH (QH (Qc ?_))
 refine Rr (ZN underlying48 rfl sizeOf9 rfl) ?_
 refine Rr (ZB isAgg9 rfl (hb1.at.get 1 rfl)) ?_
 refine ZC rfl (ZK call104 rfl) (Ok.mono (pvalid_ok (β) _ (by first | assumption | omega | (simp; done) | (simp; omega) | (simp at *; omega)) _) ?_)
 rintro _ w5 ⟨rfl, x6⟩
 replace hX := hX.ex x6
 replace hb1 := hb1.ext x6
 refine Rr (Jf rfl) ?_
 refine Rr (asB rfl) ?_
 refine Qg ?_
 refine ZG rfl (fun hc2 => ?_) (fun hc2 => ?_)
 ·refine ZH ?_
  refine ZG rfl (fun hc3 => ?_) (fun hc3 => ?_)
  ·refine QH (Qc ?_)
   refine Rr Zi ?_
   refine Qg (ZJ ?_)
   refine ⟨_, ZF rfl rfl, ?_⟩
   refine ⟨congrArg (Value.int .i64) ?_, hX⟩
   all_goals (rw [checkS, if_neg (by rw [hc1]; simp), if_pos (by rw [hc2]; rfl)])
  refine ZH (QH (Qc ?_))
  refine Rr Zi ?_
  refine Qg (ZJ ?_)
  refine ⟨_, ZF rfl rfl, ?_⟩
  refine ⟨congrArg (Value.int .i64) ?_, hX⟩
  all_goals (rw [hc2] at hc3; cases hc3)
 refine Qc ?_
 refine Rr (ZN underlying48 rfl sizeOf4 rfl) ?_
 refine Rr (ZB isAgg4 rfl (hb1.at.get 2 rfl)) ?_
 refine Rr (mvB rfl) ?_
 refine ZI 2 15 rfl rfl rfl (fun hg => (ZN underlying48 rfl sizeOf9 rfl)) ?_
 refine ZI 2 15 rfl rfl rfl (fun hg => (ZB isAgg9 (ZU (u := undef) hg) (hb1.at.get 1 rfl))) ?_
 refine JQ 2 15 rfl rfl rfl (fun hg => ⟨(ZK call105 (ZU (u := undef) hg)), depth_ok (β) _ (by first | assumption | omega | (simp; done) | (simp; omega) | (simp at *; omega)) _⟩) ?_
 intro w7 x8
 replace hX := hX.ex x8
 refine ZI 2 15 rfl rfl rfl (fun hg => (ZZ (ZU (u := undef) hg) rfl)) ?_
 refine Rr (Jq (u := undef) rfl rfl) ?_
 refine Rr (asB rfl) ?_
 refine Qg ?_
 refine ZG rfl (fun hc4 => ?_) (fun hc4 => ?_)
 ·refine QH (Qc ?_)
  refine Rr Zi ?_
  refine Qg (ZJ ?_)
  refine ⟨_, ZF rfl rfl, ?_⟩
  refine ⟨congrArg (Value.int .i64) ?_, hX⟩
  all_goals (rw [checkS, if_neg (by rw [hc1]; simp), if_pos (by rw [hc2, hc4]; rfl)])
 refine ZH (QH (Qc ?_))
 refine Rr Zi ?_
 refine Qg (ZJ ?_)
 refine ⟨_, ZF rfl rfl, ?_⟩
 refine ⟨congrArg (Value.int .i64) ?_, hX⟩
 all_goals (rw [checkS, if_neg (by rw [hc1]; simp), if_neg (by rw [hc2, hc4]; simp)])

theorem pmcompare_ok (β : Prop) (x : Perm) (hx : x.ok) (x1 : Perm) (hx1 : x1.ok) (w : World) : Ok Tryz.prog 112 #[.agg (encP x).toArray, .agg (encP x1).toArray] w fun v w' => v = .int .i64 (cmpM x x1) ∧ Ext β w w' := by
 have ha := hx.1; have hp := hx.2; have ha1 := hx1.1; have hp1 := hx1.2
 refine ZQ 49 func112 rfl rfl rfl ?_
 have hX : Ext β w w := Bel.refl _ _
 refine QH (Qc ?_)
 refine Z2 rfl (JB (v := .agg _) rfl) ?_
 intro b2 w1 x2 hge2 hb2
 replace hX := hX.ex x2
 refine Z2 rfl (JB (v := .agg _) rfl) ?_
 intro b3 w3 x4 hge3 hb3
 replace hX := hX.ex x4
 replace hb2 := hb2.ext x4
 refine Rr Zi ?_
 refine Qg (QH (QH (Qc ?_)))
 refine Rr (ZN underlying48 rfl sizeOf9 rfl) ?_
 refine Rr (ZB isAgg9 rfl (hb2.at.get 0 rfl)) ?_
 refine Rr (ZN underlying48 rfl sizeOf9 rfl) ?_
 refine Rr (ZB isAgg9 rfl (hb3.at.get 0 rfl)) ?_
 refine ZC rfl (ZW call156 rfl rfl) (Ok.mono (cmp_ok (β) _ _ _) ?_)
 rintro _ w5 ⟨rfl, x6⟩
 replace hX := hX.ex x6
 replace hb2 := hb2.ext x6
 replace hb3 := hb3.ext x6
 refine Rr (asI rfl) ?_
 refine Qg (QH (Qc ?_))
 refine Rr (mvI rfl) ?_
 refine Rr (JD rfl rfl) ?_
 refine Qg ?_
 refine ZG rfl (fun hc1 => ?_) (fun hc1 => ?_)
 ·refine QH (Qc ?_)
  refine Rr (mvI rfl) ?_
  refine Rr (asI rfl) ?_
  refine Qg (ZJ ?_)
  refine ⟨_, ZF rfl rfl, ?_⟩
  refine ⟨congrArg (Value.int .i64) ?_, hX⟩
  all_goals (rw [cmpM, if_pos hc1])
 refine ZH (QH (Qc ?_))
 refine Rr (ZN underlying48 rfl sizeOf9 rfl) ?_
 refine Rr (ZB isAgg9 rfl (hb2.at.get 1 rfl)) ?_
 refine Rr (ZN underlying48 rfl sizeOf9 rfl) ?_
 refine Rr (ZB isAgg9 rfl (hb3.at.get 1 rfl)) ?_
 refine ZC rfl (ZW call157 rfl rfl) (Ok.mono (pcompare_ok (β) _ _ (by first | assumption | omega | (simp; done) | (simp; omega) | (simp at *; omega)) (by first | assumption | omega | (simp; done) | (simp; omega) | (simp at *; omega)) _) ?_)
 rintro _ w7 ⟨rfl, x8⟩
 replace hX := hX.ex x8
 replace hb2 := hb2.ext x8
 replace hb3 := hb3.ext x8
 refine Rr (asI rfl) ?_
 refine Qg (QH (QH (Qc ?_)))
 refine Rr (ZN underlying48 rfl sizeOf9 rfl) ?_
 refine Rr (ZB isAgg9 rfl (hb2.at.get 1 rfl)) ?_
 refine ZC rfl (ZK call104 rfl) (Ok.mono (pvalid_ok (β) _ (by first | assumption | omega | (simp; done) | (simp; omega) | (simp at *; omega)) _) ?_)
 rintro _ w9 ⟨rfl, x10⟩
 replace hX := hX.ex x10
 replace hb2 := hb2.ext x10
 replace hb3 := hb3.ext x10
 refine Rr (Jf rfl) ?_
 refine Rr (mvB rfl) ?_
 refine ZI 4 24 rfl rfl rfl (fun hg => (ZN underlying48 rfl sizeOf9 rfl)) ?_
 refine ZI 4 24 rfl rfl rfl (fun hg => (ZB isAgg9 (ZU (u := undef) hg) (hb3.at.get 1 rfl))) ?_
 refine JQ 4 24 rfl rfl rfl (fun hg => ⟨(ZK call104 (ZU (u := undef) hg)), pvalid_ok (β) _ (by first | assumption | omega | (simp; done) | (simp; omega) | (simp at *; omega)) _⟩) ?_
 intro w11 x12
 replace hX := hX.ex x12
 replace hb2 := hb2.ext x12
 replace hb3 := hb3.ext x12
 refine ZI 4 24 rfl rfl rfl (fun hg => (Jf (ZU (u := undef) hg))) ?_
 refine Rr (JP (u := undef) rfl rfl) ?_
 refine Qg ?_
 refine ZG rfl (fun hc2 => ?_) (fun hc2 => ?_)
 ·refine Qc ?_
  refine Rr (ZN underlying48 rfl sizeOf9 rfl) ?_
  refine Rr (ZB isAgg9 rfl (hb2.at.get 1 rfl)) ?_
  refine Rr (ZN underlying48 rfl sizeOf9 rfl) ?_
  refine Rr (ZB isAgg9 rfl (hb3.at.get 1 rfl)) ?_
  refine ZC rfl (ZW call156 rfl rfl) (Ok.mono (cmp_ok (β) _ _ _) ?_)
  rintro _ w13 ⟨rfl, x14⟩
  replace hX := hX.ex x14
  replace hb2 := hb2.ext x14
  replace hb3 := hb3.ext x14
  refine Rr (asI rfl) ?_
  refine Qg (QH (ZM (QH (Qc ?_))))
  refine Rr (mvI rfl) ?_
  refine Rr (JD rfl rfl) ?_
  refine Rr (mvB rfl) ?_
  refine ZI 2 38 rfl rfl rfl (fun hg => (ZN underlying48 rfl sizeOf4 rfl)) ?_
  refine ZI 2 38 rfl rfl rfl (fun hg => (ZB isAgg4 (ZU (u := undef) hg) (hb2.at.get 2 rfl))) ?_
  refine ZI 2 38 rfl rfl rfl (fun hg => (ZN underlying48 rfl sizeOf4 rfl)) ?_
  refine ZI 2 38 rfl rfl rfl (fun hg => (ZB isAgg4 (ZU (u := undef) hg) (hb3.at.get 2 rfl))) ?_
  refine ZI 2 38 rfl rfl rfl (fun hg => (o_beql underlying4 (ZU (u := undef) hg) (ZU (u := undef) hg))) ?_
  refine Rr (JP (u := undef) rfl rfl) ?_
  refine Rr (asB rfl) ?_
  refine Qg ?_
  refine ZG rfl (fun hc3 => ?_) (fun hc3 => ?_)
  ·refine QH (Qc ?_)
   refine Rr (mvI rfl) ?_
   refine Rr (asI rfl) ?_
   refine Qg (ZJ ?_)
   refine ⟨_, ZF rfl rfl, ?_⟩
   refine ⟨congrArg (Value.int .i64) ?_, hX⟩
   all_goals (rw [cmpM, if_neg (by rw [hc1]; simp)]; simp only [hc2, if_true]; rw [if_pos hc3])
  refine QH (Qc ?_)
  refine Rr (ZN underlying48 rfl sizeOf4 rfl) ?_
  refine Rr (ZB isAgg4 rfl (hb3.at.get 2 rfl)) ?_
  refine Rr (asB rfl) ?_
  refine Qg ?_
  refine ZG rfl (fun hc4 => ?_) (fun hc4 => ?_)
  ·refine QH (Qc ?_)
   refine Rr Zi ?_
   refine Qg (ZJ ?_)
   refine ⟨_, ZF rfl rfl, ?_⟩
   refine ⟨congrArg (Value.int .i64) ?_, hX⟩
   all_goals (rw [cmpM, if_neg (by rw [hc1]; simp)]; simp only [hc2, if_true]; rw [if_neg (by rw [hc3]; simp), if_pos hc4])
  refine ZH (QH (Qc ?_))
  refine Rr Zi ?_
  refine Qg (ZJ ?_)
  refine ⟨_, ZF rfl rfl, ?_⟩
  refine ⟨congrArg (Value.int .i64) ?_, hX⟩
  all_goals (rw [cmpM, if_neg (by rw [hc1]; simp)]; simp only [hc2, if_true]; rw [if_neg (by rw [hc3]; simp), if_neg (by rw [hc4]; simp)])
 refine ZH (QH (ZM (QH (Qc ?_))))
 refine Rr (mvI rfl) ?_
 refine Rr (JD rfl rfl) ?_
 refine Rr (mvB rfl) ?_
 refine ZI 2 38 rfl rfl rfl (fun hg => (ZN underlying48 rfl sizeOf4 rfl)) ?_
 refine ZI 2 38 rfl rfl rfl (fun hg => (ZB isAgg4 (ZU (u := undef) hg) (hb2.at.get 2 rfl))) ?_
 refine ZI 2 38 rfl rfl rfl (fun hg => (ZN underlying48 rfl sizeOf4 rfl)) ?_
 refine ZI 2 38 rfl rfl rfl (fun hg => (ZB isAgg4 (ZU (u := undef) hg) (hb3.at.get 2 rfl))) ?_
 refine ZI 2 38 rfl rfl rfl (fun hg => (o_beql underlying4 (ZU (u := undef) hg) (ZU (u := undef) hg))) ?_
 refine Rr (JP (u := undef) rfl rfl) ?_
 refine Rr (asB rfl) ?_
 refine Qg ?_
 refine ZG rfl (fun hc5 => ?_) (fun hc5 => ?_)
 ·refine QH (Qc ?_)
  refine Rr (mvI rfl) ?_
  refine Rr (asI rfl) ?_
  refine Qg (ZJ ?_)
  refine ⟨_, ZF rfl rfl, ?_⟩
  refine ⟨congrArg (Value.int .i64) ?_, hX⟩
  all_goals (rw [cmpM, if_neg (by rw [hc1]; simp)]; simp only [hc2, Bool.false_eq_true, if_false]; rw [if_pos hc5])
 refine QH (Qc ?_)
 refine Rr (ZN underlying48 rfl sizeOf4 rfl) ?_
 refine Rr (ZB isAgg4 rfl (hb3.at.get 2 rfl)) ?_
 refine Rr (asB rfl) ?_
 refine Qg ?_
 refine ZG rfl (fun hc6 => ?_) (fun hc6 => ?_)
 ·refine QH (Qc ?_)
  refine Rr Zi ?_
  refine Qg (ZJ ?_)
  refine ⟨_, ZF rfl rfl, ?_⟩
  refine ⟨congrArg (Value.int .i64) ?_, hX⟩
  all_goals (rw [cmpM, if_neg (by rw [hc1]; simp)]; simp only [hc2, Bool.false_eq_true, if_false]; rw [if_neg (by rw [hc5]; simp), if_pos hc6])
 refine ZH (QH (Qc ?_))
 refine Rr Zi ?_
 refine Qg (ZJ ?_)
 refine ⟨_, ZF rfl rfl, ?_⟩
 refine ⟨congrArg (Value.int .i64) ?_, hX⟩
 all_goals (rw [cmpM, if_neg (by rw [hc1]; simp)]; simp only [hc2, Bool.false_eq_true, if_false]; rw [if_neg (by rw [hc5]; simp), if_neg (by rw [hc6]; simp)])

