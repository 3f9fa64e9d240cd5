/- Walks: what functions return. -/
import Derived.Test.YtgmpgfokblehdaaGreatDoorWref11c
set_option linter.unusedVariables false
set_option linter.unusedSimpArgs false
set_option linter.unnecessarySimpa false
namespace Go.Proofs.YtgmpgfokblehdaaGreatDoor
open Go Go.Lx Go.RowKit Tryz
set_option maxRecDepth 100000
theorem Vd (β : Prop) (x : Perm) (hx : x.ok) (w : World) : Ok Tryz.prog 45 #[.agg (encP x).toArray] w fun v w' => v = .int .i64 (checkS x) ∧ Ext β w w' := by
 have ha := hx.1; have hp := hx.2
 refine Qv 21 func45 rfl rfl rfl ?_
 have hX : Ext β w w := Bel.refl _ _
 refine Qf (Qb (QH rfl (QX (v := .agg _) rfl) ?_))
 intro b1 w1 x2 hge1 hb1
 replace hX := hX.ex x2
 refine Rr Qj (Qc (Qf (Qt (Qf (Qb (Rr (Qy underlying50 rfl sizeOf9 rfl) (Rr (Qm isAgg9 rfl (hb1.at.get 0 rfl)) ?_)))))))
 refine Qo rfl (QD call40 rfl) (Ok.mono (name_ok (β) _ (by first | assumption | omega | (simp; done) | (simp; omega) | (simp at *; omega)) _) ?_)
 rintro _ w3 ⟨rfl, x4⟩
 replace hX := hX.ex x4
 replace hb1 := hb1.ext x4
 refine Rr (Zp rfl) (Rr (asB rfl) (Qc (Qw rfl (fun hc1 => ?_) (fun hc1 => ?_))))
 ·refine Qf (Qb (Rr Qj (Qc (Qu ⟨_, Qr rfl rfl, ⟨congrArg (Value.int .i64) ?_, hX⟩⟩))))
  all_goals (rw [checkS, if_pos hc1])
 refine Qf (Qf (Qb (Rr (Qy underlying50 rfl sizeOf9 rfl) (Rr (Qm isAgg9 rfl (hb1.at.get 1 rfl)) ?_))))
 refine Qo rfl (QD call51 rfl) (Ok.mono (J1 (β) _ (by first | assumption | omega | (simp; done) | (simp; omega) | (simp at *; omega)) _) ?_)
 rintro _ w5 ⟨rfl, x6⟩
 replace hX := hX.ex x6
 replace hb1 := hb1.ext x6
 refine Rr (Zp rfl) (Rr (asB rfl) (Qc (Qw rfl (fun hc2 => ?_) (fun hc2 => ?_))))
 ·refine Qp (Qw rfl (fun hc3 => ?_) (fun hc3 => ?_))
  ·refine Qf (Qb (Rr Qj (Qc (Qu ⟨_, Qr rfl rfl, ⟨congrArg (Value.int .i64) ?_, hX⟩⟩))))
   all_goals (rw [checkS, if_neg (by rw [hc1]; simp), if_pos (by rw [hc2]; rfl)])
  refine Qp (Qf (Qb (Rr Qj (Qc (Qu ⟨_, Qr rfl rfl, ⟨congrArg (Value.int .i64) ?_, hX⟩⟩)))))
  all_goals (rw [hc2] at hc3; cases hc3)
 refine Qb (Rr (Qy underlying50 rfl sizeOf4 rfl) (Rr (Qm isAgg4 rfl (hb1.at.get 2 rfl)) (Rr (mvB rfl) (Qs 2 15 rfl rfl rfl (fun hg => Qy underlying50 rfl sizeOf9 rfl) (Qs 2 15 rfl rfl rfl (fun hg => Qm isAgg9 (QK (u := undef) hg) (hb1.at.get 1 rfl)) ?_)))))
 refine Zy 2 15 rfl rfl rfl (fun hg => ⟨(QD call94 (QK (u := undef) hg)), depth_ok (β) _ (by first | assumption | omega | (simp; done) | (simp; omega) | (simp at *; omega)) _⟩) ?_
 intro w7 x8
 replace hX := hX.ex x8
 refine Qs 2 15 rfl rfl rfl (fun hg => Zu (QK (u := undef) hg) rfl) (Rr (Zt (u := undef) rfl rfl) (Rr (asB rfl) (Qc (Qw rfl (fun hc4 => ?_) (fun hc4 => ?_)))))
 ·refine Qf (Qb (Rr Qj (Qc (Qu ⟨_, Qr rfl rfl, ⟨congrArg (Value.int .i64) ?_, hX⟩⟩))))
  all_goals (rw [checkS, if_neg (by rw [hc1]; simp), if_pos (by rw [hc2, hc4]; rfl)])
 refine Qp (Qf (Qb (Rr Qj (Qc (Qu ⟨_, Qr rfl rfl, ⟨congrArg (Value.int .i64) ?_, hX⟩⟩)))))
 all_goals (rw [checkS, if_neg (by rw [hc1]; simp), if_neg (by rw [hc2, hc4]; simp)])
theorem covers_ok (β : Prop) (x : Perm) (hx : x.ok) (act obj : Str) (hact : act.length ≤ 1100000) (hobj : obj.length ≤ 1100000) (w : World) : Ok Tryz.prog 54 #[.agg (encP x).toArray, str act, str obj] w fun v w' => v = .bool (coversS x act obj) ∧ Ext β w w' := by
 have ha := hx.1; have hp := hx.2
 refine Qv 35 func54 rfl rfl rfl ?_
 have hX : Ext β w w := Bel.refl _ _
 refine Qf (Qb (QH rfl (QX (v := .agg _) rfl) ?_))
 intro b3 w1 x2 hge3 hb3
 replace hX := hX.ex x2
 refine Rr Qj (Qc (Qf (Qf (Qb (Rr (QF isAgg50 sizeOf50 rfl hb3.at rfl) ?_)))))
 refine Qo rfl (QD call45 rfl) (Ok.mono (Vd (β) _ (by first | assumption | omega | (simp; done) | (simp; omega) | (simp at *; omega)) _) ?_)
 rintro _ w3 ⟨rfl, x4⟩
 replace hX := hX.ex x4
 replace hb3 := hb3.ext x4
 refine Rr (Zv rfl rfl) (Rr (mvB rfl) (Qs 3 10 rfl rfl rfl (fun hg => Qy underlying50 rfl sizeOf9 rfl) (Qs 3 10 rfl rfl rfl (fun hg => Qm isAgg9 (QK (u := undef) hg) (hb3.at.get 0 rfl)) (Qs 3 10 rfl rfl rfl (fun hg => mvT rfl) (Qs 3 10 rfl rfl rfl (fun hg => o_sneq (QK (u := undef) hg) (QK (u := undef) hg)) (Rr (ZS (u := undef) rfl rfl) (Rr (mvB rfl) (Qs 9 16 rfl rfl rfl (fun hg => mvT rfl) ?_))))))))
 refine Zy 9 16 rfl rfl rfl (fun hg => ⟨(QD call51 (QK (u := undef) hg)), J1 (β) _ (by first | assumption | omega | (simp; done) | (simp; omega) | (simp at *; omega)) _⟩) ?_
 intro w5 x6
 replace hX := hX.ex x6
 replace hb3 := hb3.ext x6
 refine Qs 9 16 rfl rfl rfl (fun hg => Zp (QK (u := undef) hg)) (Rr (ZS (u := undef) rfl rfl) (Qc (Qw rfl (fun hc1 => ?_) (fun hc1 => ?_))))
 ·refine Qf (Qb (Rr Qj (Qc (Qu ⟨_, Qr rfl rfl, ⟨cvB ?_, hX⟩⟩))))
  all_goals (rw [coversS, if_pos hc1])
 refine Qp (Qf (Qb (Rr (Qy underlying50 rfl sizeOf9 rfl) (Rr (Qm isAgg9 rfl (hb3.at.get 1 rfl)) (Rr (mvT rfl) (Rr (Z9 rfl rfl) (Rr (mvB rfl) (Qs 4 25 rfl rfl rfl (fun hg => Qy underlying50 rfl sizeOf4 rfl) (Qs 4 25 rfl rfl rfl (fun hg => Qm isAgg4 (QK (u := undef) hg) (hb3.at.get 2 rfl)) (Qs 4 25 rfl rfl rfl (fun hg => QG (v := .bool _) (QK (u := undef) hg)) (ZR 7 28 rfl rfl rfl (fun hg => mvT rfl) (ZR 7 28 rfl rfl rfl (fun hg => Qy underlying50 rfl sizeOf9 rfl) (ZR 7 28 rfl rfl rfl (fun hg => Qm isAgg9 (QK (u := undef) hg) (hb3.at.get 1 rfl)) ?_)))))))))))))
 refine Rg_mayCall2 7 28 rfl rfl rfl (fun hg => ⟨(QB call121 (QK (u := undef) hg) (QK (u := undef) hg)), within_ok (β) _ _ (by first | assumption | omega | (simp; done) | (simp; omega) | (simp at *; omega)) (by first | assumption | omega | (simp; done) | (simp; omega) | (simp at *; omega)) _⟩) ?_
 intro w7 x8
 replace hX := hX.ex x8
 refine Qs 4 25 rfl rfl rfl (fun hg => Zt (u := undef) (QK (u := undef) hg) (gand (u := undef) hg)) (Rr (ZS (u := undef) rfl rfl) (Rr (asB rfl) (Qc (Qu ⟨_, Qr rfl rfl, ⟨cvB ?_, hX⟩⟩))))
 all_goals (rw [coversS, if_neg (by rw [hc1]; simp)])
theorem implies_ok (β : Prop) (x : Perm) (hx : x.ok) (x1 : Perm) (hx1 : x1.ok) (w : World) : Ok Tryz.prog 176 #[.agg (encP x).toArray, .agg (encP x1).toArray] w fun v w' => v = .bool (impliesS x x1) ∧ Ext β w w' := by
 have ha := hx1.1; have hp := hx1.2
 refine Qv 25 func176 rfl rfl rfl ?_
 have hX : Ext β w w := Bel.refl _ _
 refine Qf (Qb (QH rfl (QX (v := .agg _) rfl) ?_))
 intro b2 w1 x2 hge2 hb2
 replace hX := hX.ex x2
 refine QH rfl (QX (v := .agg _) rfl) ?_
 intro b3 w3 x4 hge3 hb3
 replace hX := hX.ex x4
 replace hb2 := hb2.ext x4
 refine Rr Qj (Qc (Qf (Qb (Rr (QF isAgg50 sizeOf50 rfl hb3.at rfl) ?_))))
 refine Qo rfl (QD call45 rfl) (Ok.mono (Vd (β) _ (by first | assumption | omega | (simp; done) | (simp; omega) | (simp at *; omega)) _) ?_)
 rintro _ w5 ⟨rfl, x6⟩
 replace hX := hX.ex x6
 replace hb2 := hb2.ext x6
 replace hb3 := hb3.ext x6
 refine Rr (Zu rfl rfl) (Rr (mvB rfl) (Qs 3 8 rfl rfl rfl (fun hg => QF isAgg50 sizeOf50 rfl hb2.at rfl) (Qs 3 8 rfl rfl rfl (fun hg => Qy underlying50 rfl sizeOf9 rfl) (Qs 3 8 rfl rfl rfl (fun hg => Qm isAgg9 (QK (u := undef) hg) (hb3.at.get 0 rfl)) (Qs 3 8 rfl rfl rfl (fun hg => Qy underlying50 rfl sizeOf9 rfl) (Qs 3 8 rfl rfl rfl (fun hg => Qm isAgg9 (QK (u := undef) hg) (hb3.at.get 1 rfl)) ?_))))))
 refine Zy 3 8 rfl rfl rfl (fun hg => ⟨(Zg call54 (QK (u := undef) hg) (QK (u := undef) hg) (QK (u := undef) hg)), covers_ok (β) _ (by first | assumption | omega | (simp; done) | (simp; omega) | (simp at *; omega)) _ _ (by first | assumption | omega | (simp; done) | (simp; omega) | (simp at *; omega)) (by first | assumption | omega | (simp; done) | (simp; omega) | (simp at *; omega)) _⟩) ?_
 intro w7 x8
 replace hX := hX.ex x8
 replace hb2 := hb2.ext x8
 replace hb3 := hb3.ext x8
 refine Rr (Zt (u := undef) rfl rfl) (Rr (mvB rfl) (Qs 11 16 rfl rfl rfl (fun hg => Qy underlying50 rfl sizeOf4 rfl) (Qs 11 16 rfl rfl rfl (fun hg => Qm isAgg4 (QK (u := undef) hg) (hb2.at.get 2 rfl)) (Qs 11 16 rfl rfl rfl (fun hg => QG (v := .bool _) (QK (u := undef) hg)) (ZR 14 19 rfl rfl rfl (fun hg => Qy underlying50 rfl sizeOf4 rfl) (ZR 14 19 rfl rfl rfl (fun hg => Qm isAgg4 (QK (u := undef) hg) (hb3.at.get 2 rfl)) (ZR 14 19 rfl rfl rfl (fun hg => Zp (QK (u := undef) hg)) (Qs 11 16 rfl rfl rfl (fun hg => ZS (u := undef) (QK (u := undef) hg) (gand (u := undef) hg)) (Rr (Zt (u := undef) rfl rfl) (Rr (asB rfl) (Qc (Qu ⟨_, Qr rfl rfl, ⟨cvB ?_, hX⟩⟩))))))))))))
 all_goals (rfl)
theorem Vf (β : Prop) (x : Perm) (hx : x.ok) (x1 : Perm) (hx1 : x1.ok) (w : World) : Ok Tryz.prog 96 #[.agg (encP x).toArray, .agg (encP x1).toArray] w fun v w' => v = .int .i64 (cmpM x x1) ∧ Ext β w w' := by
 have ha := hx.1; have hp := hx.2; have ha1 := hx1.1; have hp1 := hx1.2
 refine Qv 49 func96 rfl rfl rfl ?_
 have hX : Ext β w w := Bel.refl _ _
 refine Qf (Qb (QH rfl (QX (v := .agg _) rfl) ?_))
 intro b2 w1 x2 hge2 hb2
 replace hX := hX.ex x2
 refine QH rfl (QX (v := .agg _) rfl) ?_
 intro b3 w3 x4 hge3 hb3
 replace hX := hX.ex x4
 replace hb2 := hb2.ext x4
 refine Rr Qj (Qc (Qf (Qf (Qb (Rr (Qy underlying50 rfl sizeOf9 rfl) (Rr (Qm isAgg9 rfl (hb2.at.get 0 rfl)) (Rr (Qy underlying50 rfl sizeOf9 rfl) (Rr (Qm isAgg9 rfl (hb3.at.get 0 rfl)) (Qo rfl (QB call154 rfl rfl) (Ok.mono (cmp_ok (β) _ _ _) ?_))))))))))
 rintro _ w5 ⟨rfl, x6⟩
 replace hX := hX.ex x6
 replace hb2 := hb2.ext x6
 replace hb3 := hb3.ext x6
 refine Rr (asI rfl) (Qc (Qf (Qb (Rr (mvI rfl) (Rr (Zv rfl rfl) (Qc (Qw rfl (fun hc1 => ?_) (fun hc1 => ?_))))))))
 ·refine Qf (Qb (Rr (mvI rfl) (Rr (asI rfl) (Qc (Qu ⟨_, Qr rfl rfl, ⟨congrArg (Value.int .i64) ?_, hX⟩⟩)))))
  all_goals (rw [cmpM, if_pos hc1])
 refine Qp (Qf (Qb (Rr (Qy underlying50 rfl sizeOf9 rfl) (Rr (Qm isAgg9 rfl (hb2.at.get 1 rfl)) (Rr (Qy underlying50 rfl sizeOf9 rfl) (Rr (Qm isAgg9 rfl (hb3.at.get 1 rfl)) ?_))))))
 refine Qo rfl (QB call155 rfl rfl) (Ok.mono (pcompare_ok (β) _ _ (by first | assumption | omega | (simp; done) | (simp; omega) | (simp at *; omega)) (by first | assumption | omega | (simp; done) | (simp; omega) | (simp at *; omega)) _) ?_)
 rintro _ w7 ⟨rfl, x8⟩
 replace hX := hX.ex x8
 replace hb2 := hb2.ext x8
 replace hb3 := hb3.ext x8
 refine Rr (asI rfl) (Qc (Qf (Qf (Qb (Rr (Qy underlying50 rfl sizeOf9 rfl) (Rr (Qm isAgg9 rfl (hb2.at.get 1 rfl)) ?_))))))
 refine Qo rfl (QD call51 rfl) (Ok.mono (J1 (β) _ (by first | assumption | omega | (simp; done) | (simp; omega) | (simp at *; omega)) _) ?_)
 rintro _ w9 ⟨rfl, x10⟩
 replace hX := hX.ex x10
 replace hb2 := hb2.ext x10
 replace hb3 := hb3.ext x10
 refine Rr (Zp rfl) (Rr (mvB rfl) (Qs 4 24 rfl rfl rfl (fun hg => Qy underlying50 rfl sizeOf9 rfl) (Qs 4 24 rfl rfl rfl (fun hg => Qm isAgg9 (QK (u := undef) hg) (hb3.at.get 1 rfl)) ?_)))
 refine Zy 4 24 rfl rfl rfl (fun hg => ⟨(QD call51 (QK (u := undef) hg)), J1 (β) _ (by first | assumption | omega | (simp; done) | (simp; omega) | (simp at *; omega)) _⟩) ?_
 intro w11 x12
 replace hX := hX.ex x12
 replace hb2 := hb2.ext x12
 replace hb3 := hb3.ext x12
 refine Qs 4 24 rfl rfl rfl (fun hg => Zp (QK (u := undef) hg)) (Rr (ZS (u := undef) rfl rfl) (Qc (Qw rfl (fun hc2 => ?_) (fun hc2 => ?_))))
 ·refine Qb (Rr (Qy underlying50 rfl sizeOf9 rfl) (Rr (Qm isAgg9 rfl (hb2.at.get 1 rfl)) (Rr (Qy underlying50 rfl sizeOf9 rfl) (Rr (Qm isAgg9 rfl (hb3.at.get 1 rfl)) (Qo rfl (QB call154 rfl rfl) (Ok.mono (cmp_ok (β) _ _ _) ?_))))))
  rintro _ w13 ⟨rfl, x14⟩
  replace hX := hX.ex x14
  replace hb2 := hb2.ext x14
  replace hb3 := hb3.ext x14
  refine Rr (asI rfl) (Qc (Qf (Qt (Qf (Qb (Rr (mvI rfl) (Rr (Zv rfl rfl) (Rr (mvB rfl) (Qs 2 38 rfl rfl rfl (fun hg => Qy underlying50 rfl sizeOf4 rfl) (Qs 2 38 rfl rfl rfl (fun hg => Qm isAgg4 (QK (u := undef) hg) (hb2.at.get 2 rfl)) (Qs 2 38 rfl rfl rfl (fun hg => Qy underlying50 rfl sizeOf4 rfl) (Qs 2 38 rfl rfl rfl (fun hg => Qm isAgg4 (QK (u := undef) hg) (hb3.at.get 2 rfl)) (Qs 2 38 rfl rfl rfl (fun hg => o_beql underlying4 (QK (u := undef) hg) (QK (u := undef) hg)) (Rr (ZS (u := undef) rfl rfl) (Rr (asB rfl) (Qc (Qw rfl (fun hc3 => ?_) (fun hc3 => ?_))))))))))))))))))
  ·refine Qf (Qb (Rr (mvI rfl) (Rr (asI rfl) (Qc (Qu ⟨_, Qr rfl rfl, ⟨congrArg (Value.int .i64) ?_, hX⟩⟩)))))
   all_goals (rw [cmpM, if_neg (by rw [hc1]; simp)]; simp only [hc2, if_true]; rw [if_pos hc3])
  refine Qf (Qb (Rr (Qy underlying50 rfl sizeOf4 rfl) (Rr (Qm isAgg4 rfl (hb3.at.get 2 rfl)) (Rr (asB rfl) (Qc (Qw rfl (fun hc4 => ?_) (fun hc4 => ?_)))))))
  ·refine Qf (Qb (Rr Qj (Qc (Qu ⟨_, Qr rfl rfl, ⟨congrArg (Value.int .i64) ?_, hX⟩⟩))))
   all_goals (rw [cmpM, if_neg (by rw [hc1]; simp)]; simp only [hc2, if_true]; rw [if_neg (by rw [hc3]; simp), if_pos hc4])
  refine Qp (Qf (Qb (Rr Qj (Qc (Qu ⟨_, Qr rfl rfl, ⟨congrArg (Value.int .i64) ?_, hX⟩⟩)))))
  all_goals (rw [cmpM, if_neg (by rw [hc1]; simp)]; simp only [hc2, if_true]; rw [if_neg (by rw [hc3]; simp), if_neg (by rw [hc4]; simp)])
 refine Qp (Qf (Qt (Qf (Qb (Rr (mvI rfl) (Rr (Zv rfl rfl) (Rr (mvB rfl) (Qs 2 38 rfl rfl rfl (fun hg => Qy underlying50 rfl sizeOf4 rfl) (Qs 2 38 rfl rfl rfl (fun hg => Qm isAgg4 (QK (u := undef) hg) (hb2.at.get 2 rfl)) (Qs 2 38 rfl rfl rfl (fun hg => Qy underlying50 rfl sizeOf4 rfl) (Qs 2 38 rfl rfl rfl (fun hg => Qm isAgg4 (QK (u := undef) hg) (hb3.at.get 2 rfl)) (Qs 2 38 rfl rfl rfl (fun hg => o_beql underlying4 (QK (u := undef) hg) (QK (u := undef) hg)) (Rr (ZS (u := undef) rfl rfl) (Rr (asB rfl) (Qc (Qw rfl (fun hc5 => ?_) (fun hc5 => ?_)))))))))))))))))
 ·refine Qf (Qb (Rr (mvI rfl) (Rr (asI rfl) (Qc (Qu ⟨_, Qr rfl rfl, ⟨congrArg (Value.int .i64) ?_, hX⟩⟩)))))
  all_goals (rw [cmpM, if_neg (by rw [hc1]; simp)]; simp only [hc2, Bool.false_eq_true, if_false]; rw [if_pos hc5])
 refine Qf (Qb (Rr (Qy underlying50 rfl sizeOf4 rfl) (Rr (Qm isAgg4 rfl (hb3.at.get 2 rfl)) (Rr (asB rfl) (Qc (Qw rfl (fun hc6 => ?_) (fun hc6 => ?_)))))))
 ·refine Qf (Qb (Rr Qj (Qc (Qu ⟨_, Qr rfl rfl, ⟨congrArg (Value.int .i64) ?_, hX⟩⟩))))
  all_goals (rw [cmpM, if_neg (by rw [hc1]; simp)]; simp only [hc2, Bool.false_eq_true, if_false]; rw [if_neg (by rw [hc5]; simp), if_pos hc6])
 refine Qp (Qf (Qb (Rr Qj (Qc (Qu ⟨_, Qr rfl rfl, ⟨congrArg (Value.int .i64) ?_, hX⟩⟩)))))
 all_goals (rw [cmpM, if_neg (by rw [hc1]; simp)]; simp only [hc2, Bool.false_eq_true, if_false]; rw [if_neg (by rw [hc5]; simp), if_neg (by rw [hc6]; simp)])
