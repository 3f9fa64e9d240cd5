/- Walks: what functions return. -/
import Derived.Test.YtgmpgfokblehdaaGreatDoorWpath
set_option linter.unusedVariables false
set_option linter.unusedSimpArgs false
set_option linter.unnecessarySimpa false
namespace Go.Proofs.YtgmpgfokblehdaaGreatDoor
open Go Go.Lx Go.RowKit Tryz
set_option maxRecDepth 100000
theorem common_ok (β : Prop) (a b : Option Addr) (c d : Nat) (A B : Nat → Prop) (x y : List Str) (w : World) (hx : Sl encS 1 A w a c x) (hy : Sl encS 1 B w b d y) : Ok Tryz.prog 182 #[.slice a x.length c, .slice b y.length d] w fun v w' => v = .int .i64 (commonS x y : Nat) ∧ Ext β w w' := by
 have hlx := hx.len; have hly := hy.len
 refine Qv 30 func182 rfl rfl rfl ?_
 have hX : Ext β w w := Bel.refl _ _
 refine Qf (Qb (Rr Qj (Qc (Qf (Qb (Rr Qj (Qc (Qf (Qt ?_)))))))))
 refine QU (α := Nat) [(5, 28)] (fun k => [(5, .int .i64 (k : Int))]) (fun k w' => (k ≤ x.length ∧ k ≤ y.length ∧ (∀ i, i < k → x[i]? = y[i]?)) ∧ Ext β w w') (fun k => x.length - k) 0 ⟨rfl, trivial⟩ ⟨⟨by omega, by omega, fun i hi => absurd hi (Nat.not_lt_zero _)⟩, Bel.refl _ _⟩ ?_
 rintro k fb3 w2 ⟨hk, hXL1⟩
 replace hX := hX.ex hXL1
 replace hx := hx.ext hXL1
 replace hy := hy.ext hXL1
 refine Qf (Qf ?_)
 apply Q3 (β := β) [peq _, peq _, peq _, peq _, peq _, peq _, peq _, peq _, peq _, peq _, peq _, peq _, peq _, peq _, peq _, peq _, peq _, peq _, peq _, peq _, peq _] 21 QV (by kernel_rfl) rfl ⟨Qd _, Qd _, Qd _, Qd _, Qd _, Qd _, Qd _, Qd _, Qd _, Qd _, Qd _, Qd _, Qd _, Qd _, Qd _, Qd _, Qd _, Qd _, Qd _, Qd _, Qd _, trivial⟩ ?ob2 ?fin2
 case ob2 =>
  refine Qg (fun _ _ => Qe (Qn rfl (mvI rfl))) (Qg (fun _ _ => Qe (Qn rfl (mvS rfl))) (Qg (fun _ _ => Qa (Qe (Qn rfl (QC underlying23 rfl)))) (Qg (fun _ _ => Qa (Qa (Qe (Qn rfl (QM rfl rfl))))) (Qg (fun _ _ => Qa (Qe (Qn rfl (mvB rfl)))) (Qg (fun _ _ => Qa (Qe (Zs 4 10 rfl rfl (fun hg => mvI rfl)))) (Qg (fun _ _ => Qa (Qe (Zs 4 10 rfl rfl (fun hg => mvS rfl)))) (Qg (fun _ _ => Qa (Qa (Qe (Zs 4 10 rfl rfl (fun hg => QC underlying23 (QK (u := undef) hg)))))) (Qg (fun _ _ => Qa (Qa (Qa (Qe (Zs 4 10 rfl rfl (fun hg => QM (QK (u := undef) hg) (QK (u := undef) hg))))))) (Qg (fun _ _ => Qa (Qa (Qe (Qn rfl (Zt (u := undef) rfl rfl))))) (Qg (fun _ _ => Qa (Qa (Qe (Qn rfl (mvB rfl))))) (Qg (fun _ _ => Qa (Qe (Zs 10 16 rfl rfl (fun hg => mvS rfl)))) (Qg (fun _ _ => Qa (Qe (Zs 10 16 rfl rfl (fun hg => mvI rfl)))) (Qg (fun w30 x31 => ?_) ?_)))))))))))))
  ·have hx := hx.ext x31
   exact Qa (Qa (Qa (Qe (Zs 10 16 rfl rfl (fun hg => QW underlying23 sizeOf9 hx (QK (u := undef) hg) (QK (u := undef) hg) (common_i hg))))))
  refine Qg (fun w32 x33 => ?_) ?_
  ·have hx := hx.ext x33
   exact Qa (Qa (Qe (Zs 10 16 rfl rfl (fun hg => Zx isAgg9 hx rfl (QK (u := undef) hg) (Ze [] (common_i hg)) rfl))))
  refine Qg (fun _ _ => Qa (Qe (Zs 10 16 rfl rfl (fun hg => mvS rfl)))) (Qg (fun _ _ => Qa (Qe (Zs 10 16 rfl rfl (fun hg => mvI rfl)))) (Qg (fun w38 x39 => ?_) ?_))
  ·have hy := hy.ext x39
   exact Qa (Qa (Qa (Qe (Zs 10 16 rfl rfl (fun hg => QW underlying23 sizeOf9 hy (QK (u := undef) hg) (QK (u := undef) hg) (common_j hg))))))
  refine Qg (fun w40 x41 => ?_) ?_
  ·have hy := hy.ext x41
   exact Qa (Qa (Qe (Zs 10 16 rfl rfl (fun hg => Zx isAgg9 hy rfl (QK (u := undef) hg) (Ze [] (common_j hg)) rfl))))
  exact Qg (fun _ _ => Qa (Qa (Qa (Qe (Zs 10 16 rfl rfl (fun hg => Z9 (QK (u := undef) hg) (QK (u := undef) hg))))))) (Qg (fun _ _ => Qa (Qa (Qe (Qn rfl (Zt (u := undef) rfl rfl))))) QR)
 case fin2 =>
  intro w46 x47
  replace hX := hX.ex x47
  replace hXL1 := Bel.ex hXL1 x47
  refine Qa (Qa (Qa (Qa (Qa (Qa (Qa (Qa (Qa (Qa (Qa (Qa (Qa (Qa (Qa (Qa (Qa (Qa (Qa (Qa (Qa (Qe (Qc (Qw rfl (fun hc1 => ?_) (fun hc1 => ?_))))))))))))))))))))))))
  ·refine Qp (Qt (Qb (Rr (mvI rfl) ?_)))
   refine Rr (QO rfl rfl (by have := common_lt hc1; unfold I64; omega)) ?_
   refine Rr (asI rfl) (Qc ⟨k + 1, ⟨sT, trivial⟩, oT, ⟨(common_next hk hc1), hXL1⟩, ?_⟩)
   ·have := common_lt hc1; omega
  refine QN (QI (Qf (Qb (Rr (mvI rfl) (Rr (asI rfl) (Qc (Qu ⟨_, Qr rfl rfl, ⟨congrArg (Value.int .i64) ?_, hX⟩⟩)))))))
  all_goals (exact congrArg Int.ofNat (common_end hk hc1).symm)
theorem within_ok (β : Prop) (p q : Str) (hp : p.length ≤ 1100000) (hq : q.length ≤ 1100000) (w : World) : Ok Tryz.prog 121 #[str p, str q] w fun v w' => v = .bool (withinS p q) ∧ Ext β w w' := by
 refine Qv 31 func121 rfl rfl rfl ?_
 have hX : Ext β w w := Bel.refl _ _
 refine Qf (Qb (Rr Qj (Qc (Qf (Qb (Rr (mvT rfl) ?_))))))
 refine Qo rfl (QD call119 rfl) (Ok.mono (JI (β) _ (by first | assumption | omega | (simp; done) | (simp; omega) | (simp at *; omega)) _) ?_)
 rintro _ w1 ⟨a11, c11, rfl, hs11, x2⟩
 replace hX := hX.ex x2
 refine Rr (QG (v := .tuple _) rfl) (Rr (QE rfl rfl) (Rr (QE rfl rfl) (Rr (asS rfl) (Rr (asB rfl) (Qc (Qf (Qb (Rr (mvT rfl) ?_))))))))
 refine Qo rfl (QD call119 rfl) (Ok.mono (JI (β) _ (by first | assumption | omega | (simp; done) | (simp; omega) | (simp at *; omega)) _) ?_)
 rintro _ w3 ⟨a16, c16, rfl, hs16, x4⟩
 replace hX := hX.ex x4
 replace hs11 := hs11.ext x4
 refine Rr (QG (v := .tuple _) rfl) (Rr (QE rfl rfl) (Rr (QE rfl rfl) (Rr (asS rfl) (Rr (asB rfl) (Qc (Qf (Qb (Rr (mvB rfl) (Rr (mvB rfl) (Qs 1 20 rfl rfl rfl (fun hg => mvB rfl) (Rr (Zt (u := undef) rfl rfl) (Rr (mvB rfl) (Qs 4 23 rfl rfl rfl (fun hg => mvS rfl) (Qs 4 23 rfl rfl rfl (fun hg => mvS rfl) (Zy 4 23 rfl rfl rfl (fun hg => ⟨(QB call182 (QK (u := undef) hg) (QK (u := undef) hg)), common_ok (β) _ _ _ _ _ _ _ _ _ hs11 hs16⟩) ?_)))))))))))))))
 intro w5 x6
 replace hX := hX.ex x6
 refine Qs 4 23 rfl rfl rfl (fun hg => mvS rfl) (Qs 4 23 rfl rfl rfl (fun hg => QC underlying23 (QK (u := undef) hg)) (Qs 4 23 rfl rfl rfl (fun hg => Zu (QK (u := undef) hg) (QK (u := undef) hg)) (Rr (Zt (u := undef) rfl rfl) (Rr (asB rfl) (Qc (Qu ⟨_, Qr rfl rfl, ⟨cvB ?_, hX⟩⟩))))))
 all_goals (rfl)
theorem scompare_ok (β : Prop) (a b : Option Addr) (c d : Nat) (A B : Nat → Prop) (x y : List Str) (w : World) (hx : Sl encS 1 A w a c x) (hy : Sl encS 1 B w b d y) : Ok Tryz.prog 202 #[.slice a x.length c, .slice b y.length d] w fun v w' => v = .int .i64 (cmpL x y) ∧ Ext β w w' := by
 have hlx := hx.len; have hly := hy.len
 refine Qv 36 func202 rfl rfl rfl ?_
 have hX : Ext β w w := Bel.refl _ _
 refine Qf (Qb (Rr Qj (Qc (Qf (Qf (Qb (Rr (mvS rfl) (Rr (QC underlying23 rfl) (Rr QP (Qc (Qt ?_)))))))))))
 refine QU (α := Nat) [(4, 8), (11, 30)] (fun k => [(11, .int .i64 (k : Int))]) (fun k w' => (k ≤ x.length ∧ k ≤ y.length ∧ cmpL x y = cmpL (x.drop k) (y.drop k)) ∧ Ext β w w') (fun k => x.length - k) 0 ⟨rfl, trivial⟩ ⟨⟨by omega, by omega, rfl⟩, Bel.refl _ _⟩ ?_
 rintro k fb3 w2 ⟨hk, hXL1⟩
 replace hX := hX.ex hXL1
 replace hx := hx.ext hXL1
 replace hy := hy.ext hXL1
 refine Qf (Qb (Rr (QM rfl rfl) (Qc (Qf (Qw rfl (fun hc1 => ?_) (fun hc1 => ?_))))))
 ·first | replace hc1 := dcT hc1 | replace hc1 := Zm hc1 | skip
  refine Qp (Qf (Qt (Qf (Qb (Rr (mvI rfl) (Rr (QW underlying23 sizeOf9 hx rfl rfl omg) (Rr (Zx isAgg9 hx rfl rfl (getElem?_of (by first | omega | assumption)) rfl) ?_)))))))
  refine Rr (asI rfl) (Rr (asT rfl) (Qc (Qf (Qf (Qb (Rr (mvI rfl) (Rr (mvS rfl) (Rr (QC underlying23 rfl) (Rr (ZU rfl rfl) (Qc (Qw rfl (fun hc2 => ?_) (fun hc2 => ?_))))))))))))
  ·first | replace hc2 := dcT hc2 | replace hc2 := Zm hc2 | skip
   refine Qf (Qb (Rr Qj (Qc (Qu ⟨_, Qr rfl rfl, ⟨congrArg (Value.int .i64) ?_, hX⟩⟩))))
   all_goals (rw [hk.2.2, cmpL_long (by omega) (by omega)])
  first | replace hc2 := dcF hc2 | replace hc2 := Zo hc2 | skip
  refine Qp (Qf (Qb (Rr (mvS rfl) (Rr (mvI rfl) (Rr (QW underlying23 sizeOf9 hy rfl rfl omg) (Rr (Zx isAgg9 hy rfl rfl (getElem?_of (by first | omega | assumption)) rfl) ?_))))))
  refine Rr (asT rfl) (Qc (Qf (Qb (Rr (mvT rfl) (Rr (mvT rfl) (Qo rfl (QB call154 rfl rfl) (Ok.mono (cmp_ok (β) _ _ _) ?_)))))))
  rintro _ w4 ⟨rfl, x5⟩
  replace hX := hX.ex x5
  replace hXL1 := Bel.ex hXL1 x5
  refine Rr (asI rfl) (Qc (Qf (Qb (Rr (mvI rfl) (Rr (Zv rfl rfl) (Qc (Qw rfl (fun hc3 => ?_) (fun hc3 => ?_))))))))
  ·first | replace hc3 := dcT hc3 | replace hc3 := Zm hc3 | skip
   refine Qf (Qb (Rr (mvI rfl) (Rr (asI rfl) (Qc (Qu ⟨_, Qr rfl rfl, ⟨congrArg (Value.int .i64) ?_, hX⟩⟩)))))
   all_goals (rw [hk.2.2, cmpL_ne (by omega) (by omega) hc3])
  first | replace hc3 := dcF hc3 | replace hc3 := Zo hc3 | skip
  refine Qp (Qb (Rr (QO rfl rfl omg) (Rr (mvI rfl) (Qc ⟨k + 1, ⟨sT, trivial⟩, oT, ⟨?_, hXL1⟩, ?_⟩))))
  ·exact ⟨by omega, by omega, by rw [hk.2.2, cmpL_step (by omega) (by omega) hc3]⟩
  ·omega
 first | replace hc1 := dcF hc1 | replace hc1 := Zo hc1 | skip
 refine QN (QI (Qf (Qf (Qb (Rr (mvS rfl) (Rr (QC underlying23 rfl) (Rr (mvS rfl) (Rr (QC underlying23 rfl) (Rr (QM rfl rfl) (Qc (Qw rfl (fun hc4 => ?_) (fun hc4 => ?_))))))))))))
 ·first | replace hc4 := dcT hc4 | replace hc4 := Zm hc4 | skip
  refine Qf (Qb (Rr Qj (Qc (Qu ⟨_, Qr rfl rfl, ⟨congrArg (Value.int .i64) ?_, hX⟩⟩))))
  all_goals (rw [hk.2.2, cmpL_short (by omega) (by omega)])
 first | replace hc4 := dcF hc4 | replace hc4 := Zo hc4 | skip
 refine Qp (Qf (Qb (Rr Qj (Qc (Qu ⟨_, Qr rfl rfl, ⟨congrArg (Value.int .i64) ?_, hX⟩⟩)))))
 all_goals (rw [hk.2.2, cmpL_both (by omega) (by omega)])
theorem pcompare_ok (β : Prop) (p q : Str) (hp : p.length ≤ 1100000) (hq : q.length ≤ 1100000) (w : World) : Ok Tryz.prog 155 #[str p, str q] w fun v w' => v = .int .i64 (cmpP p q) ∧ Ext β w w' := by
 refine Qv 34 func155 rfl rfl rfl ?_
 have hX : Ext β w w := Bel.refl _ _
 refine Qf (Qb (Rr Qj (Qc (Qf (Qb (Rr (mvT rfl) ?_))))))
 refine Qo rfl (QD call119 rfl) (Ok.mono (JI (β) _ (by first | assumption | omega | (simp; done) | (simp; omega) | (simp at *; omega)) _) ?_)
 rintro _ w1 ⟨a11, c11, rfl, hs11, x2⟩
 replace hX := hX.ex x2
 refine Rr (QG (v := .tuple _) rfl) (Rr (QE rfl rfl) (Rr (QE rfl rfl) (Rr (asS rfl) (Rr (asB rfl) (Qc (Qf (Qb (Rr (mvT rfl) ?_))))))))
 refine Qo rfl (QD call119 rfl) (Ok.mono (JI (β) _ (by first | assumption | omega | (simp; done) | (simp; omega) | (simp at *; omega)) _) ?_)
 rintro _ w3 ⟨a16, c16, rfl, hs16, x4⟩
 replace hX := hX.ex x4
 replace hs11 := hs11.ext x4
 refine Rr (QG (v := .tuple _) rfl) (Rr (QE rfl rfl) (Rr (QE rfl rfl) (Rr (asS rfl) (Rr (asB rfl) (Qc (Qf (Qt (Qf (Qb (Rr (mvB rfl) (Rr (mvB rfl) (Qs 1 21 rfl rfl rfl (fun hg => mvB rfl) (Rr (Zt (u := undef) rfl rfl) (Rr (asB rfl) (Qc (Qw rfl (fun hc1 => ?_) (fun hc1 => ?_)))))))))))))))))
 ·refine Qf (Qb (Rr (mvS rfl) (Rr (mvS rfl) (Qo rfl (QB call202 rfl rfl) (Ok.mono (scompare_ok (β) _ _ _ _ _ _ _ _ _ hs11 hs16) ?_)))))
  rintro _ w5 ⟨rfl, x6⟩
  replace hX := hX.ex x6
  refine Rr (asI rfl) (Qc (Qu ⟨_, Qr rfl rfl, ⟨congrArg (Value.int .i64) ?_, hX⟩⟩))
  all_goals (rw [cmpP, if_pos hc1])
 refine Qf (Qb (Rr (mvB rfl) (Rr (asB rfl) (Qc (Qw rfl (fun hc2 => ?_) (fun hc2 => ?_))))))
 ·refine Qf (Qb (Rr Qj (Qc (Qu ⟨_, Qr rfl rfl, ⟨congrArg (Value.int .i64) ?_, hX⟩⟩))))
  all_goals (rw [cmpP, if_neg (by rw [hc1]; simp), if_pos hc2])
 refine Qf (Qb (Rr (mvB rfl) (Rr (asB rfl) (Qc (Qw rfl (fun hc3 => ?_) (fun hc3 => ?_))))))
 ·refine Qf (Qb (Rr Qj (Qc (Qu ⟨_, Qr rfl rfl, ⟨congrArg (Value.int .i64) ?_, hX⟩⟩))))
  all_goals (rw [cmpP, if_neg (by rw [hc1]; simp), if_neg (by rw [hc2]; simp), if_pos hc3])
 refine Qp (Qf (Qb (Rr (mvT rfl) (Rr (mvT rfl) (Qo rfl (QB call154 rfl rfl) (Ok.mono (cmp_ok (β) _ _ _) ?_))))))
 rintro _ w7 ⟨rfl, x8⟩
 replace hX := hX.ex x8
 refine Rr (asI rfl) (Qc (Qu ⟨_, Qr rfl rfl, ⟨congrArg (Value.int .i64) ?_, hX⟩⟩))
 all_goals (rw [cmpP, if_neg (by rw [hc1]; simp), if_neg (by rw [hc2]; simp), if_neg (by rw [hc3]; simp)])
