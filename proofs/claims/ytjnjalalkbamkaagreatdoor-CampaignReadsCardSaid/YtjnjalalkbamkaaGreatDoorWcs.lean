/- Walks: what functions return. -/
import Derived.Test.YtjnjalalkbamkaaGreatDoorWct
import Derived.Test.YtjnjalalkbamkaaGreatDoorOwn2
import Derived.Test.YtjnjalalkbamkaaGreatDoorDrawC
import Derived.Test.YtjnjalalkbamkaaGreatDoorWperm
set_option linter.unusedVariables false
set_option linter.unusedSimpArgs false
set_option linter.unnecessarySimpa false
namespace Go.Proofs.YtjnjalalkbamkaaGreatDoor
open Go Go.Lx Go.RowKit Tryz
set_option maxRecDepth 100000
theorem ckey_ok (β : Prop) (o : COp) (w : World) : Ok Tryz.prog 95 #[.agg (encCo o).toArray] w fun v w' => v = .agg (encCk o.key).toArray ∧ Ext β w w' := by
 refine Qz 12 func95 rfl rfl rfl ?_
 have hX : Ext β w w := Bel.refl _ _
 refine Qe (Qc ?_)
 refine QJ rfl (Q4 (v := .agg _) rfl) ?_
 intro b1 w1 x2 hge1 hb1
 have hlt1 := hb1.lt
 change Box _ _ _ (encCo _) at hb1
 have z3 := x2.size
 replace hX := hX.ex x2
 refine QJ rfl (Zh zeroValue161) ?_
 intro b2 w4 x5 hge2 hb2
 have hlt2 := hb2.lt
 change Box _ _ _ ([.int _ _, .int _ _, .int _ _, str _, str _, .bool _]) at hb2
 have z6 := x5.size
 replace hX := hX.ex x5
 replace hb1 := hb1.ext x5
 refine Qd (Qe (Qc ?_))
 refine Rr (Qx underlying121 rfl sizeOf117 rfl) ?_
 refine Rr (Qn isAgg117 rfl (hb1.at.get 1 rfl)) ?_
 refine Rr (Qx underlying121 rfl sizeOf3 rfl) ?_
 refine Rr (Qn isAgg3 rfl (hb1.at.get 2 rfl)) ?_
 refine Rr (Qx underlying121 rfl sizeOf3 rfl) ?_
 refine Rr (Qn isAgg3 rfl (hb1.at.get 3 rfl)) ?_
 refine Rr (Qx underlying121 rfl sizeOf119 rfl) ?_
 refine Rr (QO isAgg119 sizeOf119 rfl (hb1.at.sub 5 3) rfl) ?_
 refine Rr (QZ (cells := encCk o.key) (vs := [(0, .int _ _), (1, .int _ _), (2, .int _ _), (3, .agg _)]) rfl (by kernel_rfl)) ?_
 refine QX (v := .agg _) rfl sizeOf161 rfl rfl hb2 rfl rfl rfl ?_
 intro w7 c8 hb2
 change Box _ _ _ (encCk _) at hb2
 have z9 := Bel.size c8
 replace hX := Bel.out hX c8 om2
 refine Qd (Qy ?_)
 refine ⟨_, res_1 (v := .agg _) rfl (rv_cellS isAgg161 sizeOf161 rfl hb2.at rfl), ?_⟩
 exact ⟨rfl, hX⟩

theorem crole_ok (w : World) (r : Int) : Ok Tryz.prog 116 #[.int .i64 r] w fun v w' => v = .bool (decide (1 ≤ r) && decide (r ≤ 63)) ∧ Ext False w w' := by
 refine Qz 9 func116 rfl rfl rfl ?_
 have hX := xRf w
 refine Qe (Qc ?_)
 refine Rr Qm ?_
 refine Qd (Qe (Qc ?_))
 refine Rr (mvI rfl) ?_
 refine Rr (o_geq rfl rfl) ?_
 refine Rr (mvB rfl) ?_
 refine Qq 2 5 rfl rfl rfl (fun hg => (mvI rfl)) ?_
 refine Qq 2 5 rfl rfl rfl (fun hg => (o_leq (QE (u := undef) hg) rfl)) ?_
 refine Rr (o_and (u := undef) rfl rfl) ?_
 refine Rr (asB rfl) ?_
 refine Qd (Qy ?_)
 refine ⟨_, Qp rfl rfl, ?_⟩
 refine ⟨cvB ?_, hX⟩
 all_goals (rfl)

theorem ccheck_ok (o : COp) (hp : o.p.ok) (w : World) : Ok Tryz.prog 92 #[.agg (encCo o).toArray] w fun v w' => v = .int .i64 (checkO o) ∧ Ext False w w' := by
 refine Qz 92 func92 rfl rfl rfl ?_
 have hX := xRf w
 refine Qe (Qc ?_)
 refine QJ rfl (Q4 (v := .agg _) rfl) ?_
 intro b1 w1 x2 hge1 hb1
 change Box _ _ _ (encCo _) at hb1
 replace hX := hX.ex x2
 refine Rr Qm ?_
 refine Qd (Qe (Qc ?_))
 refine Rr Qm ?_
 refine Rr Qm ?_
 refine Qd (Qe (Qe (Qc ?_)))
 refine Rr (Qx underlying121 rfl sizeOf117 rfl) ?_
 refine Rr (Qn isAgg117 rfl (hb1.at.get 1 rfl)) ?_
 refine Qd (QB (Qe (Qc ?_)))
 refine Rr (Q0 rfl rfl) ?_
 refine Rr (asB rfl) ?_
 refine Qd ?_
 refine QD rfl (fun hc1 => ?_) (fun hc1 => ?_)
 ·have hk : o.k = 1 := by simpa using hc1
  refine Qe (Qc ?_)
  refine Rr (Qx underlying121 rfl sizeOf119 rfl) ?_
  refine Rr (QO isAgg119 sizeOf119 rfl (hb1.at.sub 5 3) rfl) ?_
  refine Rr (QZ (cells := encP pz) (vs := []) rfl (by kernel_rfl)) ?_
  refine Rr (o_teql eq_pp rfl rfl) ?_
  refine Rr (asB rfl) ?_
  refine Qd (Qc ?_)
  refine Rr (Qx underlying121 rfl sizeOf3 rfl) ?_
  refine Rr (Qn isAgg3 rfl (hb1.at.get 2 rfl)) ?_
  refine Rr (o_geq rfl rfl) ?_
  refine Rr (mvB rfl) ?_
  refine Qq 3 16 rfl rfl rfl (fun hg => (Qx underlying121 rfl sizeOf3 rfl)) ?_
  refine Qq 3 16 rfl rfl rfl (fun hg => (Qn isAgg3 (QE (u := undef) hg) (hb1.at.get 2 rfl))) ?_
  refine Qq 3 16 rfl rfl rfl (fun hg => (o_leq (QE (u := undef) hg) rfl)) ?_
  refine Rr (o_and (u := undef) rfl rfl) ?_
  refine Rr (mvB rfl) ?_
  refine Qq 8 21 rfl rfl rfl (fun hg => (Qx underlying121 rfl sizeOf3 rfl)) ?_
  refine Qq 8 21 rfl rfl rfl (fun hg => (Qn isAgg3 (QE (u := undef) hg) (hb1.at.get 3 rfl))) ?_
  refine Rg_mayCall 8 21 rfl rfl rfl (fun hg => ⟨(QA call116 (QE (u := undef) hg)), crole_ok _ _⟩) ?_
  intro w3 x4
  replace hX := hX.ex x4
  replace hb1 := hb1.ext x4
  refine Rr (o_and (u := undef) rfl rfl) ?_
  refine Rr (mvB rfl) ?_
  refine Qq 13 26 rfl rfl rfl (fun hg => (Qx underlying121 rfl sizeOf3 rfl)) ?_
  refine Qq 13 26 rfl rfl rfl (fun hg => (Qn isAgg3 (QE (u := undef) hg) (hb1.at.get 4 rfl))) ?_
  refine Qq 13 26 rfl rfl rfl (fun hg => (o_geq (QE (u := undef) hg) rfl)) ?_
  refine Rr (o_and (u := undef) rfl rfl) ?_
  refine Rr (mvB rfl) ?_
  refine Qq 18 31 rfl rfl rfl (fun hg => (Qx underlying121 rfl sizeOf3 rfl)) ?_
  refine Qq 18 31 rfl rfl rfl (fun hg => (Qn isAgg3 (QE (u := undef) hg) (hb1.at.get 4 rfl))) ?_
  refine Qq 18 31 rfl rfl rfl (fun hg => (o_leq (QE (u := undef) hg) rfl)) ?_
  refine Rr (o_and (u := undef) rfl rfl) ?_
  refine Rr (asB rfl) ?_
  refine Qd (Qe (QB (Qe (Qc ?_))))
  refine Rr (mvB rfl) ?_
  refine Rr (Q5 rfl) ?_
  refine Rr (asB rfl) ?_
  refine Qd ?_
  refine QD rfl (fun hc2 => ?_) (fun hc2 => ?_)
  ·have hf : ¬ o.p = pz := by simpa using hc2
   refine Qe (Qc ?_)
   refine Rr Qm ?_
   refine Qd (Qy ?_)
   refine ⟨_, Qp rfl rfl, ?_⟩
   refine ⟨congrArg (Value.int .i64) ?_, hX⟩
   all_goals (rw [checkO, if_neg (by omega), if_pos (.inl ⟨by omega, hf⟩)])
  have hf : o.p = pz := by simpa using hc2
  refine Qe (Qc ?_)
  refine Rr (mvB rfl) ?_
  refine Rr (Q5 rfl) ?_
  refine Rr (asB rfl) ?_
  refine Qd ?_
  refine QD rfl (fun hc3 => ?_) (fun hc3 => ?_)
  ·have hn : o.a < 1 ∨ 256 < o.a ∨ o.b < 1 ∨ 63 < o.b ∨ o.u < 0 ∨ 30000 < o.u := by simp at hc3; omega
   refine Qe (Qc ?_)
   refine Rr Qm ?_
   refine Qd (Qy ?_)
   refine ⟨_, Qp rfl rfl, ?_⟩
   refine ⟨congrArg (Value.int .i64) ?_, hX⟩
   all_goals (rw [checkO, if_neg (by omega), if_neg (fun h => by rcases h with ⟨h1, h2⟩ | ⟨h1, h2⟩ | ⟨h1, h2⟩ <;> first | omega | exact h2 hf | exact h2 hf.2), if_pos hk, if_pos hn])
  have hn : ¬ (o.a < 1 ∨ 256 < o.a ∨ o.b < 1 ∨ 63 < o.b ∨ o.u < 0 ∨ 30000 < o.u) := by simp at hc3; omega
  refine Qe (Qc ?_)
  refine Rr (Qx underlying121 rfl sizeOf117 rfl) ?_
  refine Rr (Qn isAgg117 rfl (hb1.at.get 1 rfl)) ?_
  refine Rr (Q0 rfl rfl) ?_
  refine Rr (asB rfl) ?_
  refine Qd ?_
  refine Qr (cvB (by first | (rw [hk]; rfl) | (rw [beq_eq_false_iff_ne]; omega))) ?_
  refine Qe (Qc ?_)
  refine Rr (Qx underlying121 rfl sizeOf117 rfl) ?_
  refine Rr (Qn isAgg117 rfl (hb1.at.get 1 rfl)) ?_
  refine Rr (Q0 rfl rfl) ?_
  refine Rr (mvB rfl) ?_
  refine Qq 3 85 rfl rfl rfl (fun hg => (Qx underlying121 rfl sizeOf3 rfl)) ?_
  refine Qq 3 85 rfl rfl rfl (fun hg => (Qn isAgg3 (QE (u := undef) hg) (hb1.at.get 2 rfl))) ?_
  refine Qq 3 85 rfl rfl rfl (fun hg => (Qx underlying121 rfl sizeOf3 rfl)) ?_
  refine Qq 3 85 rfl rfl rfl (fun hg => (Qn isAgg3 (QE (u := undef) hg) (hb1.at.get 3 rfl))) ?_
  refine Qq 3 85 rfl rfl rfl (fun hg => (Q0 (QE (u := undef) hg) (QE (u := undef) hg))) ?_
  refine Rr (o_and (u := undef) rfl rfl) ?_
  refine Rr (asB rfl) ?_
  refine Qd ?_
  refine Qr (cvB (by rw [hk]; rfl)) ?_
  refine Qu (Qe (Qc ?_))
  refine Rr Qm ?_
  refine Qd (Qy ?_)
  refine ⟨_, Qp rfl rfl, ?_⟩
  refine ⟨congrArg (Value.int .i64) ?_, hX⟩
  all_goals (rw [checkO, if_neg (by omega), if_neg (fun h => by rcases h with ⟨h1, h2⟩ | ⟨h1, h2⟩ | ⟨h1, h2⟩ <;> first | omega | exact h2 hf | exact h2 hf.2), if_pos hk, if_neg hn])
 have hk1 : ¬ o.k = 1 := by simpa using hc1
 refine Qe (Qc ?_)
 refine Rr (Q0 rfl rfl) ?_
 refine Rr (asB rfl) ?_
 refine Qd ?_
 refine QD rfl (fun hc6 => ?_) (fun hc6 => ?_)
 ·have hk : o.k = 2 := by simpa using hc6
  apply W_draw (β := False) [peq _, peq _, peq _, peq _, peq _, peq _, peq _, peq _, peq _, peq _, peq _, peq _, peq _] 13 Q9 (by kernel_rfl) rfl ⟨Qf _, Qf _, Qf _, Qf _, Qf _, Qf _, Qf _, Qf _, Qf _, Qf _, Qf _, Qf _, Qf _, trivial⟩ ?ob8 ?fin8
  case ob8 =>
   refine Qh (fun w5 x6 => ?_) ?_
   ·refine Qg ?_
    exact Qt rfl (Qx underlying121 rfl sizeOf3 rfl)
   refine Qh (fun w7 x8 => ?_) ?_
   ·have hb1 := hb1.ext x8
    refine Qa (Qg ?_)
    exact Qt rfl (Qn isAgg3 rfl (hb1.at.get 3 rfl))
   refine Qh (fun w9 x10 => ?_) ?_
   ·refine Qa (Qg ?_)
    exact Qt rfl (Q0 rfl rfl)
   refine Qh (fun w11 x12 => ?_) ?_
   ·refine Qa (Qg ?_)
    exact Qt rfl (mvB rfl)
   refine Qh (fun w13 x14 => ?_) ?_
   ·refine Qa (Qg ?_)
    exact QN 3 41 rfl rfl (fun hg => (Qx underlying121 rfl sizeOf3 rfl))
   refine Qh (fun w15 x16 => ?_) ?_
   ·have hb1 := hb1.ext x16
    refine Qa (Qa (Qg ?_))
    exact QN 3 41 rfl rfl (fun hg => (Qn isAgg3 (QE (u := undef) hg) (hb1.at.get 4 rfl)))
   refine Qh (fun w17 x18 => ?_) ?_
   ·refine Qa (Qa (Qg ?_))
    exact QN 3 41 rfl rfl (fun hg => (Q0 (QE (u := undef) hg) rfl))
   refine Qh (fun w19 x20 => ?_) ?_
   ·refine Qa (Qa (Qg ?_))
    exact Qt rfl (o_and (u := undef) rfl rfl)
   refine Qh (fun w21 x22 => ?_) ?_
   ·refine Qg ?_
    exact Qt rfl (Qx underlying121 rfl sizeOf3 rfl)
   refine Qh (fun w23 x24 => ?_) ?_
   ·have hb1 := hb1.ext x24
    refine Qa (Qg ?_)
    exact Qt rfl (Qn isAgg3 rfl (hb1.at.get 2 rfl))
   refine Qh (fun w25 x26 => ?_) ?_
   ·refine Qa (Qa (Qg ?_))
    exact OpS_call rfl (QA call116 rfl) (crole_ok _ _)
   refine Qh (fun w27 x28 => ?_) ?_
   ·refine Qa (Qa (Qa (Qa (Qa (Qa (Qa (Qa (Qa ?_))))))))
    refine Qa (Qg ?_)
    exact Qt rfl (asB rfl)
   refine Qh (fun w29 x30 => ?_) ?_
   ·refine Qa (Qa (Qa (Qa (Qa (Qa (Qa (Qa (Qa ?_))))))))
    refine Qa (Qa (Qa (Qa (Qa (Qg ?_)))))
    exact Qt rfl (asB rfl)
   exact Q7
  case fin8 =>
   intro w31 x32
   replace hX := hX.ex x32
   replace hb1 := hb1.ext x32
   refine Qa (Qa (Qa (Qa (Qa (Qa (Qa (Qa (Qa ?_))))))))
   refine Qa (Qa (Qa (Qa (Qg (Qd (Qe (QB (Qe ?_))))))))
   refine Qc ?_
   refine Rr (mvB rfl) ?_
   refine Rr (Q5 rfl) ?_
   refine Rr (asB rfl) ?_
   refine Qd ?_
   refine QD rfl (fun hc7 => ?_) (fun hc7 => ?_)
   ·have hf : ¬ o.b = 0 ∨ ¬ o.u = 0 := by simpa using hc7
    refine Qe (Qc ?_)
    refine Rr Qm ?_
    refine Qd (Qy ?_)
    refine ⟨_, Qp rfl rfl, ?_⟩
    refine ⟨congrArg (Value.int .i64) ?_, hX⟩
    all_goals (rw [checkO, if_neg (by omega), if_pos (by omega)])
   have hf : o.b = 0 ∧ o.u = 0 := by simpa using hc7
   refine Qe (Qc ?_)
   refine Rr (mvB rfl) ?_
   refine Rr (Q5 rfl) ?_
   refine Rr (asB rfl) ?_
   refine Qd ?_
   refine QD rfl (fun hc8 => ?_) (fun hc8 => ?_)
   ·have hn : o.a < 1 ∨ 63 < o.a := by simp at hc8; omega
    refine Qe (Qc ?_)
    refine Rr Qm ?_
    refine Qd (Qy ?_)
    refine ⟨_, Qp rfl rfl, ?_⟩
    refine ⟨congrArg (Value.int .i64) ?_, hX⟩
    all_goals (rw [checkO, if_neg (by omega), if_neg (fun h => by rcases h with ⟨h1, h2⟩ | ⟨h1, h2⟩ | ⟨h1, h2⟩ <;> first | omega | exact h2 hf | exact h2 hf.2), if_neg (by omega), if_pos hk, if_pos hn])
   have hn : ¬ (o.a < 1 ∨ 63 < o.a) := by simp at hc8; omega
   refine Qe (Qc ?_)
   refine Rr (Qx underlying121 rfl sizeOf117 rfl) ?_
   refine Rr (Qn isAgg117 rfl (hb1.at.get 1 rfl)) ?_
   refine Rr (Q0 rfl rfl) ?_
   refine Rr (asB rfl) ?_
   refine Qd ?_
   refine Q2 (cvB (by first | (rw [hk]; rfl) | (rw [beq_eq_false_iff_ne]; omega))) ?_
   refine Qe (Qc ?_)
   refine Rr (Qx underlying121 rfl sizeOf119 rfl) ?_
   refine Rr (QO isAgg119 sizeOf119 rfl (hb1.at.sub 5 3) rfl) ?_
   refine Qo rfl (QA call117 rfl) (Ok.mono (check_ok (False) _ hp _) ?_)
   rintro _ w33 ⟨rfl, x34⟩
   replace hX := hX.ex x34
   refine Rr (asI rfl) ?_
   refine Qd (Qy ?_)
   refine ⟨_, Qp rfl rfl, ?_⟩
   refine ⟨congrArg (Value.int .i64) ?_, hX⟩
   all_goals (rw [checkO, if_neg (by omega), if_neg (fun h => by rcases h with ⟨h1, h2⟩ | ⟨h1, h2⟩ | ⟨h1, h2⟩ <;> first | omega | exact h2 hf | exact h2 hf.2), if_neg (by omega), if_pos hk, if_neg hn])
 have hk2 : ¬ o.k = 2 := by simpa using hc6
 refine Qe (Qc ?_)
 refine Rr (Q0 rfl rfl) ?_
 refine Rr (asB rfl) ?_
 refine Qd ?_
 refine QD rfl (fun hc10 => ?_) (fun hc10 => ?_)
 ·have hk : o.k = 3 := by simpa using hc10
  apply W_draw (β := False) [peq _, peq _, peq _, peq _, peq _, peq _, peq _, peq _, peq _, peq _, peq _, peq _, peq _, peq _, peq _, peq _, peq _, peq _, peq _] 19 Q9 (by kernel_rfl) rfl ⟨Qf _, Qf _, Qf _, Qf _, Qf _, Qf _, Qf _, Qf _, Qf _, Qf _, Qf _, Qf _, Qf _, Qf _, Qf _, Qf _, Qf _, Qf _, Qf _, trivial⟩ ?ob10 ?fin10
  case ob10 =>
   refine Qh (fun w35 x36 => ?_) ?_
   ·refine Qg ?_
    exact Qt rfl (Qx underlying121 rfl sizeOf3 rfl)
   refine Qh (fun w37 x38 => ?_) ?_
   ·have hb1 := hb1.ext x38
    refine Qa (Qg ?_)
    exact Qt rfl (Qn isAgg3 rfl (hb1.at.get 4 rfl))
   refine Qh (fun w39 x40 => ?_) ?_
   ·refine Qa (Qg ?_)
    exact Qt rfl (Q0 rfl rfl)
   refine Qh (fun w41 x42 => ?_) ?_
   ·refine Qa (Qg ?_)
    exact Qt rfl (mvB rfl)
   refine Qh (fun w43 x44 => ?_) ?_
   ·refine Qa (Qg ?_)
    exact QN 3 54 rfl rfl (fun hg => (Qx underlying121 rfl sizeOf119 rfl))
   refine Qh (fun w45 x46 => ?_) ?_
   ·have hb1 := hb1.ext x46
    refine Qa (Qa (Qg ?_))
    exact QN 3 54 rfl rfl (fun hg => (QO isAgg119 sizeOf119 (QE (u := undef) hg) (hb1.at.sub 5 3) rfl))
   refine Qh (fun w47 x48 => ?_) ?_
   ·refine Qa (Qg ?_)
    exact QN 3 54 rfl rfl (fun hg => (QZ (cells := encP pz) (vs := []) rfl (by kernel_rfl)))
   refine Qh (fun w49 x50 => ?_) ?_
   ·refine Qa (Qa (Qa (Qg ?_)))
    exact QN 3 54 rfl rfl (fun hg => (o_teql eq_pp (QE (u := undef) hg) (QE (u := undef) hg)))
   refine Qh (fun w51 x52 => ?_) ?_
   ·refine Qa (Qa (Qg ?_))
    exact Qt rfl (o_and (u := undef) rfl rfl)
   refine Qh (fun w53 x54 => ?_) ?_
   ·refine Qg ?_
    exact Qt rfl (Qx underlying121 rfl sizeOf3 rfl)
   refine Qh (fun w55 x56 => ?_) ?_
   ·have hb1 := hb1.ext x56
    refine Qa (Qg ?_)
    exact Qt rfl (Qn isAgg3 rfl (hb1.at.get 2 rfl))
   refine Qh (fun w57 x58 => ?_) ?_
   ·refine Qa (Qa (Qg ?_))
    exact OpS_call rfl (QA call116 rfl) (crole_ok _ _)
   refine Qh (fun w59 x60 => ?_) ?_
   ·refine Qa (Qa (Qg ?_))
    exact Qt rfl (mvB rfl)
   refine Qh (fun w61 x62 => ?_) ?_
   ·refine Qa (Qg ?_)
    exact QN 12 63 rfl rfl (fun hg => (Qx underlying121 rfl sizeOf3 rfl))
   refine Qh (fun w63 x64 => ?_) ?_
   ·have hb1 := hb1.ext x64
    refine Qa (Qa (Qg ?_))
    exact QN 12 63 rfl rfl (fun hg => (Qn isAgg3 (QE (u := undef) hg) (hb1.at.get 3 rfl)))
   refine Qh (fun w65 x66 => ?_) ?_
   ·refine Qa (Qa (Qa (Qg ?_)))
    exact OpS_mayCall 12 63 rfl rfl (fun hg => ⟨(QA call116 (QE (u := undef) hg)), crole_ok _ _⟩)
   refine Qh (fun w67 x68 => ?_) ?_
   ·refine Qa (Qa (Qg ?_))
    exact Qt rfl (o_and (u := undef) rfl rfl)
   refine Qh (fun w69 x70 => ?_) ?_
   ·refine Qa (Qa (Qa (Qa (Qa (Qa (Qa (Qa (Qa ?_))))))))
    refine Qa (Qa (Qg ?_))
    exact Qt rfl (asB rfl)
   refine Qh (fun w71 x72 => ?_) ?_
   ·refine Qa (Qa (Qa (Qa (Qa (Qa (Qa (Qa (Qa ?_))))))))
    refine Qa (Qa (Qa (Qa (Qa (Qa (Qa (Qa (Qa ?_))))))))
    refine Qa (Qa (Qg ?_))
    exact Qt rfl (asB rfl)
   exact Q7
  case fin10 =>
   intro w73 x74
   replace hX := hX.ex x74
   replace hb1 := hb1.ext x74
   refine Qa (Qa (Qa (Qa (Qa (Qa (Qa (Qa (Qa ?_))))))))
   refine Qa (Qa (Qa (Qa (Qa (Qa (Qa (Qa (Qa ?_))))))))
   refine Qa (Qg (Qd (Qe (QB (Qe (Qc ?_))))))
   refine Rr (mvB rfl) ?_
   refine Rr (Q5 rfl) ?_
   refine Rr (asB rfl) ?_
   refine Qd ?_
   refine QD rfl (fun hc11 => ?_) (fun hc11 => ?_)
   ·have hf : ¬ o.u = 0 ∨ ¬ o.p = pz := by simpa using hc11
    refine Qe (Qc ?_)
    refine Rr Qm ?_
    refine Qd (Qy ?_)
    refine ⟨_, Qp rfl rfl, ?_⟩
    refine ⟨congrArg (Value.int .i64) ?_, hX⟩
    all_goals (rw [checkO, if_neg (by omega), if_pos (hf.elim (fun h => .inr (.inl ⟨by omega, h⟩)) (fun h => .inl ⟨by omega, h⟩))])
   have hf : o.u = 0 ∧ o.p = pz := by simpa using hc11
   refine Qe (Qc ?_)
   refine Rr (mvB rfl) ?_
   refine Rr (Q5 rfl) ?_
   refine Rr (asB rfl) ?_
   refine Qd ?_
   refine QD rfl (fun hc12 => ?_) (fun hc12 => ?_)
   ·have hn : o.a < 1 ∨ 63 < o.a ∨ o.b < 1 ∨ 63 < o.b := by simp at hc12; omega
    refine Qe (Qc ?_)
    refine Rr Qm ?_
    refine Qd (Qy ?_)
    refine ⟨_, Qp rfl rfl, ?_⟩
    refine ⟨congrArg (Value.int .i64) ?_, hX⟩
    all_goals (rw [checkO, if_neg (by omega), if_neg (fun h => by rcases h with ⟨h1, h2⟩ | ⟨h1, h2⟩ | ⟨h1, h2⟩ <;> first | omega | exact h2 hf | exact h2 hf.2), if_neg (by omega), if_neg (by omega), if_pos hn])
   have hn : ¬ (o.a < 1 ∨ 63 < o.a ∨ o.b < 1 ∨ 63 < o.b) := by simp at hc12; omega
   refine Qe (Qc ?_)
   refine Rr (Qx underlying121 rfl sizeOf117 rfl) ?_
   refine Rr (Qn isAgg117 rfl (hb1.at.get 1 rfl)) ?_
   refine Rr (Q0 rfl rfl) ?_
   refine Rr (asB rfl) ?_
   refine Qd ?_
   refine Qr (cvB (by first | (rw [hk]; rfl) | (rw [beq_eq_false_iff_ne]; omega))) ?_
   refine Qe (Qc ?_)
   refine Rr (Qx underlying121 rfl sizeOf117 rfl) ?_
   refine Rr (Qn isAgg117 rfl (hb1.at.get 1 rfl)) ?_
   refine Rr (Q0 rfl rfl) ?_
   refine Rr (mvB rfl) ?_
   refine Qq 3 85 rfl rfl rfl (fun hg => (Qx underlying121 rfl sizeOf3 rfl)) ?_
   refine Qq 3 85 rfl rfl rfl (fun hg => (Qn isAgg3 (QE (u := undef) hg) (hb1.at.get 2 rfl))) ?_
   refine Qq 3 85 rfl rfl rfl (fun hg => (Qx underlying121 rfl sizeOf3 rfl)) ?_
   refine Qq 3 85 rfl rfl rfl (fun hg => (Qn isAgg3 (QE (u := undef) hg) (hb1.at.get 3 rfl))) ?_
   refine Qq 3 85 rfl rfl rfl (fun hg => (Q0 (QE (u := undef) hg) (QE (u := undef) hg))) ?_
   refine Rr (o_and (u := undef) rfl rfl) ?_
   refine Rr (asB rfl) ?_
   refine Qd ?_
   refine QD rfl (fun hc14 => ?_) (fun hc14 => ?_)
   ·have he : o.a = o.b := by simp at hc14; omega
    refine Qe (Qc ?_)
    refine Rr Qm ?_
    refine Qd (Qy ?_)
    refine ⟨_, Qp rfl rfl, ?_⟩
    refine ⟨congrArg (Value.int .i64) ?_, hX⟩
    all_goals (rw [checkO, if_neg (by omega), if_neg (fun h => by rcases h with ⟨h1, h2⟩ | ⟨h1, h2⟩ | ⟨h1, h2⟩ <;> first | omega | exact h2 hf | exact h2 hf.2), if_neg (by omega), if_neg (by omega), if_neg hn, if_pos he])
   have he : ¬ o.a = o.b := by simp at hc14; omega
   refine Qu (Qe (Qc ?_))
   refine Rr Qm ?_
   refine Qd (Qy ?_)
   refine ⟨_, Qp rfl rfl, ?_⟩
   refine ⟨congrArg (Value.int .i64) ?_, hX⟩
   all_goals (rw [checkO, if_neg (by omega), if_neg (fun h => by rcases h with ⟨h1, h2⟩ | ⟨h1, h2⟩ | ⟨h1, h2⟩ <;> first | omega | exact h2 hf | exact h2 hf.2), if_neg (by omega), if_neg (by omega), if_neg hn, if_neg he])
 have hk3 : ¬ o.k = 3 := by simpa using hc10
 refine Qe (Qc ?_)
 refine Rr Qm ?_
 refine Qd (Qy ?_)
 refine ⟨_, Qp rfl rfl, ?_⟩
 refine ⟨congrArg (Value.int .i64) ?_, hX⟩
 all_goals (rw [checkO, if_pos (by omega)])

theorem ccmpk_ok (β : Prop) (x y : OKey) (hx : Kr x) (hy : Kr y) (w : World) : Ok Tryz.prog 120 #[.agg (encCk x).toArray, .agg (encCk y).toArray] w fun v w' => v = .int .i64 (cmpK x y) ∧ Ext β w w' := by
 have h1 := hx.k; have h2 := hx.a; have h3 := hx.b; have h4 := hy.k; have h5 := hy.a; have h6 := hy.b
 refine Qz 45 func120 rfl rfl rfl ?_
 have hX : Ext β w w := Bel.refl _ _
 refine Qe (Qc ?_)
 refine QJ rfl (Q4 (v := .agg _) rfl) ?_
 intro b2 w1 x2 hge2 hb2
 change Box _ _ _ (encCk _) at hb2
 replace hX := hX.ex x2
 refine QJ rfl (Q4 (v := .agg _) rfl) ?_
 intro b3 w3 x4 hge3 hb3
 change Box _ _ _ (encCk _) at hb3
 replace hX := hX.ex x4
 replace hb2 := hb2.ext x4
 refine Rr Qm ?_
 refine Qd (Qe (QB (Qe (Qc ?_))))
 refine Rr (Qx underlying161 rfl sizeOf117 rfl) ?_
 refine Rr (Qn isAgg117 rfl (hb2.at.get 0 rfl)) ?_
 refine Rr (Qx underlying161 rfl sizeOf117 rfl) ?_
 refine Rr (Qn isAgg117 rfl (hb3.at.get 0 rfl)) ?_
 refine Rr (o_neq rfl rfl) ?_
 refine Rr (asB rfl) ?_
 refine Qd ?_
 refine QD rfl (fun hc1 => ?_) (fun hc1 => ?_)
 ·refine Qe (Qc ?_)
  refine Rr (Qx underlying161 rfl sizeOf117 rfl) ?_
  refine Rr (Qn isAgg117 rfl (hb2.at.get 0 rfl)) ?_
  refine Rr (o_convS underlying117 underlying3 rfl (wrap_in (by unfold I64; omega))) ?_
  refine Rr (Qx underlying161 rfl sizeOf117 rfl) ?_
  refine Rr (Qn isAgg117 rfl (hb3.at.get 0 rfl)) ?_
  refine Rr (o_convS underlying117 underlying3 rfl (wrap_in (by unfold I64; omega))) ?_
  refine Rr (o_sub rfl rfl (by unfold I64; omega)) ?_
  refine Rr (asI rfl) ?_
  refine Qd (Qy ?_)
  refine ⟨_, Qp rfl rfl, ?_⟩
  refine ⟨congrArg (Value.int .i64) ?_, hX⟩
  all_goals (rw [cmpK, if_pos (by simpa using hc1)])
 refine Qe (Qc ?_)
 refine Rr (Qx underlying161 rfl sizeOf3 rfl) ?_
 refine Rr (Qn isAgg3 rfl (hb2.at.get 1 rfl)) ?_
 refine Rr (Qx underlying161 rfl sizeOf3 rfl) ?_
 refine Rr (Qn isAgg3 rfl (hb3.at.get 1 rfl)) ?_
 refine Rr (o_neq rfl rfl) ?_
 refine Rr (asB rfl) ?_
 refine Qd ?_
 refine QD rfl (fun hc2 => ?_) (fun hc2 => ?_)
 ·refine Qe (Qc ?_)
  refine Rr (Qx underlying161 rfl sizeOf3 rfl) ?_
  refine Rr (Qn isAgg3 rfl (hb2.at.get 1 rfl)) ?_
  refine Rr (Qx underlying161 rfl sizeOf3 rfl) ?_
  refine Rr (Qn isAgg3 rfl (hb3.at.get 1 rfl)) ?_
  refine Rr (o_sub rfl rfl (by unfold I64; omega)) ?_
  refine Rr (asI rfl) ?_
  refine Qd (Qy ?_)
  refine ⟨_, Qp rfl rfl, ?_⟩
  refine ⟨congrArg (Value.int .i64) ?_, hX⟩
  all_goals (rw [cmpK, if_neg (by simpa using hc1), if_pos (by simpa using hc2)])
 refine Qe (Qc ?_)
 refine Rr (Qx underlying161 rfl sizeOf3 rfl) ?_
 refine Rr (Qn isAgg3 rfl (hb2.at.get 2 rfl)) ?_
 refine Rr (Qx underlying161 rfl sizeOf3 rfl) ?_
 refine Rr (Qn isAgg3 rfl (hb3.at.get 2 rfl)) ?_
 refine Rr (o_neq rfl rfl) ?_
 refine Rr (asB rfl) ?_
 refine Qd ?_
 refine QD rfl (fun hc3 => ?_) (fun hc3 => ?_)
 ·refine Qe (Qc ?_)
  refine Rr (Qx underlying161 rfl sizeOf3 rfl) ?_
  refine Rr (Qn isAgg3 rfl (hb2.at.get 2 rfl)) ?_
  refine Rr (Qx underlying161 rfl sizeOf3 rfl) ?_
  refine Rr (Qn isAgg3 rfl (hb3.at.get 2 rfl)) ?_
  refine Rr (o_sub rfl rfl (by unfold I64; omega)) ?_
  refine Rr (asI rfl) ?_
  refine Qd (Qy ?_)
  refine ⟨_, Qp rfl rfl, ?_⟩
  refine ⟨congrArg (Value.int .i64) ?_, hX⟩
  all_goals (rw [cmpK, if_neg (by simpa using hc1), if_neg (by simpa using hc2), if_pos (by simpa using hc3)])
 refine Qu (Qe (Qc ?_))
 refine Rr (Qx underlying161 rfl sizeOf119 rfl) ?_
 refine Rr (QO isAgg119 sizeOf119 rfl (hb2.at.sub 3 3) rfl) ?_
 refine Rr (Qx underlying161 rfl sizeOf119 rfl) ?_
 refine Rr (QO isAgg119 sizeOf119 rfl (hb3.at.sub 3 3) rfl) ?_
 refine Qo rfl (QM call158 rfl rfl) (Ok.mono (pmcompare_ok (β) _ hx.ok _ hy.ok _) ?_)
 rintro _ w5 ⟨rfl, x6⟩
 replace hX := hX.ex x6
 refine Rr (asI rfl) ?_
 refine Qd (Qy ?_)
 refine ⟨_, Qp rfl rfl, ?_⟩
 refine ⟨congrArg (Value.int .i64) ?_, hX⟩
 all_goals (rw [cmpK, if_neg (by simpa using hc1), if_neg (by simpa using hc2), if_neg (by simpa using hc3)])

theorem ccmp_ok (β : Prop) (x y : COp) (hx : Kr x.key) (hy : Kr y.key) (w : World) : Ok Tryz.prog 94 #[.agg (encCo x).toArray, .agg (encCo y).toArray] w fun v w' => v = .int .i64 (cmpO x y) ∧ Ext β w w' := by
 refine Qz 23 func94 rfl rfl rfl ?_
 have hX : Ext β w w := Bel.refl _ _
 refine Qe (Qc ?_)
 refine QJ rfl (Q4 (v := .agg _) rfl) ?_
 intro b2 w1 x2 hge2 hb2
 change Box _ _ _ (encCo _) at hb2
 replace hX := hX.ex x2
 refine QJ rfl (Q4 (v := .agg _) rfl) ?_
 intro b3 w3 x4 hge3 hb3
 change Box _ _ _ (encCo _) at hb3
 replace hX := hX.ex x4
 replace hb2 := hb2.ext x4
 refine Rr Qm ?_
 refine Qd (Qe (Qe ?_))
 apply W_draw (β := β) [peq _, peq _, peq _, peq _, peq _, peq _] 6 Q9 (by kernel_rfl) rfl ⟨Qf _, Qf _, Qf _, Qf _, Qf _, Qf _, trivial⟩ ?ob1 ?fin1
 case ob1 =>
  refine Qh (fun w5 x6 => ?_) ?_
  ·have hb2 := hb2.ext x6
   refine Qg ?_
   exact Qt rfl (QO isAgg121 sizeOf121 rfl hb2.at rfl)
  refine Qh (fun w7 x8 => ?_) ?_
  ·refine Qa (Qg ?_)
   exact OpS_call rfl (QA call95 rfl) (ckey_ok (β) x _)
  refine Qh (fun w9 x10 => ?_) ?_
  ·have hb3 := hb3.ext x10
   refine Qg ?_
   exact Qt rfl (QO isAgg121 sizeOf121 rfl hb3.at rfl)
  refine Qh (fun w11 x12 => ?_) ?_
  ·refine Qa (Qa (Qg ?_))
   exact OpS_call rfl (QA call95 rfl) (ckey_ok (β) y _)
  refine Qh (fun w13 x14 => ?_) ?_
  ·refine Qa (Qa (Qa (Qg ?_)))
   exact OpS_call rfl (QM call120 rfl rfl) (ccmpk_ok (β) x.key y.key hx hy _)
  refine Qh (fun w15 x16 => ?_) ?_
  ·refine Qa (Qa (Qa (Qa (Qa (Qa (Qa (Qg ?_)))))))
   exact Qt rfl (asI rfl)
  exact Q7
 case fin1 =>
  intro w17 x18
  replace hX := hX.ex x18
  replace hb2 := hb2.ext x18
  replace hb3 := hb3.ext x18
  refine Qa (Qa (Qa (Qa (Qa (Qa (Qg (Qd (Qe ?_))))))))
  refine Qc ?_
  refine Rr (mvI rfl) ?_
  refine Rr (o_neq rfl rfl) ?_
  refine Qd ?_
  refine QD rfl (fun hc1 => ?_) (fun hc1 => ?_)
  ·refine Qe (Qc ?_)
   refine Rr (mvI rfl) ?_
   refine Rr (asI rfl) ?_
   refine Qd (Qy ?_)
   refine ⟨_, Qp rfl rfl, ?_⟩
   refine ⟨congrArg (Value.int .i64) ?_, hX⟩
   all_goals (rw [cmpO, if_pos (by simpa using hc1)])
  refine Qu (Qe (QB (Qe (Qc ?_))))
  refine Rr (Qx underlying121 rfl sizeOf4 rfl) ?_
  refine Rr (Qn isAgg4 rfl (hb2.at.get 0 rfl)) ?_
  refine Rr (Qx underlying121 rfl sizeOf4 rfl) ?_
  refine Rr (Qn isAgg4 rfl (hb3.at.get 0 rfl)) ?_
  refine Rr (o_beql underlying4 rfl rfl) ?_
  refine Rr (asB rfl) ?_
  refine Qd ?_
  refine QD rfl (fun hc2 => ?_) (fun hc2 => ?_)
  ·refine Qe (Qc ?_)
   refine Rr Qm ?_
   refine Qd (Qy ?_)
   refine ⟨_, Qp rfl rfl, ?_⟩
   refine ⟨congrArg (Value.int .i64) ?_, hX⟩
   all_goals (rw [cmpO, if_neg (by simpa using hc1), if_pos (by simpa using hc2)])
  refine Qe (Qc ?_)
  refine Rr (Qx underlying121 rfl sizeOf4 rfl) ?_
  refine Rr (Qn isAgg4 rfl (hb3.at.get 0 rfl)) ?_
  refine Rr (asB rfl) ?_
  refine Qd ?_
  refine QD rfl (fun hc3 => ?_) (fun hc3 => ?_)
  ·refine Qe (Qc ?_)
   refine Rr Qm ?_
   refine Qd (Qy ?_)
   refine ⟨_, Qp rfl rfl, ?_⟩
   refine ⟨congrArg (Value.int .i64) ?_, hX⟩
   all_goals (rw [cmpO, if_neg (by simpa using hc1), if_neg (by simpa using hc2), if_pos (by simpa using hc3)])
  refine Qu (Qe (Qc ?_))
  refine Rr Qm ?_
  refine Qd (Qy ?_)
  refine ⟨_, Qp rfl rfl, ?_⟩
  refine ⟨congrArg (Value.int .i64) ?_, hX⟩
  all_goals (rw [cmpO, if_neg (by simpa using hc1), if_neg (by simpa using hc2), if_neg (by simpa using hc3)])

theorem cclone_ok (w : World) (vl : Value) (l : List COp) (hl : Rd encCo 8 (Lt w.heap.size) w vl l) (nl : l.length ≤ 100000) : Ok Tryz.prog 58 #[vl] w fun v w' => Own encCo 8 121 (Fsh w w') w' v (l) ∧ Ext False w w' := by
 obtain ⟨al, cl, rfl, hl⟩ := hl; have ml := hl.len
 refine Qz 8 func58 rfl rfl rfl ?_
 have hX := xRf w
 refine Qe (Qc ?_)
 refine Rr Qm ?_
 refine Qd (Qe (Qe (Qc ?_)))
 refine Rr (mvS rfl) ?_
 refine Rr (o_lnil underlying60 rfl) ?_
 refine Qd ?_
 refine QD rfl (fun hc1 => ?_) (fun hc1 => ?_)
 ·have hnl := sl_none hl hc1; subst hnl
  refine Qe (Qc ?_)
  refine Rr Qm ?_
  refine Qd (Qy ?_)
  refine ⟨_, Qp rfl rfl, ?_⟩
  exact ⟨Own.nil _ _, hX⟩
 refine Qu (Qe (Qc ?_))
 refine Rg_bs (vs := []) (([] : List COp)) rfl encCo_ok el_co rfl rfl trivial rfl rfl rfl rfl ?_
 intro a5 w1 x2 hown5
 have z3 := x2.size
 replace hX := hX.ex x2
 replace hl := hl.ext x2
 replace hown5 := hown5.mono (D' := fun g => w.heap.size ≤ g) (fun g h1 h2 => by omega)
 refine Rr (mvS rfl) ?_
 refine Rg_app rfl encCo_ok el_co rfl rfl hown5 hl rfl (by simp; omega) omU ?_
 intro v7 w4 x5 hown5
 have z6 := x5.size
 replace hX := Bel.out hX x5 om2
 refine Rr (Qv (v := v7) rfl) ?_
 refine Qd (Qy ?_)
 refine ⟨_, Qp rfl rfl, ?_⟩
 rw [List.nil_append] at hown5; exact ⟨hown5.mono (fun g h1 h2 => by omega), hX⟩

