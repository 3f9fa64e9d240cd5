/- Walks: what functions return. -/
import Derived.Test.YtjnjalalkbamkaaGreatDoorWpath
set_option linter.unusedVariables false
set_option linter.unusedSimpArgs false
set_option linter.unnecessarySimpa false
namespace Go.Proofs.YtjnjalalkbamkaaGreatDoor
open Go Go.Lx Go.RowKit Tryz
set_option maxRecDepth 100000
theorem scompare_ok (β : Prop) (a b : Option Addr) (c d : Nat) (A B : Nat → Prop) (x y : List Str) (w : World) (hx : Sl encS 1 A w a c x) (hy : Sl encS 1 B w b d y) : Ok Tryz.prog 196 #[.slice a x.length c, .slice b y.length d] w fun v w' => v = .int .i64 (cmpL x y) ∧ Ext β w w' := by
 have hlx := hx.len; have hly := hy.len
 refine Qz 36 func196 rfl rfl rfl ?_
 have hX : Ext β w w := Bel.refl _ _
 refine Qe (Qc ?_)
 refine Rr Qm ?_
 refine Qd (Qe (Qe (Qc ?_)))
 refine Rr (mvS rfl) ?_
 refine Rr (QK underlying96 rfl) ?_
 refine Rr QT ?_
 refine Qd (QB ?_)
 refine Za (α := Nat) [(4, 8), (11, 30)] (fun k => [(11, .int .i64 (k : Int))]) (fun k w' => (k ≤ x.length ∧ k ≤ y.length ∧ cmpL x y = cmpL (x.drop k) (y.drop k)) ∧ Ext β w w') (fun k => x.length - k) 0 ⟨rfl, trivial⟩ ⟨⟨by omega, by omega, rfl⟩, Bel.refl _ _⟩ ?_
 rintro k fb3 w2 ⟨hk, hXL1⟩
 replace hX := hX.ex hXL1
 replace hx := hx.ext hXL1
 replace hy := hy.ext hXL1
 refine Qe (Qc ?_)
 refine Rr (QQ rfl rfl) ?_
 refine Qd (Qe ?_)
 refine QD rfl (fun hc1 => ?_) (fun hc1 => ?_)
 ·first | replace hc1 := dcT hc1 | replace hc1 := bnot_t hc1 | skip
  refine Qu (Qe (QB (Qe (Qc ?_))))
  refine Rr (mvI rfl) ?_
  refine Rr (Zg underlying96 sizeOf9 hx rfl rfl omg) ?_
  refine Rr (o_ldR isAgg9 hx rfl rfl (getElem?_of (by first | omega | assumption)) rfl) ?_
  refine Rr (asI rfl) ?_
  refine Rr (Qv (v := str _) rfl) ?_
  refine Qd (Qe (Qe (Qc ?_)))
  refine Rr (mvI rfl) ?_
  refine Rr (mvS rfl) ?_
  refine Rr (QK underlying96 rfl) ?_
  refine Rr (o_geq rfl rfl) ?_
  refine Qd ?_
  refine QD rfl (fun hc2 => ?_) (fun hc2 => ?_)
  ·first | replace hc2 := dcT hc2 | replace hc2 := bnot_t hc2 | skip
   refine Qe (Qc ?_)
   refine Rr Qm ?_
   refine Qd (Qy ?_)
   refine ⟨_, Qp rfl rfl, ?_⟩
   refine ⟨congrArg (Value.int .i64) ?_, hX⟩
   all_goals (rw [hk.2.2, cmpL_long (by omega) (by omega)])
  first | replace hc2 := dcF hc2 | replace hc2 := bnot_f hc2 | skip
  refine Qu (Qe (Qc ?_))
  refine Rr (mvS rfl) ?_
  refine Rr (mvI rfl) ?_
  refine Rr (Zg underlying96 sizeOf9 hy rfl rfl omg) ?_
  refine Rr (o_ldR isAgg9 hy rfl rfl (getElem?_of (by first | omega | assumption)) rfl) ?_
  refine Rr (Qv (v := str _) rfl) ?_
  refine Qd (Qe (Qc ?_))
  refine Rr (Ql (v := str _) rfl) ?_
  refine Rr (Ql (v := str _) rfl) ?_
  refine Qo rfl (QM call176 rfl rfl) (Ok.mono (cmp_ok (β) _ _ _) ?_)
  rintro _ w4 ⟨rfl, x5⟩
  replace hX := hX.ex x5
  replace hXL1 := Bel.ex hXL1 x5
  refine Rr (asI rfl) ?_
  refine Qd (Qe (Qc ?_))
  refine Rr (mvI rfl) ?_
  refine Rr (o_neq rfl rfl) ?_
  refine Qd ?_
  refine QD rfl (fun hc3 => ?_) (fun hc3 => ?_)
  ·first | replace hc3 := dcT hc3 | replace hc3 := bnot_t hc3 | skip
   refine Qe (Qc ?_)
   refine Rr (mvI rfl) ?_
   refine Rr (asI rfl) ?_
   refine Qd (Qy ?_)
   refine ⟨_, Qp rfl rfl, ?_⟩
   refine ⟨congrArg (Value.int .i64) ?_, hX⟩
   all_goals (rw [hk.2.2, cmpL_ne (by omega) (by omega) hc3])
  first | replace hc3 := dcF hc3 | replace hc3 := bnot_f hc3 | skip
  refine Qu (Qc ?_)
  refine Rr (Q6 rfl rfl omg) ?_
  refine Rr (mvI rfl) ?_
  refine Qd ?_
  refine ⟨k + 1, ⟨sT, trivial⟩, oT, ⟨?_, hXL1⟩, ?_⟩
  ·exact ⟨by omega, by omega, by rw [hk.2.2, cmpL_step (by omega) (by omega) hc3]⟩
  ·omega
 first | replace hc1 := dcF hc1 | replace hc1 := bnot_f hc1 | skip
 refine QS (QL (Qe (Qe (Qc ?_))))
 refine Rr (mvS rfl) ?_
 refine Rr (QK underlying96 rfl) ?_
 refine Rr (mvS rfl) ?_
 refine Rr (QK underlying96 rfl) ?_
 refine Rr (QQ rfl rfl) ?_
 refine Qd ?_
 refine QD rfl (fun hc4 => ?_) (fun hc4 => ?_)
 ·first | replace hc4 := dcT hc4 | replace hc4 := bnot_t hc4 | skip
  refine Qe (Qc ?_)
  refine Rr Qm ?_
  refine Qd (Qy ?_)
  refine ⟨_, Qp rfl rfl, ?_⟩
  refine ⟨congrArg (Value.int .i64) ?_, hX⟩
  all_goals (rw [hk.2.2, cmpL_short (by omega) (by omega)])
 first | replace hc4 := dcF hc4 | replace hc4 := bnot_f hc4 | skip
 refine Qu (Qe (Qc ?_))
 refine Rr Qm ?_
 refine Qd (Qy ?_)
 refine ⟨_, Qp rfl rfl, ?_⟩
 refine ⟨congrArg (Value.int .i64) ?_, hX⟩
 all_goals (rw [hk.2.2, cmpL_both (by omega) (by omega)])

theorem pcompare_ok (β : Prop) (p q : Str) (hp : p.length ≤ 1000000) (hq : q.length ≤ 1000000) (w : World) : Ok Tryz.prog 177 #[str p, str q] w fun v w' => v = .int .i64 (cmpP p q) ∧ Ext β w w' := by
 refine Qz 34 func177 rfl rfl rfl ?_
 have hX : Ext β w w := Bel.refl _ _
 refine Qe (Qc ?_)
 refine Rr Qm ?_
 refine Qd (Qe (Qc ?_))
 refine Rr (Ql (v := str _) rfl) ?_
 refine Qo rfl (QA call170 rfl) (Ok.mono (split_ok (β) _ (by first | assumption | omega | (simp; done) | (simp; omega) | (simp at *; omega)) _) ?_)
 rintro _ w1 ⟨a11, c11, rfl, hs11, x2⟩
 replace hX := hX.ex x2
 refine Rr (Ql (v := .tuple _) rfl) ?_
 refine Rr (QH rfl rfl) ?_
 refine Rr (QH rfl rfl) ?_
 refine Rr (asS rfl) ?_
 refine Rr (asB rfl) ?_
 refine Qd (Qe (Qc ?_))
 refine Rr (Ql (v := str _) rfl) ?_
 refine Qo rfl (QA call170 rfl) (Ok.mono (split_ok (β) _ (by first | assumption | omega | (simp; done) | (simp; omega) | (simp at *; omega)) _) ?_)
 rintro _ w3 ⟨a16, c16, rfl, hs16, x4⟩
 replace hX := hX.ex x4
 replace hs11 := hs11.ext x4
 refine Rr (Ql (v := .tuple _) rfl) ?_
 refine Rr (QH rfl rfl) ?_
 refine Rr (QH rfl rfl) ?_
 refine Rr (asS rfl) ?_
 refine Rr (asB rfl) ?_
 refine Qd (Qe (QB (Qe (Qc ?_))))
 refine Rr (mvB rfl) ?_
 refine Rr (mvB rfl) ?_
 refine Qq 1 21 rfl rfl rfl (fun hg => (mvB rfl)) ?_
 refine Rr (o_and (u := undef) rfl rfl) ?_
 refine Rr (asB rfl) ?_
 refine Qd ?_
 refine QD rfl (fun hc1 => ?_) (fun hc1 => ?_)
 ·refine Qe (Qc ?_)
  refine Rr (mvS rfl) ?_
  refine Rr (mvS rfl) ?_
  refine Qo rfl (QM call196 rfl rfl) (Ok.mono (scompare_ok (β) _ _ _ _ _ _ _ _ _ hs11 hs16) ?_)
  rintro _ w5 ⟨rfl, x6⟩
  replace hX := hX.ex x6
  refine Rr (asI rfl) ?_
  refine Qd (Qy ?_)
  refine ⟨_, Qp rfl rfl, ?_⟩
  refine ⟨congrArg (Value.int .i64) ?_, hX⟩
  all_goals (rw [cmpP, if_pos hc1])
 refine Qe (Qc ?_)
 refine Rr (mvB rfl) ?_
 refine Rr (asB rfl) ?_
 refine Qd ?_
 refine QD rfl (fun hc2 => ?_) (fun hc2 => ?_)
 ·refine Qe (Qc ?_)
  refine Rr Qm ?_
  refine Qd (Qy ?_)
  refine ⟨_, Qp rfl rfl, ?_⟩
  refine ⟨congrArg (Value.int .i64) ?_, hX⟩
  all_goals (rw [cmpP, if_neg (by rw [hc1]; simp), if_pos hc2])
 refine Qe (Qc ?_)
 refine Rr (mvB rfl) ?_
 refine Rr (asB rfl) ?_
 refine Qd ?_
 refine QD rfl (fun hc3 => ?_) (fun hc3 => ?_)
 ·refine Qe (Qc ?_)
  refine Rr Qm ?_
  refine Qd (Qy ?_)
  refine ⟨_, Qp rfl rfl, ?_⟩
  refine ⟨congrArg (Value.int .i64) ?_, hX⟩
  all_goals (rw [cmpP, if_neg (by rw [hc1]; simp), if_neg (by rw [hc2]; simp), if_pos hc3])
 refine Qu (Qe (Qc ?_))
 refine Rr (Ql (v := str _) rfl) ?_
 refine Rr (Ql (v := str _) rfl) ?_
 refine Qo rfl (QM call176 rfl rfl) (Ok.mono (cmp_ok (β) _ _ _) ?_)
 rintro _ w7 ⟨rfl, x8⟩
 replace hX := hX.ex x8
 refine Rr (asI rfl) ?_
 refine Qd (Qy ?_)
 refine ⟨_, Qp rfl rfl, ?_⟩
 refine ⟨congrArg (Value.int .i64) ?_, hX⟩
 all_goals (rw [cmpP, if_neg (by rw [hc1]; simp), if_neg (by rw [hc2]; simp), if_neg (by rw [hc3]; simp)])

