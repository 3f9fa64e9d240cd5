/- Walks: what functions return. -/
import Derived.Test.YtjnjalalkbamkaaGreatDoorWwire
import Derived.Test.YtjnjalalkbamkaaGreatDoorCb
import Derived.Test.YtjnjalalkbamkaaGreatDoorWr52
import Derived.Test.YtjnjalalkbamkaaGreatDoorDrawC
set_option linter.unusedVariables false
set_option linter.unusedSimpArgs false
set_option linter.unnecessarySimpa false
namespace Go.Proofs.YtjnjalalkbamkaaGreatDoor
open Go Go.Lx Go.RowKit Tryz
set_option maxRecDepth 100000
theorem cvu_ok (u : Int) (w : World) : Ok Tryz.prog 65 #[.int .i64 u] w fun v w' => v = .bool (decide (1 ≤ u) && decide (u ≤ 256)) ∧ Ext False w w' := by
 refine Qz 9 func65 rfl rfl rfl ?_
 have hX := xRf w
 refine Qe (Qc ?_)
 refine Rr Qm ?_
 refine Qd (Qe (Qc ?_))
 refine Rr (mvI rfl) ?_
 refine Rr (o_geq rfl rfl) ?_
 refine Rr (mvB rfl) ?_
 refine Qq 2 5 rfl rfl rfl (fun hg => (mvI rfl)) ?_
 refine Qq 2 5 rfl rfl rfl (fun hg => (o_leq (QE (u := undef) hg) rfl)) ?_
 refine Rr (o_and (u := undef) rfl rfl) ?_
 refine Rr (asB rfl) ?_
 refine Qd (Qy ?_)
 refine ⟨_, Qp rfl rfl, ?_⟩
 refine ⟨cvB ?_, hX⟩
 all_goals (rfl)

theorem cdec_ok (x : Itm) (w : World) : Ok Tryz.prog 51 #[.agg (encIp x).toArray] w fun v w' => v = .bool (x.d == 3 || x.d == 4) ∧ Ext False w w' := by
 refine Qz 11 func51 rfl rfl rfl ?_
 have hX := xRf w
 refine Qe (Qc ?_)
 refine QJ rfl (Q4 (v := .agg _) rfl) ?_
 intro b1 w1 x2 hge1 hb1
 change Box _ _ _ (encIp _) at hb1
 replace hX := hX.ex x2
 refine Rr Qm ?_
 refine Qd (Qe (Qc ?_))
 refine Rr (Qx underlying56 rfl sizeOf54 rfl) ?_
 refine Rr (Qn isAgg54 rfl (hb1.at.get 3 rfl)) ?_
 refine Rr (Q0 rfl rfl) ?_
 refine Rr (mvB rfl) ?_
 refine Qq 3 6 rfl rfl rfl (fun hg => (Qx underlying56 rfl sizeOf54 rfl)) ?_
 refine Qq 3 6 rfl rfl rfl (fun hg => (Qn isAgg54 (QE (u := undef) hg) (hb1.at.get 3 rfl))) ?_
 refine Qq 3 6 rfl rfl rfl (fun hg => (Q0 (QE (u := undef) hg) rfl)) ?_
 refine Rr (o_or (u := undef) rfl rfl) ?_
 refine Rr (asB rfl) ?_
 refine Qd (Qy ?_)
 refine ⟨_, Qp rfl rfl, ?_⟩
 refine ⟨cvB ?_, hX⟩
 all_goals (rfl)

set_option maxHeartbeats 2000000 in
theorem cval_ok (b : Nat) (c : Cpg) (u : Value) (x y : Itm) (w : World) (hb : Box w b 73 (cgC c u)) (hx : RgI x) : Ok Tryz.prog 27 #[.pointer (some ⟨b, 0, none⟩), .agg (encIp x).toArray, .agg (encIp y).toArray] w fun v w' => v = .bool (decide (OkB c x y)) ∧ Ext False w w' := by
 refine Qz 124 func27 rfl rfl rfl ?_
 have hX := xRf w
 refine Qe (Qc ?_)
 refine QJ rfl (Q4 (v := .agg _) rfl) ?_
 intro b4 w1 x2 hge4 hb4
 change Box _ _ _ (encIp _) at hb4
 replace hX := hX.ex x2
 replace hb := hb.ext x2
 refine QJ rfl (Q4 (v := .agg _) rfl) ?_
 intro b5 w3 x4 hge5 hb5
 change Box _ _ _ (encIp _) at hb5
 replace hX := hX.ex x4
 replace hb := hb.ext x4
 replace hb4 := hb4.ext x4
 refine Rr Qm ?_
 refine Qd (Qe (Qc ?_))
 refine Rr o_assignf ?_
 refine Qd (Qe (QB (Qe (Qc ?_))))
 refine Rr (Ql (v := .func _ _ _) rfl) ?_
 refine Rr (Qx underlying56 rfl sizeOf3 rfl) ?_
 refine Rr (Qn isAgg3 rfl (hb4.at.get 0 rfl)) ?_
 refine Qo rfl (o_clo1 call65 rfl rfl) (Ok.mono (cvu_ok x.u _) ?_)
 rintro _ w5 ⟨rfl, x6⟩
 replace hX := hX.ex x6
 replace hb := hb.ext x6
 replace hb4 := hb4.ext x6
 replace hb5 := hb5.ext x6
 refine Rr (Q5 rfl) ?_
 refine Rr (mvB rfl) ?_
 refine Qq 5 14 rfl rfl rfl (fun hg => (Ql (v := .func _ _ _) rfl)) ?_
 refine Qq 5 14 rfl rfl rfl (fun hg => (Qx underlying56 rfl sizeOf3 rfl)) ?_
 refine Qq 5 14 rfl rfl rfl (fun hg => (Qn isAgg3 (QE (u := undef) hg) (hb4.at.get 2 rfl))) ?_
 refine Rg_mayCall 5 14 rfl rfl rfl (fun hg => ⟨(o_clo1 call65 (QE (u := undef) hg) (QE (u := undef) hg)), cvu_ok x.v _⟩) ?_
 intro w7 x8
 replace hX := hX.ex x8
 replace hb := hb.ext x8
 replace hb4 := hb4.ext x8
 replace hb5 := hb5.ext x8
 refine Qq 5 14 rfl rfl rfl (fun hg => (Q5 (QE (u := undef) hg))) ?_
 refine Rr (o_or (u := undef) rfl rfl) ?_
 refine Rr (mvB rfl) ?_
 refine Qq 12 21 rfl rfl rfl (fun hg => (Qx underlying56 rfl sizeOf3 rfl)) ?_
 refine Qq 12 21 rfl rfl rfl (fun hg => (Qn isAgg3 (QE (u := undef) hg) (hb4.at.get 1 rfl))) ?_
 refine Qq 12 21 rfl rfl rfl (fun hg => (QQ (QE (u := undef) hg) rfl)) ?_
 refine Rr (o_or (u := undef) rfl rfl) ?_
 refine Rr (mvB rfl) ?_
 refine Qq 17 26 rfl rfl rfl (fun hg => (Qx underlying56 rfl sizeOf54 rfl)) ?_
 refine Qq 17 26 rfl rfl rfl (fun hg => (Qn isAgg54 (QE (u := undef) hg) (hb4.at.get 3 rfl))) ?_
 refine Qq 17 26 rfl rfl rfl (fun hg => (QQ (QE (u := undef) hg) rfl)) ?_
 refine Rr (o_or (u := undef) rfl rfl) ?_
 refine Rr (mvB rfl) ?_
 refine Qq 22 31 rfl rfl rfl (fun hg => (Qx underlying56 rfl sizeOf54 rfl)) ?_
 refine Qq 22 31 rfl rfl rfl (fun hg => (Qn isAgg54 (QE (u := undef) hg) (hb4.at.get 3 rfl))) ?_
 refine Qq 22 31 rfl rfl rfl (fun hg => (o_gtr (QE (u := undef) hg) rfl)) ?_
 refine Rr (o_or (u := undef) rfl rfl) ?_
 refine Rr (asB rfl) ?_
 refine Qd ?_
 refine QD rfl (fun hc1 => ?_) (fun hc1 => ?_)
 ·refine Qe (Qc ?_)
  refine Rr Qm ?_
  refine Qd (Qy ?_)
  refine ⟨_, Qp rfl rfl, ?_⟩
  refine ⟨cvB ?_, hX⟩
  all_goals (exact (decide_eq_false (fun h => by unfold OkB OkT LtI at h; simp at hc1; omega)).symm)
 refine Qe (Qc ?_)
 refine Rr (Qx underlying56 rfl sizeOf3 rfl) ?_
 refine Rr (Qn isAgg3 rfl (hb4.at.get 0 rfl)) ?_
 refine Rr (Qx underlying56 rfl sizeOf3 rfl) ?_
 refine Rr (Qn isAgg3 rfl (hb5.at.get 0 rfl)) ?_
 refine Rr (QQ rfl rfl) ?_
 refine Rr (mvB rfl) ?_
 refine Qq 5 42 rfl rfl rfl (fun hg => (Qx underlying56 rfl sizeOf3 rfl)) ?_
 refine Qq 5 42 rfl rfl rfl (fun hg => (Qn isAgg3 (QE (u := undef) hg) (hb4.at.get 0 rfl))) ?_
 refine Qq 5 42 rfl rfl rfl (fun hg => (Qx underlying56 rfl sizeOf3 rfl)) ?_
 refine Qq 5 42 rfl rfl rfl (fun hg => (Qn isAgg3 (QE (u := undef) hg) (hb5.at.get 0 rfl))) ?_
 refine Qq 5 42 rfl rfl rfl (fun hg => (Q0 (QE (u := undef) hg) (QE (u := undef) hg))) ?_
 refine Qq 5 42 rfl rfl rfl (fun hg => (Ql (v := .bool _) (QE (u := undef) hg))) ?_
 refine Rg_may2 11 48 rfl rfl rfl (fun hg => (Qx underlying56 rfl sizeOf3 rfl)) ?_
 refine Rg_may2 11 48 rfl rfl rfl (fun hg => (Qn isAgg3 (QE (u := undef) hg) (hb4.at.get 1 rfl))) ?_
 refine Rg_may2 11 48 rfl rfl rfl (fun hg => (Qx underlying56 rfl sizeOf3 rfl)) ?_
 refine Rg_may2 11 48 rfl rfl rfl (fun hg => (Qn isAgg3 (QE (u := undef) hg) (hb5.at.get 1 rfl))) ?_
 refine Rg_may2 11 48 rfl rfl rfl (fun hg => (o_leq (QE (u := undef) hg) (QE (u := undef) hg))) ?_
 refine Qq 5 42 rfl rfl rfl (fun hg => (o_and (u := undef) (QE (u := undef) hg) (gand (u := undef) hg))) ?_
 refine Rr (o_or (u := undef) rfl rfl) ?_
 refine Rr (asB rfl) ?_
 refine Qd ?_
 refine QD rfl (fun hc2 => ?_) (fun hc2 => ?_)
 ·refine Qe (Qc ?_)
  refine Rr Qm ?_
  refine Qd (Qy ?_)
  refine ⟨_, Qp rfl rfl, ?_⟩
  refine ⟨cvB ?_, hX⟩
  all_goals (exact (decide_eq_false (fun h => by unfold OkB OkT LtI at h; simp at hc2; omega)).symm)
 refine Qe ?_
 apply W_draw (β := False) [peq _, peq _, peq _, peq _, peq _, peq _, peq _, peq _, peq _, peq _, peq _, peq _, peq _, peq _, peq _] 15 Q9 (by kernel_rfl) rfl ⟨Qf _, Qf _, Qf _, Qf _, Qf _, Qf _, Qf _, Qf _, Qf _, Qf _, Qf _, Qf _, Qf _, Qf _, Qf _, trivial⟩ ?ob6 ?fin6
 case ob6 =>
  refine Qh (fun w9 x10 => ?_) ?_
  ·refine Qg ?_
   exact Qt rfl (Qx underlying56 rfl sizeOf3 rfl)
  refine Qh (fun w11 x12 => ?_) ?_
  ·have hb4 := hb4.ext x12
   refine Qa (Qg ?_)
   exact Qt rfl (Qn isAgg3 rfl (hb4.at.get 0 rfl))
  refine Qh (fun w13 x14 => ?_) ?_
  ·refine Qg ?_
   exact Qt rfl (Qx underlying56 rfl sizeOf3 rfl)
  refine Qh (fun w15 x16 => ?_) ?_
  ·have hb4 := hb4.ext x16
   refine Qa (Qg ?_)
   exact Qt rfl (Qn isAgg3 rfl (hb4.at.get 2 rfl))
  refine Qh (fun w17 x18 => ?_) ?_
  ·refine Qa (Qa (Qg ?_))
   exact Qt rfl (Q0 rfl rfl)
  refine Qh (fun w19 x20 => ?_) ?_
  ·refine Qa (Qg ?_)
   exact Qt rfl (mvB rfl)
  refine Qh (fun w21 x22 => ?_) ?_
  ·refine Qa (Qg ?_)
   exact QN 5 62 rfl rfl (fun hg => (Qx underlying56 rfl sizeOf3 rfl))
  refine Qh (fun w23 x24 => ?_) ?_
  ·have hb4 := hb4.ext x24
   refine Qa (Qa (Qg ?_))
   exact QN 5 62 rfl rfl (fun hg => (Qn isAgg3 (QE (u := undef) hg) (hb4.at.get 0 rfl)))
  refine Qh (fun w25 x26 => ?_) ?_
  ·refine Qa (Qg ?_)
   exact QN 5 62 rfl rfl (fun hg => (Ql (v := .pointer _) rfl))
  refine Qh (fun w27 x28 => ?_) ?_
  ·refine Qa (Qa (Qg ?_))
   exact QN 5 62 rfl rfl (fun hg => (QG (QE (u := undef) hg)))
  refine Qh (fun w29 x30 => ?_) ?_
  ·refine Qa (Qa (Qg ?_))
   exact QN 5 62 rfl rfl (fun hg => (Qx underlying73 rfl sizeOf3 (QE (u := undef) hg)))
  refine Qh (fun w31 x32 => ?_) ?_
  ·have hb := hb.ext x32
   refine Qa (Qa (Qg ?_))
   exact QN 5 62 rfl rfl (fun hg => (Qn isAgg3 (QE (u := undef) hg) (hb.at.get 3 rfl)))
  refine Qh (fun w33 x34 => ?_) ?_
  ·refine Qa (Qa (Qa (Qg ?_)))
   exact QN 5 62 rfl rfl (fun hg => (Q0 (QE (u := undef) hg) (QE (u := undef) hg)))
  refine Qh (fun w35 x36 => ?_) ?_
  ·refine Qa (Qa (Qg ?_))
   exact Qt rfl (o_or (u := undef) rfl rfl)
  refine Qh (fun w37 x38 => ?_) ?_
  ·refine Qa (Qa (Qg ?_))
   exact Qt rfl (asB rfl)
  exact Q7
 case fin6 =>
  intro w39 x40
  replace hX := hX.ex x40
  replace hb := hb.ext x40
  replace hb4 := hb4.ext x40
  refine Qa (Qa (Qa (Qa (Qa (Qa (Qa (Qa (Qa ?_))))))))
  refine Qa (Qa (Qa (Qa (Qa (Qa (Qg (Qd ?_)))))))
  refine QD rfl (fun hc3 => ?_) (fun hc3 => ?_)
  ·refine Qe (Qc ?_)
   refine Rr Qm ?_
   refine Qd (Qy ?_)
   refine ⟨_, Qp rfl rfl, ?_⟩
   refine ⟨cvB ?_, hX⟩
   all_goals (exact (decide_eq_false (fun h => by unfold OkB OkT LtI at h; simp at hc3; omega)).symm)
  refine Qe ?_
  apply W_draw (β := False) [peq _, peq _, peq _, peq _, peq _, peq _, peq _, peq _, peq _, peq _, peq _, peq _, peq _, peq _, peq _, peq _, peq _, peq _, peq _, peq _, peq _, peq _, peq _, peq _, peq _, peq _, peq _, peq _, peq _, peq _, peq _, peq _, peq _, peq _, peq _, peq _, peq _, peq _, peq _, peq _] 40 Q9 (by kernel_rfl) rfl ⟨Qf _, Qf _, Qf _, Qf _, Qf _, Qf _, Qf _, Qf _, Qf _, Qf _, Qf _, Qf _, Qf _, Qf _, Qf _, Qf _, Qf _, Qf _, Qf _, Qf _, Qf _, Qf _, Qf _, Qf _, Qf _, Qf _, Qf _, Qf _, Qf _, Qf _, Qf _, Qf _, Qf _, Qf _, Qf _, Qf _, Qf _, Qf _, Qf _, Qf _, trivial⟩ ?ob8 ?fin8
  case ob8 =>
   refine Qh (fun w41 x42 => ?_) ?_
   ·refine Qg ?_
    exact Qt rfl (Qx underlying56 rfl sizeOf54 rfl)
   refine Qh (fun w43 x44 => ?_) ?_
   ·have hb4 := hb4.ext x44
    refine Qa (Qg ?_)
    exact Qt rfl (Qn isAgg54 rfl (hb4.at.get 3 rfl))
   refine Qh (fun w45 x46 => ?_) ?_
   ·refine Qa (Qg ?_)
    exact Qt rfl (Q0 rfl rfl)
   refine Qh (fun w47 x48 => ?_) ?_
   ·refine Qa (Qg ?_)
    exact Qt rfl (mvB rfl)
   refine Qh (fun w49 x50 => ?_) ?_
   ·refine Qa (Qg ?_)
    exact QN 3 75 rfl rfl (fun hg => (Ql (v := .pointer _) rfl))
   refine Qh (fun w51 x52 => ?_) ?_
   ·refine Qa (Qa (Qg ?_))
    exact QN 3 75 rfl rfl (fun hg => (QG (QE (u := undef) hg)))
   refine Qh (fun w53 x54 => ?_) ?_
   ·refine Qa (Qa (Qg ?_))
    exact QN 3 75 rfl rfl (fun hg => (Qx underlying73 rfl sizeOf3 (QE (u := undef) hg)))
   refine Qh (fun w55 x56 => ?_) ?_
   ·have hb := hb.ext x56
    refine Qa (Qa (Qg ?_))
    exact QN 3 75 rfl rfl (fun hg => (Qn isAgg3 (QE (u := undef) hg) (hb.at.get 0 rfl)))
   refine Qh (fun w57 x58 => ?_) ?_
   ·refine Qa (Qg ?_)
    exact QN 3 75 rfl rfl (fun hg => (Ql (v := .pointer _) rfl))
   refine Qh (fun w59 x60 => ?_) ?_
   ·refine Qa (Qa (Qg ?_))
    exact QN 3 75 rfl rfl (fun hg => (QG (QE (u := undef) hg)))
   refine Qh (fun w61 x62 => ?_) ?_
   ·refine Qa (Qa (Qg ?_))
    exact QN 3 75 rfl rfl (fun hg => (Qx underlying73 rfl sizeOf3 (QE (u := undef) hg)))
   refine Qh (fun w63 x64 => ?_) ?_
   ·have hb := hb.ext x64
    refine Qa (Qa (Qg ?_))
    exact QN 3 75 rfl rfl (fun hg => (Qn isAgg3 (QE (u := undef) hg) (hb.at.get 1 rfl)))
   refine Qh (fun w65 x66 => ?_) ?_
   ·refine Qa (Qa (Qa (Qg ?_)))
    exact QN 3 75 rfl rfl (fun hg => (o_gtr (QE (u := undef) hg) (QE (u := undef) hg)))
   refine Qh (fun w67 x68 => ?_) ?_
   ·refine Qa (Qa (Qg ?_))
    exact Qt rfl (o_and (u := undef) rfl rfl)
   refine Qh (fun w69 x70 => ?_) ?_
   ·refine Qa (Qa (Qg ?_))
    exact Qt rfl (mvB rfl)
   refine Qh (fun w71 x72 => ?_) ?_
   ·refine Qa (Qg ?_)
    exact QN 14 86 rfl rfl (fun hg => (Qx underlying56 rfl sizeOf54 rfl))
   refine Qh (fun w73 x74 => ?_) ?_
   ·have hb4 := hb4.ext x74
    refine Qa (Qa (Qg ?_))
    exact QN 14 86 rfl rfl (fun hg => (Qn isAgg54 (QE (u := undef) hg) (hb4.at.get 3 rfl)))
   refine Qh (fun w75 x76 => ?_) ?_
   ·refine Qa (Qa (Qg ?_))
    exact QN 14 86 rfl rfl (fun hg => (Q0 (QE (u := undef) hg) rfl))
   refine Qh (fun w77 x78 => ?_) ?_
   ·refine Qa (Qa (Qa (Qg ?_)))
    exact QN 14 86 rfl rfl (fun hg => (Ql (v := .bool _) (QE (u := undef) hg)))
   refine Qh (fun w79 x80 => ?_) ?_
   ·refine Qa (Qg ?_)
    exact QR 18 90 rfl rfl (fun hg => (Ql (v := .pointer _) rfl))
   refine Qh (fun w81 x82 => ?_) ?_
   ·refine Qa (Qa (Qg ?_))
    exact QR 18 90 rfl rfl (fun hg => (QG (QE (u := undef) hg)))
   refine Qh (fun w83 x84 => ?_) ?_
   ·refine Qa (Qa (Qg ?_))
    exact QR 18 90 rfl rfl (fun hg => (Qx underlying73 rfl sizeOf3 (QE (u := undef) hg)))
   refine Qh (fun w85 x86 => ?_) ?_
   ·have hb := hb.ext x86
    refine Qa (Qa (Qg ?_))
    exact QR 18 90 rfl rfl (fun hg => (Qn isAgg3 (QE (u := undef) hg) (hb.at.get 0 rfl)))
   refine Qh (fun w87 x88 => ?_) ?_
   ·refine Qa (Qg ?_)
    exact QR 18 90 rfl rfl (fun hg => (Ql (v := .pointer _) rfl))
   refine Qh (fun w89 x90 => ?_) ?_
   ·refine Qa (Qa (Qg ?_))
    exact QR 18 90 rfl rfl (fun hg => (QG (QE (u := undef) hg)))
   refine Qh (fun w91 x92 => ?_) ?_
   ·refine Qa (Qa (Qg ?_))
    exact QR 18 90 rfl rfl (fun hg => (Qx underlying73 rfl sizeOf3 (QE (u := undef) hg)))
   refine Qh (fun w93 x94 => ?_) ?_
   ·have hb := hb.ext x94
    refine Qa (Qa (Qg ?_))
    exact QR 18 90 rfl rfl (fun hg => (Qn isAgg3 (QE (u := undef) hg) (hb.at.get 1 rfl)))
   refine Qh (fun w95 x96 => ?_) ?_
   ·refine Qa (Qa (Qa (Qg ?_)))
    exact QR 18 90 rfl rfl (fun hg => (o_leq (QE (u := undef) hg) (QE (u := undef) hg)))
   refine Qh (fun w97 x98 => ?_) ?_
   ·refine Qa (Qa (Qa (Qg ?_)))
    exact QR 18 90 rfl rfl (fun hg => (Ql (v := .bool _) (QE (u := undef) hg)))
   refine Qh (fun w99 x100 => ?_) ?_
   ·refine Qa (Qg ?_)
    exact QR 28 100 rfl rfl (fun hg => (Qx underlying56 rfl sizeOf3 rfl))
   refine Qh (fun w101 x102 => ?_) ?_
   ·have hb4 := hb4.ext x102
    refine Qa (Qa (Qg ?_))
    exact QR 28 100 rfl rfl (fun hg => (Qn isAgg3 (QE (u := undef) hg) (hb4.at.get 2 rfl)))
   refine Qh (fun w103 x104 => ?_) ?_
   ·refine Qa (Qg ?_)
    exact QR 28 100 rfl rfl (fun hg => (Ql (v := .pointer _) rfl))
   refine Qh (fun w105 x106 => ?_) ?_
   ·refine Qa (Qa (Qg ?_))
    exact QR 28 100 rfl rfl (fun hg => (QG (QE (u := undef) hg)))
   refine Qh (fun w107 x108 => ?_) ?_
   ·refine Qa (Qa (Qg ?_))
    exact QR 28 100 rfl rfl (fun hg => (Qx underlying73 rfl sizeOf3 (QE (u := undef) hg)))
   refine Qh (fun w109 x110 => ?_) ?_
   ·have hb := hb.ext x110
    refine Qa (Qa (Qg ?_))
    exact QR 28 100 rfl rfl (fun hg => (Qn isAgg3 (QE (u := undef) hg) (hb.at.get 3 rfl)))
   refine Qh (fun w111 x112 => ?_) ?_
   ·refine Qa (Qa (Qa (Qg ?_)))
    exact QR 28 100 rfl rfl (fun hg => (o_neq (QE (u := undef) hg) (QE (u := undef) hg)))
   refine Qh (fun w113 x114 => ?_) ?_
   ·refine Qa (Qa (Qa (Qg ?_)))
    exact QR 18 90 rfl rfl (fun hg => (o_or (u := undef) (QE (u := undef) hg) (gand (u := undef) hg)))
   refine Qh (fun w115 x116 => ?_) ?_
   ·refine Qa (Qa (Qa (Qg ?_)))
    exact QN 14 86 rfl rfl (fun hg => (o_and (u := undef) (QE (u := undef) hg) (gand (u := undef) hg)))
   refine Qh (fun w117 x118 => ?_) ?_
   ·refine Qa (Qa (Qg ?_))
    exact Qt rfl (o_or (u := undef) rfl rfl)
   refine Qh (fun w119 x120 => ?_) ?_
   ·refine Qa (Qa (Qg ?_))
    exact Qt rfl (asB rfl)
   exact Q7
  case fin8 =>
   intro w121 x122
   replace hX := hX.ex x122
   replace hb := hb.ext x122
   replace hb4 := hb4.ext x122
   refine Qa (Qa (Qa (Qa (Qa (Qa (Qa (Qa (Qa ?_))))))))
   refine Qa (Qa (Qa (Qa (Qa (Qa (Qa (Qa (Qa ?_))))))))
   refine Qa (Qa (Qa (Qa (Qa (Qa (Qa (Qa (Qa ?_))))))))
   refine Qa (Qa (Qa (Qa (Qa (Qa (Qa (Qa (Qa ?_))))))))
   refine Qa (Qa (Qa (Qa (Qg (Qd ?_)))))
   refine QD rfl (fun hc4 => ?_) (fun hc4 => ?_)
   ·refine Qe (Qc ?_)
    refine Rr Qm ?_
    refine Qd (Qy ?_)
    refine ⟨_, Qp rfl rfl, ?_⟩
    refine ⟨cvB ?_, hX⟩
    all_goals (exact (decide_eq_false (fun h => by unfold OkB OkT LtI at h; simp at hc4; omega)).symm)
   refine Qu (Qe ?_)
   apply W_draw (β := False) [peq _, peq _, peq _, peq _, peq _, peq _, peq _, peq _, peq _, peq _, peq _, peq _, peq _, peq _] 14 Q9 (by kernel_rfl) rfl ⟨Qf _, Qf _, Qf _, Qf _, Qf _, Qf _, Qf _, Qf _, Qf _, Qf _, Qf _, Qf _, Qf _, Qf _, trivial⟩ ?ob10 ?fin10
   case ob10 =>
    refine Qh (fun w123 x124 => ?_) ?_
    ·have hb4 := hb4.ext x124
     refine Qg ?_
     exact Qt rfl (QO isAgg56 sizeOf56 rfl hb4.at rfl)
    refine Qh (fun w125 x126 => ?_) ?_
    ·refine Qa (Qg ?_)
     exact OpS_call rfl (QA call51 rfl) (cdec_ok x _)
    refine Qh (fun w127 x128 => ?_) ?_
    ·refine Qa (Qa (Qg ?_))
     exact Qt rfl (mvB rfl)
    refine Qh (fun w129 x130 => ?_) ?_
    ·refine Qa (Qg ?_)
     exact QN 2 113 rfl rfl (fun hg => (Ql (v := .pointer _) rfl))
    refine Qh (fun w131 x132 => ?_) ?_
    ·refine Qa (Qa (Qg ?_))
     exact QN 2 113 rfl rfl (fun hg => (QG (QE (u := undef) hg)))
    refine Qh (fun w133 x134 => ?_) ?_
    ·refine Qa (Qa (Qg ?_))
     exact QN 2 113 rfl rfl (fun hg => (Qx underlying73 rfl sizeOf3 (QE (u := undef) hg)))
    refine Qh (fun w135 x136 => ?_) ?_
    ·have hb := hb.ext x136
     refine Qa (Qa (Qg ?_))
     exact QN 2 113 rfl rfl (fun hg => (Qn isAgg3 (QE (u := undef) hg) (hb.at.get 0 rfl)))
    refine Qh (fun w137 x138 => ?_) ?_
    ·refine Qa (Qg ?_)
     exact QN 2 113 rfl rfl (fun hg => (Ql (v := .pointer _) rfl))
    refine Qh (fun w139 x140 => ?_) ?_
    ·refine Qa (Qa (Qg ?_))
     exact QN 2 113 rfl rfl (fun hg => (QG (QE (u := undef) hg)))
    refine Qh (fun w141 x142 => ?_) ?_
    ·refine Qa (Qa (Qg ?_))
     exact QN 2 113 rfl rfl (fun hg => (Qx underlying73 rfl sizeOf3 (QE (u := undef) hg)))
    refine Qh (fun w143 x144 => ?_) ?_
    ·have hb := hb.ext x144
     refine Qa (Qa (Qg ?_))
     exact QN 2 113 rfl rfl (fun hg => (Qn isAgg3 (QE (u := undef) hg) (hb.at.get 2 rfl)))
    refine Qh (fun w145 x146 => ?_) ?_
    ·refine Qa (Qa (Qa (Qg ?_)))
     exact QN 2 113 rfl rfl (fun hg => (o_leq (QE (u := undef) hg) (QE (u := undef) hg)))
    refine Qh (fun w147 x148 => ?_) ?_
    ·refine Qa (Qa (Qg ?_))
     exact Qt rfl (o_or (u := undef) rfl rfl)
    refine Qh (fun w149 x150 => ?_) ?_
    ·refine Qa (Qa (Qa (Qa (Qa (Qa (Qa (Qa (Qa ?_))))))))
     refine Qa (Qa (Qa (Qa (Qa (Qa (Qg ?_))))))
     exact Qt rfl (asB rfl)
    exact Q7
   case fin10 =>
    intro w151 x152
    replace hX := hX.ex x152
    refine Qa (Qa (Qa (Qa (Qa (Qa (Qa (Qa (Qa ?_))))))))
    refine Qa (Qa (Qa (Qa (Qa (Qg (Qd (Qy ?_)))))))
    refine ⟨_, Qp rfl rfl, ?_⟩
    refine ⟨cvB ?_, hX⟩
    all_goals (rw [Bool.eq_iff_iff]; unfold RgI at hx; simp at hc1 hc2 hc3 hc4 ⊢; unfold OkB OkT LtI; omega)

theorem cday_ok (b : Nat) (c : Cpg) (u : Value) (w : World) (hb : Box w b 73 (cgC c u)) : Ok Tryz.prog 30 #[.pointer (some ⟨b, 0, none⟩)] w fun v w' => v = .int .i64 c.day ∧ Ext False w w' := by
 refine Qz 9 func30 rfl rfl rfl ?_
 have hX := xRf w
 refine Qe (Qc ?_)
 refine Rr Qm ?_
 refine Qd (Qe (Qe (Qc ?_)))
 refine Rr (Ql (v := .pointer _) rfl) ?_
 refine Rr (o_peq underlying32 rfl rfl) ?_
 refine Qd ?_
 refine Qr rfl ?_
 refine Qu (Qe (Qc ?_))
 refine Rr (Ql (v := .pointer _) rfl) ?_
 refine Rr (QG rfl) ?_
 refine Rr (Qx underlying73 rfl sizeOf3 rfl) ?_
 refine Rr (Qn isAgg3 rfl (hb.at.get 0 rfl)) ?_
 refine Rr (asI rfl) ?_
 refine Qd (Qy ?_)
 refine ⟨_, Qp rfl rfl, ?_⟩
 refine ⟨congrArg (Value.int .i64) ?_, hX⟩
 all_goals (rfl)

theorem cfin1_ok (x : Itm) (w : World) : Ok Tryz.prog 55 #[.agg (encIp x).toArray] w fun v w' => v = .bool (!(x.d == 3 || x.d == 4)) ∧ Ext False w w' := by
 refine Qz 6 func55 rfl rfl rfl ?_
 have hX := xRf w
 refine Qe (Qc ?_)
 refine QJ rfl (Q4 (v := .agg _) rfl) ?_
 intro b1 w1 x2 hge1 hb1
 change Box _ _ _ (encIp _) at hb1
 replace hX := hX.ex x2
 refine Rr Qm ?_
 refine Qd (Qe (Qc ?_))
 refine Rr (QO isAgg56 sizeOf56 rfl hb1.at rfl) ?_
 refine Qo rfl (QA call51 rfl) (Ok.mono (cdec_ok x _) ?_)
 rintro _ w3 ⟨rfl, x4⟩
 replace hX := hX.ex x4
 refine Rr (Q5 rfl) ?_
 refine Rr (asB rfl) ?_
 refine Qd (Qy ?_)
 refine ⟨_, Qp rfl rfl, ?_⟩
 refine ⟨cvB ?_, hX⟩
 all_goals (rfl)

theorem kidxf_ok (a : Option Addr) (c : Nat) (B : Nat → Prop) (l : List Itm) (fid : FuncId) (cs : Array Value) (p : Itm → Bool) (w : World) (hs : Sl encIp 4 B w a c l) (hent : ∀ args w, (callFunc fid args).run Tryz.prog w = .ok (.enter fid args) w) (hp : ∀ x ∈ l, ∀ w', Ext False w w' → Ok Tryz.prog fid (#[.agg (encIp x).toArray] ++ cs) w' fun v w'' => v = .bool (p x) ∧ Ext False w' w'') : Ok Tryz.prog 90 #[.slice a l.length c, .func (.func fid) #[] cs] w fun v w' => v = .int .i64 (ixOf p l) ∧ Ext False w w' := by
 have hlen := hs.len
 refine Qz 19 func90 rfl rfl rfl ?_
 have hX := xRf w
 refine Qe (Qc ?_)
 refine Rr Qm ?_
 refine Qd (Qe (Qe (Qc ?_)))
 refine Rr (mvS rfl) ?_
 refine Rr (QK underlying53 rfl) ?_
 refine Rr QT ?_
 refine Qd (QB ?_)
 refine Za (α := Nat) [(4, 5), (8, 18)] (fun k => [(8, .int .i64 (k : Int))]) (fun k w' => (k ≤ l.length ∧ (l.take k).any p = false) ∧ Ext False w w') (fun k => l.length - k) 0 ⟨rfl, trivial⟩ ⟨⟨by omega, by simp⟩, Bel.refl _ _⟩ ?_
 rintro k fb3 w2 ⟨⟨hk, hall⟩, hXL1⟩
 replace hX := hX.ex hXL1
 replace hs := hs.ext hXL1
 refine Qe (Qc ?_)
 refine Rr (QQ rfl rfl) ?_
 refine Qd (Qe ?_)
 refine QD rfl (fun hc1 => ?_) (fun hc1 => ?_)
 ·replace hc1 := dcT hc1
  refine Qu (Qe (QB (Qe (Qc ?_))))
  refine Rr (mvI rfl) ?_
  refine Rr (asI rfl) ?_
  refine Qd (Qe (Qc ?_))
  refine Rr (Ql (v := .func _ _ _) rfl) ?_
  refine Rr (mvS rfl) ?_
  refine Rr (mvI rfl) ?_
  refine Rr (Zg underlying53 sizeOf56 hs rfl rfl omg) ?_
  refine Rr (o_ldRS isAgg56 sizeOf56 hs rfl (getE itz (by omega))) ?_
  refine Qo rfl (o_clo1 hent rfl rfl) (Ok.mono (hp _ (gm (z := itz) (show k < l.length by omega)) _ hX) ?_)
  rintro _ w4 ⟨rfl, x5⟩
  replace hX := hX.ex x5
  replace hXL1 := Bel.ex hXL1 x5
  refine Qd ?_
  refine QD rfl (fun hc2 => ?_) (fun hc2 => ?_)
  ·refine Qe (Qc ?_)
   refine Rr (mvI rfl) ?_
   refine Rr (asI rfl) ?_
   refine Qd (Qy ?_)
   refine ⟨_, Qp rfl rfl, ?_⟩
   refine ⟨congrArg (Value.int .i64) ?_, hX⟩
   all_goals (exact (ixOf_at (by omega) hall (by simpa [List.getD, show k < l.length by omega] using hc2)).symm)
  refine Qu (Qc ?_)
  refine Rr (Q6 rfl rfl omg) ?_
  refine Rr (mvI rfl) ?_
  refine Qd ?_
  refine ⟨k + 1, ⟨sT, trivial⟩, oT, ⟨?_, hXL1⟩, ?_⟩
  ·exact ⟨by omega, anyT_succ (by omega) hall (by simpa [List.getD, show k < l.length by omega] using hc2)⟩
  ·omega
 replace hc1 := dcF hc1
 refine QS (QL (Qe (Qc ?_)))
 refine Rr Qm ?_
 refine Qd (Qy ?_)
 refine ⟨_, Qp rfl rfl, ?_⟩
 refine ⟨congrArg (Value.int .i64) ?_, hX⟩
 all_goals (exact (ixOf_none (k := k) (by omega) hall).symm)

theorem kcontf_ok (a : Option Addr) (c : Nat) (B : Nat → Prop) (l : List Itm) (fid : FuncId) (cs : Array Value) (p : Itm → Bool) (w : World) (hs : Sl encIp 4 B w a c l) (hent : ∀ args w, (callFunc fid args).run Tryz.prog w = .ok (.enter fid args) w) (hp : ∀ x ∈ l, ∀ w', Ext False w w' → Ok Tryz.prog fid (#[.agg (encIp x).toArray] ++ cs) w' fun v w'' => v = .bool (p x) ∧ Ext False w' w'') : Ok Tryz.prog 54 #[.slice a l.length c, .func (.func fid) #[] cs] w fun v w' => v = .bool (l.any p) ∧ Ext False w w' := by
 refine Qz 9 func54 rfl rfl rfl ?_
 have hX := xRf w
 refine Qe (Qc ?_)
 refine Rr Qm ?_
 refine Qd (Qe (Qc ?_))
 refine Rr (mvS rfl) ?_
 refine Rr (Ql (v := .func _ _ _) rfl) ?_
 refine Qo rfl (QM call90 rfl rfl) (Ok.mono (kidxf_ok _ _ _ _ _ _ _ _ hs hent hp) ?_)
 rintro _ w1 ⟨rfl, x2⟩
 replace hX := hX.ex x2
 refine Rr (o_geq rfl rfl) ?_
 refine Rr (asB rfl) ?_
 refine Qd (Qy ?_)
 refine ⟨_, Qp rfl rfl, ?_⟩
 refine ⟨cvB ?_, hX⟩
 all_goals (exact ixOf_ge _ _)

theorem cfin_ok (b : Nat) (c : Cpg) (a0 : Option Addr) (n0 : Nat) (G0 : Nat → Prop) (w : World) (hb : Box w b 73 (cgC c (.slice a0 c.l.length n0))) (hl : Sl encIp 4 G0 w a0 n0 c.l) : Ok Tryz.prog 17 #[.pointer (some ⟨b, 0, none⟩)] w fun v w' => v = .bool (!(c.l.any fun x => !(x.d == 3 || x.d == 4))) ∧ Ext False w w' := by
 refine Qz 13 func17 rfl rfl rfl ?_
 have hX := xRf w
 refine Qe (Qc ?_)
 refine Rr Qm ?_
 refine Qd (Qe (Qc ?_))
 refine Rr (Ql (v := .pointer _) rfl) ?_
 refine Rr (o_pne underlying32 rfl rfl) ?_
 refine Rr (mvB rfl) ?_
 refine QF 2 5 rfl rfl ?_
 refine Rr (Ql (v := .pointer _) rfl) ?_
 refine QF 2 5 rfl rfl ?_
 refine Rr (QG rfl) ?_
 refine QF 2 5 rfl rfl ?_
 refine Rr (Qx underlying73 rfl sizeOf53 rfl) ?_
 refine QF 2 5 rfl rfl ?_
 refine Rr (Qn isAgg53 rfl (hb.at.get 5 rfl)) ?_
 refine QF 2 5 rfl rfl ?_
 refine Qo rfl (QM call54 rfl rfl) (Ok.mono (kcontf_ok a0 n0 _ c.l 55 #[] (fun x => !(x.d == 3 || x.d == 4)) _ hl call55 (fun x _ w1 _ => cfin1_ok x w1)) ?_)
 rintro _ w1 ⟨rfl, x2⟩
 replace hX := hX.ex x2
 refine QF 2 5 rfl rfl ?_
 refine Rr (Q5 rfl) ?_
 refine Rr (Zb (v := .bool _) rfl rfl) ?_
 refine Rr (asB rfl) ?_
 refine Qd (Qy ?_)
 refine ⟨_, Qp rfl rfl, ?_⟩
 refine ⟨cvB ?_, hX⟩
 all_goals (rfl)

theorem itclone_ok (w : World) (vl : Value) (l : List Itm) (hl : Rd encIp 4 (Lt w.heap.size) w vl l) (nl : l.length ≤ 100000) : Ok Tryz.prog 50 #[vl] w fun v w' => Own encIp 4 56 (Fsh w w') w' v (l) ∧ Ext False w w' := by
 obtain ⟨al, cl, rfl, hl⟩ := hl; have ml := hl.len
 refine Qz 8 func50 rfl rfl rfl ?_
 have hX := xRf w
 refine Qe (Qc ?_)
 refine Rr Qm ?_
 refine Qd (Qe (Qe (Qc ?_)))
 refine Rr (mvS rfl) ?_
 refine Rr (o_lnil underlying53 rfl) ?_
 refine Qd ?_
 refine QD rfl (fun hc1 => ?_) (fun hc1 => ?_)
 ·have hnl := sl_none hl hc1; subst hnl
  refine Qe (Qc ?_)
  refine Rr Qm ?_
  refine Qd (Qy ?_)
  refine ⟨_, Qp rfl rfl, ?_⟩
  exact ⟨Own.nil _ _, hX⟩
 refine Qu (Qe (Qc ?_))
 refine Rg_bs (vs := []) (([] : List Itm)) rfl Zc el_ip rfl rfl trivial rfl rfl rfl rfl ?_
 intro a5 w1 x2 hown5
 have z3 := x2.size
 replace hX := hX.ex x2
 replace hl := hl.ext x2
 replace hown5 := hown5.mono (D' := fun g => w.heap.size ≤ g) (fun g h1 h2 => by omega)
 refine Rr (mvS rfl) ?_
 refine Rg_app rfl Zc el_ip rfl rfl hown5 hl rfl (by simp; omega) omU ?_
 intro v7 w4 x5 hown5
 have z6 := x5.size
 replace hX := Bel.out hX x5 om2
 refine Rr (Qv (v := v7) rfl) ?_
 refine Qd (Qy ?_)
 refine ⟨_, Qp rfl rfl, ?_⟩
 rw [List.nil_append] at hown5; exact ⟨hown5.mono (fun g h1 h2 => by omega), hX⟩

theorem citems_ok (b : Nat) (c : Cpg) (a0 : Option Addr) (n0 : Nat) (G0 : Nat → Prop) (w : World) (hb : Box w b 73 (cgC c (.slice a0 c.l.length n0))) (hl : Sl encIp 4 G0 w a0 n0 c.l) (hn : c.l.length ≤ 100000) : Ok Tryz.prog 14 #[.pointer (some ⟨b, 0, none⟩)] w fun v w' => Own encIp 4 56 (Fsh w w') w' v c.l ∧ Ext False w w' := by
 refine Qz 10 func14 rfl rfl rfl ?_
 have hX := xRf w
 refine Qe (Qc ?_)
 refine Rr Qm ?_
 refine Qd (Qe (Qe (Qc ?_)))
 refine Rr (Ql (v := .pointer _) rfl) ?_
 refine Rr (o_peq underlying32 rfl rfl) ?_
 refine Qd ?_
 refine Qr rfl ?_
 refine Qu (Qe (Qc ?_))
 refine Rr (Ql (v := .pointer _) rfl) ?_
 refine Rr (QG rfl) ?_
 refine Rr (Qx underlying73 rfl sizeOf53 rfl) ?_
 refine Rr (Qn isAgg53 rfl (hb.at.get 5 rfl)) ?_
 refine Qo rfl (QA call50 rfl) (Ok.mono (itclone_ok _ _ _ hl.trd (by first | assumption | omega | (simp; done) | (simp; omega) | (simp at *; omega))) ?_)
 rintro v9 w1 ⟨hown9, x2⟩
 have z3 := x2.size
 replace hX := hX.ex x2
 replace hown9 := hown9.mono (D' := fun g => w.heap.size ≤ g) (fun g h1 h2 => by omega)
 refine Rr (Qv (v := v9) rfl) ?_
 refine Qd (Qy ?_)
 refine ⟨_, Qp rfl rfl, ?_⟩
 exact ⟨hown9.mono (fun g h1 h2 => by omega), hX⟩

theorem eqI_k (d : Nat) {k : IntKind} {T : TypeId} (x y : Int) (h : Tryz.prog.underlying T = some (.int k)) : ∀ w, (Op.equalIn (d + 1) T (.int k x) (.int k y)).run Tryz.prog w = .ok (x == y) w := by
 intro w
 simp [Op.equalIn, run_underlying h]

theorem itBeq (x y : Itm) : (x == y) = ((x.u == y.u) && ((x.r == y.r) && ((x.v == y.v) && ((x.d == y.d) && true)))) := by
 obtain ⟨a0, a1, a2, a3⟩ := x
 obtain ⟨b0, b1, b2, b3⟩ := y
 rw [Bool.eq_iff_iff]
 simp only [Bool.and_eq_true, beq_iff_eq, Itm.mk.injEq, and_true]
theorem eq_itD (n : Nat) (x y : Itm) : ∀ w, (Op.equalIn (n + 2) 56 (.agg (encIp x).toArray) (.agg (encIp y).toArray)).run Tryz.prog w = .ok (x == y) w := fun w => by
 rw [run_equalIn_struct w (n + 1) _ _ _ (by kernel_rfl) (by kernel_rfl), itBeq, Program.fieldsOf, underlying56]
 exact (eqF_cons (by simp) isAgg3 rfl rfl (eqI_k _ _ _ underlying3) (eqF_cons (by simp) isAgg3 rfl rfl (eqI_k _ _ _ underlying3) (eqF_cons (by simp) isAgg3 rfl rfl (eqI_k _ _ _ underlying3) (eqF_cons (by simp) isAgg54 rfl rfl (eqI_k _ _ _ underlying54) eqF_nil)))) w
theorem eq_it : EqT Tryz.prog 56 encIp := ⟨by kernel_rfl, fun w x y => eq_itD 9998 x y w⟩
theorem eq_irD (n : Nat) (x y : Itm) : ∀ w, (Op.equalIn (n + 2) 29 (.agg (encIr x).toArray) (.agg (encIr y).toArray)).run Tryz.prog w = .ok (x == y) w := fun w => by
 rw [run_equalIn_struct w (n + 1) _ _ _ (by kernel_rfl) (by kernel_rfl), itBeq, Program.fieldsOf, underlying29]
 exact (eqF_cons (by simp) isAgg3 rfl rfl (eqI_k _ _ _ underlying3) (eqF_cons (by simp) isAgg3 rfl rfl (eqI_k _ _ _ underlying3) (eqF_cons (by simp) isAgg3 rfl rfl (eqI_k _ _ _ underlying3) (eqF_cons (by simp) isAgg3 rfl rfl (eqI_k _ _ _ underlying3) eqF_nil)))) w
theorem eq_ir : EqT Tryz.prog 29 encIr := ⟨by kernel_rfl, fun w x y => eq_irD 9998 x y w⟩
theorem itequal_ok (a b : Option Addr) (c d : Nat) (A C : Nat → Prop) (x y : List Itm) (w : World) (hx : Sl encIp 4 A w a c x) (hy : Sl encIp 4 C w b d y) : Ok Tryz.prog 13 #[.slice a x.length c, .slice b y.length d] w fun v w' => v = .bool (x == y) ∧ Ext False w w' := by
 have hlx := hx.len; have hly := hy.len
 replace hx := hx.mono (F' := fun g => g < w.heap.size) (fun g h1 h2 => h1)
 replace hy := hy.mono (F' := fun g => g < w.heap.size) (fun g h1 h2 => h1)
 refine Qz 26 func13 rfl rfl rfl ?_
 have hX := xRf w
 refine Qe (Qc ?_)
 refine Rr Qm ?_
 refine Qd (Qe (Qe (Qc ?_)))
 refine Rr (mvS rfl) ?_
 refine Rr (QK underlying53 rfl) ?_
 refine Rr (mvS rfl) ?_
 refine Rr (QK underlying53 rfl) ?_
 refine Rr (o_neq rfl rfl) ?_
 refine Qd ?_
 refine QD rfl (fun hc1 => ?_) (fun hc1 => ?_)
 ·skip
  refine Qe (Qc ?_)
  refine Rr Qm ?_
  refine Qd (Qy ?_)
  refine ⟨_, Qp rfl rfl, ?_⟩
  refine ⟨cvB ?_, hX⟩
  all_goals (exact (eqT_len (by simpa using hc1)).symm)
 have hle : (x.length : Int) = y.length := by simpa using hc1
 refine Qu (Qe (Qe (Qc ?_)))
 refine Rr (mvS rfl) ?_
 refine Rr (QK underlying53 rfl) ?_
 refine Rr QT ?_
 refine Qd (QB ?_)
 refine Za (α := Nat) [(4, 5), (13, 25)] (fun k => [(13, .int .i64 (k : Int))]) (fun k w' => (k ≤ x.length ∧ x.take k = y.take k) ∧ Ext False w w') (fun k => x.length - k) 0 ⟨rfl, trivial⟩ ⟨⟨by omega, by simp⟩, Bel.refl _ _⟩ ?_
 rintro k fb3 w2 ⟨⟨hk, hall⟩, hXL1⟩
 replace hX := hX.ex hXL1
 replace hx := hx.ext hXL1
 replace hy := hy.ext hXL1
 refine Qe (Qc ?_)
 refine Rr (QQ rfl rfl) ?_
 refine Qd (Qe ?_)
 refine QD rfl (fun hc2 => ?_) (fun hc2 => ?_)
 ·replace hc2 := dcT hc2
  refine Qu (Qe (QB (Qe (Qc ?_))))
  refine Rr (mvI rfl) ?_
  refine Rr (asI rfl) ?_
  refine Qd (Qe ?_)
  apply W_draw (β := False) [peq _, peq _, peq _, peq _, peq _, peq _, peq _, peq _, peq _] 9 Q9 (by kernel_rfl) rfl ⟨Qf _, Qf _, Qf _, Qf _, Qf _, Qf _, Qf _, Qf _, Qf _, trivial⟩ ?ob6 ?fin6
  case ob6 =>
   refine Qh (fun w4 x5 => ?_) ?_
   ·refine Qg ?_
    exact Qt rfl (mvS rfl)
   refine Qh (fun w6 x7 => ?_) ?_
   ·refine Qg ?_
    exact Qt rfl (mvI rfl)
   refine Qh (fun w8 x9 => ?_) ?_
   ·have hx := hx.ext x9
    refine Qa (Qa (Qg ?_))
    exact Qt rfl (Zg underlying53 sizeOf56 hx rfl rfl omg)
   refine Qh (fun w10 x11 => ?_) ?_
   ·have hx := hx.ext x11
    refine Qa (Qg ?_)
    exact Qt rfl (o_ldRS isAgg56 sizeOf56 hx rfl (getE itz (by omega)))
   refine Qh (fun w12 x13 => ?_) ?_
   ·refine Qg ?_
    exact Qt rfl (mvS rfl)
   refine Qh (fun w14 x15 => ?_) ?_
   ·refine Qg ?_
    exact Qt rfl (mvI rfl)
   refine Qh (fun w16 x17 => ?_) ?_
   ·have hy := hy.ext x17
    refine Qa (Qa (Qg ?_))
    exact Qt rfl (Zg underlying53 sizeOf56 hy rfl rfl omg)
   refine Qh (fun w18 x19 => ?_) ?_
   ·have hy := hy.ext x19
    refine Qa (Qg ?_)
    exact Qt rfl (o_ldRS isAgg56 sizeOf56 hy rfl (getE itz (by omega)))
   refine Qh (fun w20 x21 => ?_) ?_
   ·refine Qa (Qa (Qg ?_))
    exact Qt rfl (o_tneq eq_it rfl rfl)
   exact Q7
  case fin6 =>
   intro w22 x23
   replace hX := hX.ex x23
   replace hXL1 := Bel.ex hXL1 x23
   refine Qa (Qa (Qa (Qa (Qa (Qa (Qa (Qa (Qa ?_))))))))
   refine Qg (Qd ?_)
   refine QD rfl (fun hc3 => ?_) (fun hc3 => ?_)
   ·refine Qe (Qc ?_)
    refine Rr Qm ?_
    refine Qd (Qy ?_)
    refine ⟨_, Qp rfl rfl, ?_⟩
    refine ⟨cvB ?_, hX⟩
    all_goals (exact (eqT_ne (z := itz) (k := k) (by simpa using hc3)).symm)
   refine Qu (Qc ?_)
   refine Rr (Q6 rfl rfl omg) ?_
   refine Rr (mvI rfl) ?_
   refine Qd ?_
   refine ⟨k + 1, ⟨sT, trivial⟩, oT, ⟨?_, hXL1⟩, ?_⟩
   ·exact ⟨by omega, eqT_succ (z := itz) (by omega) (by omega) hall (by simpa using hc3)⟩
   ·omega
 replace hc2 := dcF hc2
 refine QS (QL (Qe (Qc ?_)))
 refine Rr Qm ?_
 refine Qd (Qy ?_)
 refine ⟨_, Qp rfl rfl, ?_⟩
 refine ⟨cvB ?_, hX⟩
 all_goals (exact (eqT_end (k := k) (by omega) (by omega) hall).symm)

theorem itequal_okV (v1 v2 : Value) (A C : Nat → Prop) (x y : List Itm) (w : World) (hx : Rd encIp 4 A w v1 x) (hy : Rd encIp 4 C w v2 y) : Ok Tryz.prog 13 #[v1, v2] w fun v w' => v = .bool (x == y) ∧ Ext False w w' := by
 obtain ⟨a, c, rfl, h1⟩ := hx
 obtain ⟨b, d, rfl, h2⟩ := hy
 exact itequal_ok _ _ _ _ _ _ _ _ _ h1 h2
