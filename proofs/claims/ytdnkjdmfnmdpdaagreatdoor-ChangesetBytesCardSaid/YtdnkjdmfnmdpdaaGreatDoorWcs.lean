/- Walks: what functions return. -/
import Derived.Test.YtdnkjdmfnmdpdaaGreatDoorWct
import Derived.Test.YtdnkjdmfnmdpdaaGreatDoorOwn3
import Derived.Test.YtdnkjdmfnmdpdaaGreatDoorWperm
set_option linter.unusedVariables false
set_option linter.unusedSimpArgs false
set_option linter.unnecessarySimpa false
namespace Go.Proofs.YtdnkjdmfnmdpdaaGreatDoor
open Go Go.Lx Go.RowKit Tryz
set_option maxRecDepth 100000
theorem ckey_ok (β : Prop) (o : COp) (w : World) : Ok Tryz.prog 13 #[.agg (encCo o).toArray] w fun v w' => v = .agg (encCk o.key).toArray ∧ Ext β w w' := by
 refine ZQ 12 func13 rfl rfl rfl ?_
 have hX : Ext β w w := Bel.refl _ _
 refine QH (Qc ?_)
 refine Z2 rfl (JB (v := .agg _) rfl) ?_
 intro b1 w1 x2 hge1 hb1
 have hlt1 := hb1.lt
 change Box _ _ _ (encCo _) at hb1
 have z3 := x2.size
 replace hX := hX.ex x2
 refine Z2 rfl (JK zeroValue55) ?_
 intro b2 w4 x5 hge2 hb2
 have hlt2 := hb2.lt
 change Box _ _ _ ([.int _ _, .int _ _, .int _ _, str _, str _, .bool _]) at hb2
 have z6 := x5.size
 replace hX := hX.ex x5
 replace hb1 := hb1.ext x5
 refine Qg (QH (Qc ?_))
 refine Rr (ZN underlying50 rfl sizeOf47 rfl) ?_
 refine Rr (ZB isAgg47 rfl (hb1.at.get 1 rfl)) ?_
 refine Rr (ZN underlying50 rfl sizeOf3 rfl) ?_
 refine Rr (ZB isAgg3 rfl (hb1.at.get 2 rfl)) ?_
 refine Rr (ZN underlying50 rfl sizeOf3 rfl) ?_
 refine Rr (ZB isAgg3 rfl (hb1.at.get 3 rfl)) ?_
 refine Rr (ZN underlying50 rfl sizeOf48 rfl) ?_
 refine Rr (ZO isAgg48 sizeOf48 rfl (hb1.at.sub 5 3) rfl) ?_
 refine Rr (Z7 (cells := encCk o.key) (vs := [(0, .int _ _), (1, .int _ _), (2, .int _ _), (3, .agg _)]) rfl (by kernel_rfl)) ?_
 refine Ja (v := .agg _) rfl sizeOf55 rfl rfl hb2 rfl rfl rfl ?_
 intro w7 c8 hb2
 change Box _ _ _ (encCk _) at hb2
 have z9 := Bel.size c8
 replace hX := Bel.out hX c8 om2
 refine Qg (ZJ ?_)
 refine ⟨_, res_1 (v := .agg _) rfl (Ju isAgg55 sizeOf55 rfl hb2.at rfl), ?_⟩
 exact ⟨rfl, hX⟩

theorem crole_ok (w : World) (r : Int) : Ok Tryz.prog 50 #[.int .i64 r] w fun v w' => v = .bool (decide (1 ≤ r) && decide (r ≤ 63)) ∧ Ext False w w' := by
 refine ZQ 9 func50 rfl rfl rfl ?_
 have hX := xRf w
 refine QH (Qc ?_)
 refine Rr Zi ?_
 refine Qg (QH (Qc ?_))
 refine Rr (mvI rfl) ?_
 refine Rr (o_geq rfl rfl) ?_
 refine Rr (mvB rfl) ?_
 refine ZI 2 5 rfl rfl rfl (fun hg => (mvI rfl)) ?_
 refine ZI 2 5 rfl rfl rfl (fun hg => (o_leq (ZU (u := undef) hg) rfl)) ?_
 refine Rr (Jq (u := undef) rfl rfl) ?_
 refine Rr (asB rfl) ?_
 refine Qg (ZJ ?_)
 refine ⟨_, ZF rfl rfl, ?_⟩
 refine ⟨cvB ?_, hX⟩
 all_goals (rfl)

theorem ccheck_ok (o : COp) (hp : o.p.ok) (w : World) : Ok Tryz.prog 11 #[.agg (encCo o).toArray] w fun v w' => v = .int .i64 (checkO o) ∧ Ext False w w' := by
 refine ZQ 92 func11 rfl rfl rfl ?_
 have hX := xRf w
 refine QH (Qc ?_)
 refine Z2 rfl (JB (v := .agg _) rfl) ?_
 intro b1 w1 x2 hge1 hb1
 change Box _ _ _ (encCo _) at hb1
 replace hX := hX.ex x2
 refine Rr Zi ?_
 refine Qg (QH (Qc ?_))
 refine Rr Zi ?_
 refine Rr Zi ?_
 refine Qg (QH (QH (Qc ?_)))
 refine Rr (ZN underlying50 rfl sizeOf47 rfl) ?_
 refine Rr (ZB isAgg47 rfl (hb1.at.get 1 rfl)) ?_
 refine Qg (ZM (QH (Qc ?_)))
 refine Rr (ZZ rfl rfl) ?_
 refine Rr (asB rfl) ?_
 refine Qg ?_
 refine ZG rfl (fun hc1 => ?_) (fun hc1 => ?_)
 ·have hk : o.k = 1 := by simpa using hc1
  refine QH (Qc ?_)
  refine Rr (ZN underlying50 rfl sizeOf48 rfl) ?_
  refine Rr (ZO isAgg48 sizeOf48 rfl (hb1.at.sub 5 3) rfl) ?_
  refine Rr (Z7 (cells := encP pz) (vs := []) rfl (by kernel_rfl)) ?_
  refine Rr (o_teql eq_pp rfl rfl) ?_
  refine Rr (asB rfl) ?_
  refine Qg (Qc ?_)
  refine Rr (ZN underlying50 rfl sizeOf3 rfl) ?_
  refine Rr (ZB isAgg3 rfl (hb1.at.get 2 rfl)) ?_
  refine Rr (o_geq rfl rfl) ?_
  refine Rr (mvB rfl) ?_
  refine ZI 3 16 rfl rfl rfl (fun hg => (ZN underlying50 rfl sizeOf3 rfl)) ?_
  refine ZI 3 16 rfl rfl rfl (fun hg => (ZB isAgg3 (ZU (u := undef) hg) (hb1.at.get 2 rfl))) ?_
  refine ZI 3 16 rfl rfl rfl (fun hg => (o_leq (ZU (u := undef) hg) rfl)) ?_
  refine Rr (Jq (u := undef) rfl rfl) ?_
  refine Rr (mvB rfl) ?_
  refine ZI 8 21 rfl rfl rfl (fun hg => (ZN underlying50 rfl sizeOf3 rfl)) ?_
  refine ZI 8 21 rfl rfl rfl (fun hg => (ZB isAgg3 (ZU (u := undef) hg) (hb1.at.get 3 rfl))) ?_
  refine JQ 8 21 rfl rfl rfl (fun hg => ⟨(ZK call50 (ZU (u := undef) hg)), crole_ok _ _⟩) ?_
  intro w3 x4
  replace hX := hX.ex x4
  replace hb1 := hb1.ext x4
  refine Rr (Jq (u := undef) rfl rfl) ?_
  refine Rr (mvB rfl) ?_
  refine ZI 13 26 rfl rfl rfl (fun hg => (ZN underlying50 rfl sizeOf3 rfl)) ?_
  refine ZI 13 26 rfl rfl rfl (fun hg => (ZB isAgg3 (ZU (u := undef) hg) (hb1.at.get 4 rfl))) ?_
  refine ZI 13 26 rfl rfl rfl (fun hg => (o_geq (ZU (u := undef) hg) rfl)) ?_
  refine Rr (Jq (u := undef) rfl rfl) ?_
  refine Rr (mvB rfl) ?_
  refine ZI 18 31 rfl rfl rfl (fun hg => (ZN underlying50 rfl sizeOf3 rfl)) ?_
  refine ZI 18 31 rfl rfl rfl (fun hg => (ZB isAgg3 (ZU (u := undef) hg) (hb1.at.get 4 rfl))) ?_
  refine ZI 18 31 rfl rfl rfl (fun hg => (o_leq (ZU (u := undef) hg) rfl)) ?_
  refine Rr (Jq (u := undef) rfl rfl) ?_
  refine Rr (asB rfl) ?_
  refine Qg (QH (ZM (QH (Qc ?_))))
  refine Rr (mvB rfl) ?_
  refine Rr (Jf rfl) ?_
  refine Rr (asB rfl) ?_
  refine Qg ?_
  refine ZG rfl (fun hc2 => ?_) (fun hc2 => ?_)
  ·have hf : ¬ o.p = pz := by simpa using hc2
   refine QH (Qc ?_)
   refine Rr Zi ?_
   refine Qg (ZJ ?_)
   refine ⟨_, ZF rfl rfl, ?_⟩
   refine ⟨congrArg (Value.int .i64) ?_, hX⟩
   all_goals (rw [checkO, if_neg (by omega), if_pos (.inl ⟨by omega, hf⟩)])
  have hf : o.p = pz := by simpa using hc2
  refine QH (Qc ?_)
  refine Rr (mvB rfl) ?_
  refine Rr (Jf rfl) ?_
  refine Rr (asB rfl) ?_
  refine Qg ?_
  refine ZG rfl (fun hc3 => ?_) (fun hc3 => ?_)
  ·have hn : o.a < 1 ∨ 256 < o.a ∨ o.b < 1 ∨ 63 < o.b ∨ o.u < 0 ∨ 30000 < o.u := by simp at hc3; omega
   refine QH (Qc ?_)
   refine Rr Zi ?_
   refine Qg (ZJ ?_)
   refine ⟨_, ZF rfl rfl, ?_⟩
   refine ⟨congrArg (Value.int .i64) ?_, hX⟩
   all_goals (rw [checkO, if_neg (by omega), if_neg (fun h => by rcases h with ⟨h1, h2⟩ | ⟨h1, h2⟩ | ⟨h1, h2⟩ <;> first | omega | exact h2 hf | exact h2 hf.2), if_pos hk, if_pos hn])
  have hn : ¬ (o.a < 1 ∨ 256 < o.a ∨ o.b < 1 ∨ 63 < o.b ∨ o.u < 0 ∨ 30000 < o.u) := by simp at hc3; omega
  refine QH (Qc ?_)
  refine Rr (ZN underlying50 rfl sizeOf47 rfl) ?_
  refine Rr (ZB isAgg47 rfl (hb1.at.get 1 rfl)) ?_
  refine Rr (ZZ rfl rfl) ?_
  refine Rr (asB rfl) ?_
  refine Qg ?_
  refine ZY (cvB (by first | (rw [hk]; rfl) | (rw [beq_eq_false_iff_ne]; omega))) ?_
  refine QH (Qc ?_)
  refine Rr (ZN underlying50 rfl sizeOf47 rfl) ?_
  refine Rr (ZB isAgg47 rfl (hb1.at.get 1 rfl)) ?_
  refine Rr (ZZ rfl rfl) ?_
  refine Rr (mvB rfl) ?_
  refine ZI 3 85 rfl rfl rfl (fun hg => (ZN underlying50 rfl sizeOf3 rfl)) ?_
  refine ZI 3 85 rfl rfl rfl (fun hg => (ZB isAgg3 (ZU (u := undef) hg) (hb1.at.get 2 rfl))) ?_
  refine ZI 3 85 rfl rfl rfl (fun hg => (ZN underlying50 rfl sizeOf3 rfl)) ?_
  refine ZI 3 85 rfl rfl rfl (fun hg => (ZB isAgg3 (ZU (u := undef) hg) (hb1.at.get 3 rfl))) ?_
  refine ZI 3 85 rfl rfl rfl (fun hg => (ZZ (ZU (u := undef) hg) (ZU (u := undef) hg))) ?_
  refine Rr (Jq (u := undef) rfl rfl) ?_
  refine Rr (asB rfl) ?_
  refine Qg ?_
  refine ZY (cvB (by rw [hk]; rfl)) ?_
  refine ZH (QH (Qc ?_))
  refine Rr Zi ?_
  refine Qg (ZJ ?_)
  refine ⟨_, ZF rfl rfl, ?_⟩
  refine ⟨congrArg (Value.int .i64) ?_, hX⟩
  all_goals (rw [checkO, if_neg (by omega), if_neg (fun h => by rcases h with ⟨h1, h2⟩ | ⟨h1, h2⟩ | ⟨h1, h2⟩ <;> first | omega | exact h2 hf | exact h2 hf.2), if_pos hk, if_neg hn])
 have hk1 : ¬ o.k = 1 := by simpa using hc1
 refine QH (Qc ?_)
 refine Rr (ZZ rfl rfl) ?_
 refine Rr (asB rfl) ?_
 refine Qg ?_
 refine ZG rfl (fun hc6 => ?_) (fun hc6 => ?_)
 ·have hk : o.k = 2 := by simpa using hc6
  apply J3 (β := False) [peq _, peq _, peq _, peq _, peq _, peq _, peq _, peq _, peq _, peq _, peq _, peq _, peq _] 13 Jz (by kernel_rfl) rfl ⟨Zs _, Zs _, Zs _, Zs _, Zs _, Zs _, Zs _, Zs _, Zs _, Zs _, Zs _, Zs _, Zs _, trivial⟩ ?ob8 ?fin8
  case ob8 =>
   refine ZA (fun w5 x6 => ?_) ?_
   ·refine Zv ?_
    exact ZT rfl (ZN underlying50 rfl sizeOf3 rfl)
   refine ZA (fun w7 x8 => ?_) ?_
   ·have hb1 := hb1.ext x8
    refine Qi (Zv ?_)
    exact ZT rfl (ZB isAgg3 rfl (hb1.at.get 3 rfl))
   refine ZA (fun w9 x10 => ?_) ?_
   ·refine Qi (Zv ?_)
    exact ZT rfl (ZZ rfl rfl)
   refine ZA (fun w11 x12 => ?_) ?_
   ·refine Qi (Zv ?_)
    exact ZT rfl (mvB rfl)
   refine ZA (fun w13 x14 => ?_) ?_
   ·refine Qi (Zv ?_)
    exact Z9 3 41 rfl rfl (fun hg => (ZN underlying50 rfl sizeOf3 rfl))
   refine ZA (fun w15 x16 => ?_) ?_
   ·have hb1 := hb1.ext x16
    refine Qi (Qi (Zv ?_))
    exact Z9 3 41 rfl rfl (fun hg => (ZB isAgg3 (ZU (u := undef) hg) (hb1.at.get 4 rfl)))
   refine ZA (fun w17 x18 => ?_) ?_
   ·refine Qi (Qi (Zv ?_))
    exact Z9 3 41 rfl rfl (fun hg => (ZZ (ZU (u := undef) hg) rfl))
   refine ZA (fun w19 x20 => ?_) ?_
   ·refine Qi (Qi (Zv ?_))
    exact ZT rfl (Jq (u := undef) rfl rfl)
   refine ZA (fun w21 x22 => ?_) ?_
   ·refine Zv ?_
    exact ZT rfl (ZN underlying50 rfl sizeOf3 rfl)
   refine ZA (fun w23 x24 => ?_) ?_
   ·have hb1 := hb1.ext x24
    refine Qi (Zv ?_)
    exact ZT rfl (ZB isAgg3 rfl (hb1.at.get 2 rfl))
   refine ZA (fun w25 x26 => ?_) ?_
   ·refine Qi (Qi (Zv ?_))
    exact OpS_call rfl (ZK call50 rfl) (crole_ok _ _)
   refine ZA (fun w27 x28 => ?_) ?_
   ·refine Qi (Qi (Qi (Qi (Qi (Qi (Qi (Qi (Qi ?_))))))))
    refine Qi (Zv ?_)
    exact ZT rfl (asB rfl)
   refine ZA (fun w29 x30 => ?_) ?_
   ·refine Qi (Qi (Qi (Qi (Qi (Qi (Qi (Qi (Qi ?_))))))))
    refine Qi (Qi (Qi (Qi (Qi (Zv ?_)))))
    exact ZT rfl (asB rfl)
   exact JG
  case fin8 =>
   intro w31 x32
   replace hX := hX.ex x32
   replace hb1 := hb1.ext x32
   refine Qi (Qi (Qi (Qi (Qi (Qi (Qi (Qi (Qi ?_))))))))
   refine Qi (Qi (Qi (Qi (Zv (Qg (QH (ZM (QH ?_))))))))
   refine Qc ?_
   refine Rr (mvB rfl) ?_
   refine Rr (Jf rfl) ?_
   refine Rr (asB rfl) ?_
   refine Qg ?_
   refine ZG rfl (fun hc7 => ?_) (fun hc7 => ?_)
   ·have hf : ¬ o.b = 0 ∨ ¬ o.u = 0 := by simpa using hc7
    refine QH (Qc ?_)
    refine Rr Zi ?_
    refine Qg (ZJ ?_)
    refine ⟨_, ZF rfl rfl, ?_⟩
    refine ⟨congrArg (Value.int .i64) ?_, hX⟩
    all_goals (rw [checkO, if_neg (by omega), if_pos (by omega)])
   have hf : o.b = 0 ∧ o.u = 0 := by simpa using hc7
   refine QH (Qc ?_)
   refine Rr (mvB rfl) ?_
   refine Rr (Jf rfl) ?_
   refine Rr (asB rfl) ?_
   refine Qg ?_
   refine ZG rfl (fun hc8 => ?_) (fun hc8 => ?_)
   ·have hn : o.a < 1 ∨ 63 < o.a := by simp at hc8; omega
    refine QH (Qc ?_)
    refine Rr Zi ?_
    refine Qg (ZJ ?_)
    refine ⟨_, ZF rfl rfl, ?_⟩
    refine ⟨congrArg (Value.int .i64) ?_, hX⟩
    all_goals (rw [checkO, if_neg (by omega), if_neg (fun h => by rcases h with ⟨h1, h2⟩ | ⟨h1, h2⟩ | ⟨h1, h2⟩ <;> first | omega | exact h2 hf | exact h2 hf.2), if_neg (by omega), if_pos hk, if_pos hn])
   have hn : ¬ (o.a < 1 ∨ 63 < o.a) := by simp at hc8; omega
   refine QH (Qc ?_)
   refine Rr (ZN underlying50 rfl sizeOf47 rfl) ?_
   refine Rr (ZB isAgg47 rfl (hb1.at.get 1 rfl)) ?_
   refine Rr (ZZ rfl rfl) ?_
   refine Rr (asB rfl) ?_
   refine Qg ?_
   refine Jc (cvB (by first | (rw [hk]; rfl) | (rw [beq_eq_false_iff_ne]; omega))) ?_
   refine QH (Qc ?_)
   refine Rr (ZN underlying50 rfl sizeOf48 rfl) ?_
   refine Rr (ZO isAgg48 sizeOf48 rfl (hb1.at.sub 5 3) rfl) ?_
   refine ZC rfl (ZK call51 rfl) (Ok.mono (check_ok (False) _ hp _) ?_)
   rintro _ w33 ⟨rfl, x34⟩
   replace hX := hX.ex x34
   refine Rr (asI rfl) ?_
   refine Qg (ZJ ?_)
   refine ⟨_, ZF rfl rfl, ?_⟩
   refine ⟨congrArg (Value.int .i64) ?_, hX⟩
   all_goals (rw [checkO, if_neg (by omega), if_neg (fun h => by rcases h with ⟨h1, h2⟩ | ⟨h1, h2⟩ | ⟨h1, h2⟩ <;> first | omega | exact h2 hf | exact h2 hf.2), if_neg (by omega), if_pos hk, if_neg hn])
 have hk2 : ¬ o.k = 2 := by simpa using hc6
 refine QH (Qc ?_)
 refine Rr (ZZ rfl rfl) ?_
 refine Rr (asB rfl) ?_
 refine Qg ?_
 refine ZG rfl (fun hc10 => ?_) (fun hc10 => ?_)
 ·have hk : o.k = 3 := by simpa using hc10
  apply J3 (β := False) [peq _, peq _, peq _, peq _, peq _, peq _, peq _, peq _, peq _, peq _, peq _, peq _, peq _, peq _, peq _, peq _, peq _, peq _, peq _] 19 Jz (by kernel_rfl) rfl ⟨Zs _, Zs _, Zs _, Zs _, Zs _, Zs _, Zs _, Zs _, Zs _, Zs _, Zs _, Zs _, Zs _, Zs _, Zs _, Zs _, Zs _, Zs _, Zs _, trivial⟩ ?ob10 ?fin10
  case ob10 =>
   refine ZA (fun w35 x36 => ?_) ?_
   ·refine Zv ?_
    exact ZT rfl (ZN underlying50 rfl sizeOf3 rfl)
   refine ZA (fun w37 x38 => ?_) ?_
   ·have hb1 := hb1.ext x38
    refine Qi (Zv ?_)
    exact ZT rfl (ZB isAgg3 rfl (hb1.at.get 4 rfl))
   refine ZA (fun w39 x40 => ?_) ?_
   ·refine Qi (Zv ?_)
    exact ZT rfl (ZZ rfl rfl)
   refine ZA (fun w41 x42 => ?_) ?_
   ·refine Qi (Zv ?_)
    exact ZT rfl (mvB rfl)
   refine ZA (fun w43 x44 => ?_) ?_
   ·refine Qi (Zv ?_)
    exact Z9 3 54 rfl rfl (fun hg => (ZN underlying50 rfl sizeOf48 rfl))
   refine ZA (fun w45 x46 => ?_) ?_
   ·have hb1 := hb1.ext x46
    refine Qi (Qi (Zv ?_))
    exact Z9 3 54 rfl rfl (fun hg => (ZO isAgg48 sizeOf48 (ZU (u := undef) hg) (hb1.at.sub 5 3) rfl))
   refine ZA (fun w47 x48 => ?_) ?_
   ·refine Qi (Zv ?_)
    exact Z9 3 54 rfl rfl (fun hg => (Z7 (cells := encP pz) (vs := []) rfl (by kernel_rfl)))
   refine ZA (fun w49 x50 => ?_) ?_
   ·refine Qi (Qi (Qi (Zv ?_)))
    exact Z9 3 54 rfl rfl (fun hg => (o_teql eq_pp (ZU (u := undef) hg) (ZU (u := undef) hg)))
   refine ZA (fun w51 x52 => ?_) ?_
   ·refine Qi (Qi (Zv ?_))
    exact ZT rfl (Jq (u := undef) rfl rfl)
   refine ZA (fun w53 x54 => ?_) ?_
   ·refine Zv ?_
    exact ZT rfl (ZN underlying50 rfl sizeOf3 rfl)
   refine ZA (fun w55 x56 => ?_) ?_
   ·have hb1 := hb1.ext x56
    refine Qi (Zv ?_)
    exact ZT rfl (ZB isAgg3 rfl (hb1.at.get 2 rfl))
   refine ZA (fun w57 x58 => ?_) ?_
   ·refine Qi (Qi (Zv ?_))
    exact OpS_call rfl (ZK call50 rfl) (crole_ok _ _)
   refine ZA (fun w59 x60 => ?_) ?_
   ·refine Qi (Qi (Zv ?_))
    exact ZT rfl (mvB rfl)
   refine ZA (fun w61 x62 => ?_) ?_
   ·refine Qi (Zv ?_)
    exact Z9 12 63 rfl rfl (fun hg => (ZN underlying50 rfl sizeOf3 rfl))
   refine ZA (fun w63 x64 => ?_) ?_
   ·have hb1 := hb1.ext x64
    refine Qi (Qi (Zv ?_))
    exact Z9 12 63 rfl rfl (fun hg => (ZB isAgg3 (ZU (u := undef) hg) (hb1.at.get 3 rfl)))
   refine ZA (fun w65 x66 => ?_) ?_
   ·refine Qi (Qi (Qi (Zv ?_)))
    exact OpS_mayCall 12 63 rfl rfl (fun hg => ⟨(ZK call50 (ZU (u := undef) hg)), crole_ok _ _⟩)
   refine ZA (fun w67 x68 => ?_) ?_
   ·refine Qi (Qi (Zv ?_))
    exact ZT rfl (Jq (u := undef) rfl rfl)
   refine ZA (fun w69 x70 => ?_) ?_
   ·refine Qi (Qi (Qi (Qi (Qi (Qi (Qi (Qi (Qi ?_))))))))
    refine Qi (Qi (Zv ?_))
    exact ZT rfl (asB rfl)
   refine ZA (fun w71 x72 => ?_) ?_
   ·refine Qi (Qi (Qi (Qi (Qi (Qi (Qi (Qi (Qi ?_))))))))
    refine Qi (Qi (Qi (Qi (Qi (Qi (Qi (Qi (Qi ?_))))))))
    refine Qi (Qi (Zv ?_))
    exact ZT rfl (asB rfl)
   exact JG
  case fin10 =>
   intro w73 x74
   replace hX := hX.ex x74
   replace hb1 := hb1.ext x74
   refine Qi (Qi (Qi (Qi (Qi (Qi (Qi (Qi (Qi ?_))))))))
   refine Qi (Qi (Qi (Qi (Qi (Qi (Qi (Qi (Qi ?_))))))))
   refine Qi (Zv (Qg (QH (ZM (QH (Qc ?_))))))
   refine Rr (mvB rfl) ?_
   refine Rr (Jf rfl) ?_
   refine Rr (asB rfl) ?_
   refine Qg ?_
   refine ZG rfl (fun hc11 => ?_) (fun hc11 => ?_)
   ·have hf : ¬ o.u = 0 ∨ ¬ o.p = pz := by simpa using hc11
    refine QH (Qc ?_)
    refine Rr Zi ?_
    refine Qg (ZJ ?_)
    refine ⟨_, ZF rfl rfl, ?_⟩
    refine ⟨congrArg (Value.int .i64) ?_, hX⟩
    all_goals (rw [checkO, if_neg (by omega), if_pos (hf.elim (fun h => .inr (.inl ⟨by omega, h⟩)) (fun h => .inl ⟨by omega, h⟩))])
   have hf : o.u = 0 ∧ o.p = pz := by simpa using hc11
   refine QH (Qc ?_)
   refine Rr (mvB rfl) ?_
   refine Rr (Jf rfl) ?_
   refine Rr (asB rfl) ?_
   refine Qg ?_
   refine ZG rfl (fun hc12 => ?_) (fun hc12 => ?_)
   ·have hn : o.a < 1 ∨ 63 < o.a ∨ o.b < 1 ∨ 63 < o.b := by simp at hc12; omega
    refine QH (Qc ?_)
    refine Rr Zi ?_
    refine Qg (ZJ ?_)
    refine ⟨_, ZF rfl rfl, ?_⟩
    refine ⟨congrArg (Value.int .i64) ?_, hX⟩
    all_goals (rw [checkO, if_neg (by omega), if_neg (fun h => by rcases h with ⟨h1, h2⟩ | ⟨h1, h2⟩ | ⟨h1, h2⟩ <;> first | omega | exact h2 hf | exact h2 hf.2), if_neg (by omega), if_neg (by omega), if_pos hn])
   have hn : ¬ (o.a < 1 ∨ 63 < o.a ∨ o.b < 1 ∨ 63 < o.b) := by simp at hc12; omega
   refine QH (Qc ?_)
   refine Rr (ZN underlying50 rfl sizeOf47 rfl) ?_
   refine Rr (ZB isAgg47 rfl (hb1.at.get 1 rfl)) ?_
   refine Rr (ZZ rfl rfl) ?_
   refine Rr (asB rfl) ?_
   refine Qg ?_
   refine ZY (cvB (by first | (rw [hk]; rfl) | (rw [beq_eq_false_iff_ne]; omega))) ?_
   refine QH (Qc ?_)
   refine Rr (ZN underlying50 rfl sizeOf47 rfl) ?_
   refine Rr (ZB isAgg47 rfl (hb1.at.get 1 rfl)) ?_
   refine Rr (ZZ rfl rfl) ?_
   refine Rr (mvB rfl) ?_
   refine ZI 3 85 rfl rfl rfl (fun hg => (ZN underlying50 rfl sizeOf3 rfl)) ?_
   refine ZI 3 85 rfl rfl rfl (fun hg => (ZB isAgg3 (ZU (u := undef) hg) (hb1.at.get 2 rfl))) ?_
   refine ZI 3 85 rfl rfl rfl (fun hg => (ZN underlying50 rfl sizeOf3 rfl)) ?_
   refine ZI 3 85 rfl rfl rfl (fun hg => (ZB isAgg3 (ZU (u := undef) hg) (hb1.at.get 3 rfl))) ?_
   refine ZI 3 85 rfl rfl rfl (fun hg => (ZZ (ZU (u := undef) hg) (ZU (u := undef) hg))) ?_
   refine Rr (Jq (u := undef) rfl rfl) ?_
   refine Rr (asB rfl) ?_
   refine Qg ?_
   refine ZG rfl (fun hc14 => ?_) (fun hc14 => ?_)
   ·have he : o.a = o.b := by simp at hc14; omega
    refine QH (Qc ?_)
    refine Rr Zi ?_
    refine Qg (ZJ ?_)
    refine ⟨_, ZF rfl rfl, ?_⟩
    refine ⟨congrArg (Value.int .i64) ?_, hX⟩
    all_goals (rw [checkO, if_neg (by omega), if_neg (fun h => by rcases h with ⟨h1, h2⟩ | ⟨h1, h2⟩ | ⟨h1, h2⟩ <;> first | omega | exact h2 hf | exact h2 hf.2), if_neg (by omega), if_neg (by omega), if_neg hn, if_pos he])
   have he : ¬ o.a = o.b := by simp at hc14; omega
   refine ZH (QH (Qc ?_))
   refine Rr Zi ?_
   refine Qg (ZJ ?_)
   refine ⟨_, ZF rfl rfl, ?_⟩
   refine ⟨congrArg (Value.int .i64) ?_, hX⟩
   all_goals (rw [checkO, if_neg (by omega), if_neg (fun h => by rcases h with ⟨h1, h2⟩ | ⟨h1, h2⟩ | ⟨h1, h2⟩ <;> first | omega | exact h2 hf | exact h2 hf.2), if_neg (by omega), if_neg (by omega), if_neg hn, if_neg he])
 have hk3 : ¬ o.k = 3 := by simpa using hc10
 refine QH (Qc ?_)
 refine Rr Zi ?_
 refine Qg (ZJ ?_)
 refine ⟨_, ZF rfl rfl, ?_⟩
 refine ⟨congrArg (Value.int .i64) ?_, hX⟩
 all_goals (rw [checkO, if_pos (by omega)])

theorem ccmpk_ok (β : Prop) (x y : OKey) (hx : Kr x) (hy : Kr y) (w : World) : Ok Tryz.prog 66 #[.agg (encCk x).toArray, .agg (encCk y).toArray] w fun v w' => v = .int .i64 (cmpK x y) ∧ Ext β w w' := by
 have h1 := hx.k; have h2 := hx.a; have h3 := hx.b; have h4 := hy.k; have h5 := hy.a; have h6 := hy.b
 refine ZQ 45 func66 rfl rfl rfl ?_
 have hX : Ext β w w := Bel.refl _ _
 refine QH (Qc ?_)
 refine Z2 rfl (JB (v := .agg _) rfl) ?_
 intro b2 w1 x2 hge2 hb2
 change Box _ _ _ (encCk _) at hb2
 replace hX := hX.ex x2
 refine Z2 rfl (JB (v := .agg _) rfl) ?_
 intro b3 w3 x4 hge3 hb3
 change Box _ _ _ (encCk _) at hb3
 replace hX := hX.ex x4
 replace hb2 := hb2.ext x4
 refine Rr Zi ?_
 refine Qg (QH (ZM (QH (Qc ?_))))
 refine Rr (ZN underlying55 rfl sizeOf47 rfl) ?_
 refine Rr (ZB isAgg47 rfl (hb2.at.get 0 rfl)) ?_
 refine Rr (ZN underlying55 rfl sizeOf47 rfl) ?_
 refine Rr (ZB isAgg47 rfl (hb3.at.get 0 rfl)) ?_
 refine Rr (JD rfl rfl) ?_
 refine Rr (asB rfl) ?_
 refine Qg ?_
 refine ZG rfl (fun hc1 => ?_) (fun hc1 => ?_)
 ·refine QH (Qc ?_)
  refine Rr (ZN underlying55 rfl sizeOf47 rfl) ?_
  refine Rr (ZB isAgg47 rfl (hb2.at.get 0 rfl)) ?_
  refine Rr (JJ underlying47 underlying3 rfl (JT (by unfold I64; omega))) ?_
  refine Rr (ZN underlying55 rfl sizeOf47 rfl) ?_
  refine Rr (ZB isAgg47 rfl (hb3.at.get 0 rfl)) ?_
  refine Rr (JJ underlying47 underlying3 rfl (JT (by unfold I64; omega))) ?_
  refine Rr (o_sub rfl rfl (by unfold I64; omega)) ?_
  refine Rr (asI rfl) ?_
  refine Qg (ZJ ?_)
  refine ⟨_, ZF rfl rfl, ?_⟩
  refine ⟨congrArg (Value.int .i64) ?_, hX⟩
  all_goals (rw [cmpK, if_pos (by simpa using hc1)])
 refine QH (Qc ?_)
 refine Rr (ZN underlying55 rfl sizeOf3 rfl) ?_
 refine Rr (ZB isAgg3 rfl (hb2.at.get 1 rfl)) ?_
 refine Rr (ZN underlying55 rfl sizeOf3 rfl) ?_
 refine Rr (ZB isAgg3 rfl (hb3.at.get 1 rfl)) ?_
 refine Rr (JD rfl rfl) ?_
 refine Rr (asB rfl) ?_
 refine Qg ?_
 refine ZG rfl (fun hc2 => ?_) (fun hc2 => ?_)
 ·refine QH (Qc ?_)
  refine Rr (ZN underlying55 rfl sizeOf3 rfl) ?_
  refine Rr (ZB isAgg3 rfl (hb2.at.get 1 rfl)) ?_
  refine Rr (ZN underlying55 rfl sizeOf3 rfl) ?_
  refine Rr (ZB isAgg3 rfl (hb3.at.get 1 rfl)) ?_
  refine Rr (o_sub rfl rfl (by unfold I64; omega)) ?_
  refine Rr (asI rfl) ?_
  refine Qg (ZJ ?_)
  refine ⟨_, ZF rfl rfl, ?_⟩
  refine ⟨congrArg (Value.int .i64) ?_, hX⟩
  all_goals (rw [cmpK, if_neg (by simpa using hc1), if_pos (by simpa using hc2)])
 refine QH (Qc ?_)
 refine Rr (ZN underlying55 rfl sizeOf3 rfl) ?_
 refine Rr (ZB isAgg3 rfl (hb2.at.get 2 rfl)) ?_
 refine Rr (ZN underlying55 rfl sizeOf3 rfl) ?_
 refine Rr (ZB isAgg3 rfl (hb3.at.get 2 rfl)) ?_
 refine Rr (JD rfl rfl) ?_
 refine Rr (asB rfl) ?_
 refine Qg ?_
 refine ZG rfl (fun hc3 => ?_) (fun hc3 => ?_)
 ·refine QH (Qc ?_)
  refine Rr (ZN underlying55 rfl sizeOf3 rfl) ?_
  refine Rr (ZB isAgg3 rfl (hb2.at.get 2 rfl)) ?_
  refine Rr (ZN underlying55 rfl sizeOf3 rfl) ?_
  refine Rr (ZB isAgg3 rfl (hb3.at.get 2 rfl)) ?_
  refine Rr (o_sub rfl rfl (by unfold I64; omega)) ?_
  refine Rr (asI rfl) ?_
  refine Qg (ZJ ?_)
  refine ⟨_, ZF rfl rfl, ?_⟩
  refine ⟨congrArg (Value.int .i64) ?_, hX⟩
  all_goals (rw [cmpK, if_neg (by simpa using hc1), if_neg (by simpa using hc2), if_pos (by simpa using hc3)])
 refine ZH (QH (Qc ?_))
 refine Rr (ZN underlying55 rfl sizeOf48 rfl) ?_
 refine Rr (ZO isAgg48 sizeOf48 rfl (hb2.at.sub 3 3) rfl) ?_
 refine Rr (ZN underlying55 rfl sizeOf48 rfl) ?_
 refine Rr (ZO isAgg48 sizeOf48 rfl (hb3.at.sub 3 3) rfl) ?_
 refine ZC rfl (ZW call112 rfl rfl) (Ok.mono (pmcompare_ok (β) _ hx.ok _ hy.ok _) ?_)
 rintro _ w5 ⟨rfl, x6⟩
 replace hX := hX.ex x6
 refine Rr (asI rfl) ?_
 refine Qg (ZJ ?_)
 refine ⟨_, ZF rfl rfl, ?_⟩
 refine ⟨congrArg (Value.int .i64) ?_, hX⟩
 all_goals (rw [cmpK, if_neg (by simpa using hc1), if_neg (by simpa using hc2), if_neg (by simpa using hc3)])

theorem ccmp_ok (β : Prop) (x y : COp) (hx : Kr x.key) (hy : Kr y.key) (w : World) : Ok Tryz.prog 56 #[.agg (encCo x).toArray, .agg (encCo y).toArray] w fun v w' => v = .int .i64 (cmpO x y) ∧ Ext β w w' := by
 refine ZQ 23 func56 rfl rfl rfl ?_
 have hX : Ext β w w := Bel.refl _ _
 refine QH (Qc ?_)
 refine Z2 rfl (JB (v := .agg _) rfl) ?_
 intro b2 w1 x2 hge2 hb2
 change Box _ _ _ (encCo _) at hb2
 replace hX := hX.ex x2
 refine Z2 rfl (JB (v := .agg _) rfl) ?_
 intro b3 w3 x4 hge3 hb3
 change Box _ _ _ (encCo _) at hb3
 replace hX := hX.ex x4
 replace hb2 := hb2.ext x4
 refine Rr Zi ?_
 refine Qg (QH (QH ?_))
 apply J3 (β := β) [peq _, peq _, peq _, peq _, peq _, peq _] 6 Jz (by kernel_rfl) rfl ⟨Zs _, Zs _, Zs _, Zs _, Zs _, Zs _, trivial⟩ ?ob1 ?fin1
 case ob1 =>
  refine ZA (fun w5 x6 => ?_) ?_
  ·have hb2 := hb2.ext x6
   refine Zv ?_
   exact ZT rfl (ZO isAgg50 sizeOf50 rfl hb2.at rfl)
  refine ZA (fun w7 x8 => ?_) ?_
  ·refine Qi (Zv ?_)
   exact OpS_call rfl (ZK call13 rfl) (ckey_ok (β) x _)
  refine ZA (fun w9 x10 => ?_) ?_
  ·have hb3 := hb3.ext x10
   refine Zv ?_
   exact ZT rfl (ZO isAgg50 sizeOf50 rfl hb3.at rfl)
  refine ZA (fun w11 x12 => ?_) ?_
  ·refine Qi (Qi (Zv ?_))
   exact OpS_call rfl (ZK call13 rfl) (ckey_ok (β) y _)
  refine ZA (fun w13 x14 => ?_) ?_
  ·refine Qi (Qi (Qi (Zv ?_)))
   exact OpS_call rfl (ZW call66 rfl rfl) (ccmpk_ok (β) x.key y.key hx hy _)
  refine ZA (fun w15 x16 => ?_) ?_
  ·refine Qi (Qi (Qi (Qi (Qi (Qi (Qi (Zv ?_)))))))
   exact ZT rfl (asI rfl)
  exact JG
 case fin1 =>
  intro w17 x18
  replace hX := hX.ex x18
  replace hb2 := hb2.ext x18
  replace hb3 := hb3.ext x18
  refine Qi (Qi (Qi (Qi (Qi (Qi (Zv (Qg (QH ?_))))))))
  refine Qc ?_
  refine Rr (mvI rfl) ?_
  refine Rr (JD rfl rfl) ?_
  refine Qg ?_
  refine ZG rfl (fun hc1 => ?_) (fun hc1 => ?_)
  ·refine QH (Qc ?_)
   refine Rr (mvI rfl) ?_
   refine Rr (asI rfl) ?_
   refine Qg (ZJ ?_)
   refine ⟨_, ZF rfl rfl, ?_⟩
   refine ⟨congrArg (Value.int .i64) ?_, hX⟩
   all_goals (rw [cmpO, if_pos (by simpa using hc1)])
  refine ZH (QH (ZM (QH (Qc ?_))))
  refine Rr (ZN underlying50 rfl sizeOf4 rfl) ?_
  refine Rr (ZB isAgg4 rfl (hb2.at.get 0 rfl)) ?_
  refine Rr (ZN underlying50 rfl sizeOf4 rfl) ?_
  refine Rr (ZB isAgg4 rfl (hb3.at.get 0 rfl)) ?_
  refine Rr (o_beql underlying4 rfl rfl) ?_
  refine Rr (asB rfl) ?_
  refine Qg ?_
  refine ZG rfl (fun hc2 => ?_) (fun hc2 => ?_)
  ·refine QH (Qc ?_)
   refine Rr Zi ?_
   refine Qg (ZJ ?_)
   refine ⟨_, ZF rfl rfl, ?_⟩
   refine ⟨congrArg (Value.int .i64) ?_, hX⟩
   all_goals (rw [cmpO, if_neg (by simpa using hc1), if_pos (by simpa using hc2)])
  refine QH (Qc ?_)
  refine Rr (ZN underlying50 rfl sizeOf4 rfl) ?_
  refine Rr (ZB isAgg4 rfl (hb3.at.get 0 rfl)) ?_
  refine Rr (asB rfl) ?_
  refine Qg ?_
  refine ZG rfl (fun hc3 => ?_) (fun hc3 => ?_)
  ·refine QH (Qc ?_)
   refine Rr Zi ?_
   refine Qg (ZJ ?_)
   refine ⟨_, ZF rfl rfl, ?_⟩
   refine ⟨congrArg (Value.int .i64) ?_, hX⟩
   all_goals (rw [cmpO, if_neg (by simpa using hc1), if_neg (by simpa using hc2), if_pos (by simpa using hc3)])
  refine ZH (QH (Qc ?_))
  refine Rr Zi ?_
  refine Qg (ZJ ?_)
  refine ⟨_, ZF rfl rfl, ?_⟩
  refine ⟨congrArg (Value.int .i64) ?_, hX⟩
  all_goals (rw [cmpO, if_neg (by simpa using hc1), if_neg (by simpa using hc2), if_neg (by simpa using hc3)])

theorem cclone_ok (w : World) (vl : Value) (l : List COp) (hl : Rd encCo 8 (Lt w.heap.size) w vl l) (nl : l.length ≤ 100000) : Ok Tryz.prog 54 #[vl] w fun v w' => Own encCo 8 50 (Fsh w w') w' v (l) ∧ Ext False w w' := by
 obtain ⟨al, cl, rfl, hl⟩ := hl; have ml := hl.len
 refine ZQ 8 func54 rfl rfl rfl ?_
 have hX := xRf w
 refine QH (Qc ?_)
 refine Rr Zi ?_
 refine Qg (QH (QH (Qc ?_)))
 refine Rr (mvS rfl) ?_
 refine Rr (o_lnil underlying61 rfl) ?_
 refine Qg ?_
 refine ZG rfl (fun hc1 => ?_) (fun hc1 => ?_)
 ·have hnl := sl_none hl hc1; subst hnl
  refine QH (Qc ?_)
  refine Rr Zi ?_
  refine Qg (ZJ ?_)
  refine ⟨_, ZF rfl rfl, ?_⟩
  exact ⟨Own.nil _ _, hX⟩
 refine ZH (QH (Qc ?_))
 refine Jh (vs := []) (([] : List COp)) rfl encCo_ok el_co rfl rfl trivial rfl rfl rfl rfl ?_
 intro a5 w1 x2 hown5
 have z3 := x2.size
 replace hX := hX.ex x2
 replace hl := hl.ext x2
 replace hown5 := hown5.mono (D' := fun g => w.heap.size ≤ g) (fun g h1 h2 => by omega)
 refine Rr (mvS rfl) ?_
 refine Jd rfl encCo_ok el_co rfl rfl hown5 hl rfl (by simp; omega) omU ?_
 intro v7 w4 x5 hown5
 have z6 := x5.size
 replace hX := Bel.out hX x5 om2
 refine Rr (ZD (v := v7) rfl) ?_
 refine Qg (ZJ ?_)
 refine ⟨_, ZF rfl rfl, ?_⟩
 rw [List.nil_append] at hown5; exact ⟨hown5.mono (fun g h1 h2 => by omega), hX⟩

theorem coeq_ok (a b : Option Addr) (c d : Nat) (A C : Nat → Prop) (x y : List COp) (w : World) (hx : Sl encCo 8 A w a c x) (hy : Sl encCo 8 C w b d y) : Ok Tryz.prog 58 #[.slice a x.length c, .slice b y.length d] w fun v w' => v = .bool (x == y) ∧ Ext False w w' := by
 have hlx := hx.len; have hly := hy.len
 replace hx := hx.mono (F' := fun g => g < w.heap.size) (fun g h1 h2 => h1)
 replace hy := hy.mono (F' := fun g => g < w.heap.size) (fun g h1 h2 => h1)
 refine ZQ 26 func58 rfl rfl rfl ?_
 have hX := xRf w
 refine QH (Qc ?_)
 refine Rr Zi ?_
 refine Qg (QH (QH (Qc ?_)))
 refine Rr (mvS rfl) ?_
 refine Rr (Z0 underlying61 rfl) ?_
 refine Rr (mvS rfl) ?_
 refine Rr (Z0 underlying61 rfl) ?_
 refine Rr (JD rfl rfl) ?_
 refine Qg ?_
 refine ZG rfl (fun hc1 => ?_) (fun hc1 => ?_)
 ·skip
  refine QH (Qc ?_)
  refine Rr Zi ?_
  refine Qg (ZJ ?_)
  refine ⟨_, ZF rfl rfl, ?_⟩
  refine ⟨cvB ?_, hX⟩
  all_goals (exact (eqT_len (by simpa using hc1)).symm)
 have hle : (x.length : Int) = y.length := by simpa using hc1
 refine ZH (QH (QH (Qc ?_)))
 refine Rr (mvS rfl) ?_
 refine Rr (Z0 underlying61 rfl) ?_
 refine Rr Jj ?_
 refine Qg (ZM ?_)
 refine Jk (α := Nat) [(4, 5), (13, 25)] (fun k => [(13, .int .i64 (k : Int))]) (fun k w' => (k ≤ x.length ∧ x.take k = y.take k) ∧ Ext False w w') (fun k => x.length - k) 0 ⟨rfl, trivial⟩ ⟨⟨by omega, by simp⟩, Bel.refl _ _⟩ ?_
 rintro k fb3 w2 ⟨⟨hk, hall⟩, hXL1⟩
 replace hX := hX.ex hXL1
 replace hx := hx.ext hXL1
 replace hy := hy.ext hXL1
 refine QH (Qc ?_)
 refine Rr (Z5 rfl rfl) ?_
 refine Qg (QH ?_)
 refine ZG rfl (fun hc2 => ?_) (fun hc2 => ?_)
 ·replace hc2 := dcT hc2
  refine ZH (QH (ZM (QH (Qc ?_))))
  refine Rr (mvI rfl) ?_
  refine Rr (asI rfl) ?_
  refine Qg (QH ?_)
  apply J3 (β := False) [peq _, peq _, peq _, peq _, peq _, peq _, peq _, peq _, peq _] 9 Jz (by kernel_rfl) rfl ⟨Zs _, Zs _, Zs _, Zs _, Zs _, Zs _, Zs _, Zs _, Zs _, trivial⟩ ?ob6 ?fin6
  case ob6 =>
   refine ZA (fun w4 x5 => ?_) ?_
   ·refine Zv ?_
    exact ZT rfl (mvS rfl)
   refine ZA (fun w6 x7 => ?_) ?_
   ·refine Zv ?_
    exact ZT rfl (mvI rfl)
   refine ZA (fun w8 x9 => ?_) ?_
   ·have hx := hx.ext x9
    refine Qi (Qi (Zv ?_))
    exact ZT rfl (Js underlying61 sizeOf50 hx rfl rfl omg)
   refine ZA (fun w10 x11 => ?_) ?_
   ·have hx := hx.ext x11
    refine Qi (Zv ?_)
    exact ZT rfl (Jx isAgg50 sizeOf50 hx rfl (Jw coz (by omega)))
   refine ZA (fun w12 x13 => ?_) ?_
   ·refine Zv ?_
    exact ZT rfl (mvS rfl)
   refine ZA (fun w14 x15 => ?_) ?_
   ·refine Zv ?_
    exact ZT rfl (mvI rfl)
   refine ZA (fun w16 x17 => ?_) ?_
   ·have hy := hy.ext x17
    refine Qi (Qi (Zv ?_))
    exact ZT rfl (Js underlying61 sizeOf50 hy rfl rfl omg)
   refine ZA (fun w18 x19 => ?_) ?_
   ·have hy := hy.ext x19
    refine Qi (Zv ?_)
    exact ZT rfl (Jx isAgg50 sizeOf50 hy rfl (Jw coz (by omega)))
   refine ZA (fun w20 x21 => ?_) ?_
   ·refine Qi (Qi (Zv ?_))
    exact ZT rfl (o_tneq eq_co rfl rfl)
   exact JG
  case fin6 =>
   intro w22 x23
   replace hX := hX.ex x23
   replace hXL1 := Bel.ex hXL1 x23
   refine Qi (Qi (Qi (Qi (Qi (Qi (Qi (Qi (Qi ?_))))))))
   refine Zv (Qg ?_)
   refine ZG rfl (fun hc3 => ?_) (fun hc3 => ?_)
   ·refine QH (Qc ?_)
    refine Rr Zi ?_
    refine Qg (ZJ ?_)
    refine ⟨_, ZF rfl rfl, ?_⟩
    refine ⟨cvB ?_, hX⟩
    all_goals (exact (eqT_ne (z := coz) (k := k) (by simpa using hc3)).symm)
   refine ZH (Qc ?_)
   refine Rr (Z1 rfl rfl omg) ?_
   refine Rr (mvI rfl) ?_
   refine Qg ?_
   refine ⟨k + 1, ⟨sT, trivial⟩, oT, ⟨?_, hXL1⟩, ?_⟩
   ·exact ⟨by omega, eqT_succ (z := coz) (by omega) (by omega) hall (by simpa using hc3)⟩
   ·omega
 replace hc2 := dcF hc2
 refine Z4 (ZX (QH (Qc ?_)))
 refine Rr Zi ?_
 refine Qg (ZJ ?_)
 refine ⟨_, ZF rfl rfl, ?_⟩
 refine ⟨cvB ?_, hX⟩
 all_goals (exact (eqT_end (k := k) (by omega) (by omega) hall).symm)

theorem coeq_okV (v1 v2 : Value) (A C : Nat → Prop) (x y : List COp) (w : World) (hx : Rd encCo 8 A w v1 x) (hy : Rd encCo 8 C w v2 y) : Ok Tryz.prog 58 #[v1, v2] w fun v w' => v = .bool (x == y) ∧ Ext False w w' := by
 obtain ⟨a, c, rfl, h1⟩ := hx
 obtain ⟨b, d, rfl, h2⟩ := hy
 exact coeq_ok _ _ _ _ _ _ _ _ _ h1 h2
theorem ckcomp (β : Prop) (a : Option Addr) (c : Nat) (B : Nat → Prop) (l : List OKey) (w : World) (ho : Own encCk 6 55 B w (.slice a l.length c) l) : Ok Tryz.prog 60 #[.slice a l.length c] w fun v w' => ∃ m, v = .slice a m c ∧ Own encCk 6 55 B w' (.slice a m c) (compL l) ∧ Bel β B w w' := by
 have hs := ho.slA encCk_ok; have hlen := hs.len; have hcap := ho.capOf.1
 refine ZQ 61 func60 rfl rfl rfl ?_
 have hX : Bel β (B) w w := Bel.refl _ _
 refine QH (Qc ?_)
 refine Rr Zi ?_
 refine Qg (QH (QH (Qc ?_)))
 refine Rr (mvS rfl) ?_
 refine Rr (Z0 underlying70 rfl) ?_
 refine Rr (Z5 rfl rfl) ?_
 refine Qg ?_
 refine ZG rfl (fun hc1 => ?_) (fun hc1 => ?_)
 ·first | replace hc1 := dcT hc1 | replace hc1 := JN hc1 | skip
  refine QH (Qc ?_)
  refine Rr (mvS rfl) ?_
  refine Rr (asS rfl) ?_
  refine Qg (ZJ ?_)
  refine ⟨_, ZF rfl rfl, ?_⟩
  exact ⟨_, rfl, by rw [comp_one (by omega)]; exact ho, hX⟩
 first | replace hc1 := dcF hc1 | replace hc1 := JO hc1 | skip
 refine ZH (QH (QH (Qc ?_)))
 refine Rr Zi ?_
 refine Qg (ZM ?_)
 refine Jk (α := Nat) [(2, 5), (10, 59)] (fun k => [(3, .int .i64 (k : Int))]) (fun k w' => (1 ≤ k ∧ k ≤ l.length ∧ compL (l.take k) = l.take k) ∧ Bel β (B) w w' ∧ (Own encCk 6 55 B w' (.slice a l.length c) l)) (fun k => l.length - k) 1 ⟨rfl, trivial⟩ ⟨⟨by omega, by omega, comp_take1 (by omega)⟩, Bel.refl _ _, ho⟩ ?_
 rintro k fb3 w2 ⟨⟨hk1, hk, hall⟩, hXL1, ho⟩
 have z4 := Bel.size hXL1
 replace hX := Bel.out hX hXL1 om2
 have hs := ho.slA encCk_ok
 refine QH (QH (Qc ?_))
 refine Rr (mvI rfl) ?_
 refine Rr (mvS rfl) ?_
 refine Rr (Z0 underlying70 rfl) ?_
 refine Rr (Z5 rfl rfl) ?_
 refine Qg ?_
 refine ZG rfl (fun hc2 => ?_) (fun hc2 => ?_)
 ·first | replace hc2 := dcT hc2 | replace hc2 := JN hc2 | skip
  refine ZH (QH (ZM (QH ?_)))
  apply J3 (β := β) [peq _, peq _, peq _, peq _, peq _, peq _, peq _, peq _, peq _, peq _] 10 Jz (by kernel_rfl) rfl ⟨Zs _, Zs _, Zs _, Zs _, Zs _, Zs _, Zs _, Zs _, Zs _, Zs _, trivial⟩ ?ob6 ?fin6
  case ob6 =>
   refine ZA (fun w5 x6 => ?_) ?_
   ·have z7 := x6.size
    refine Zv ?_
    exact ZT rfl (mvS rfl)
   refine ZA (fun w8 x9 => ?_) ?_
   ·have z10 := x9.size
    refine Zv ?_
    exact ZT rfl (mvI rfl)
   refine ZA (fun w11 x12 => ?_) ?_
   ·have z13 := x12.size
    have ho := ho.ext x12
    refine Qi (Qi (Zv ?_))
    exact ZT rfl (o_iaO underlying70 sizeOf55 ho rfl rfl (by omega))
   refine ZA (fun w14 x15 => ?_) ?_
   ·have z16 := x15.size
    have hs := hs.ext x15
    refine Qi (Zv ?_)
    exact ZT rfl (Jx isAgg55 sizeOf55 hs rfl (Jw okz (by omega)))
   refine ZA (fun w17 x18 => ?_) ?_
   ·have z19 := x18.size
    refine Zv ?_
    exact ZT rfl (mvS rfl)
   refine ZA (fun w20 x21 => ?_) ?_
   ·have z22 := x21.size
    refine Zv ?_
    exact ZT rfl (mvI rfl)
   refine ZA (fun w23 x24 => ?_) ?_
   ·have z25 := x24.size
    refine Qi (Zv ?_)
    exact ZT rfl (o_subN (b := 1) rfl rfl (by omega) (by omega))
   refine ZA (fun w26 x27 => ?_) ?_
   ·have z28 := x27.size
    have ho := ho.ext x27
    refine Qi (Qi (Zv ?_))
    exact ZT rfl (o_iaO underlying70 sizeOf55 ho rfl rfl (by omega))
   refine ZA (fun w29 x30 => ?_) ?_
   ·have z31 := x30.size
    have hs := hs.ext x30
    refine Qi (Zv ?_)
    exact ZT rfl (Jx isAgg55 sizeOf55 hs rfl (Jw okz (by omega)))
   refine ZA (fun w32 x33 => ?_) ?_
   ·have z34 := x33.size
    refine Qi (Qi (Zv ?_))
    exact ZT rfl (o_teql eq_ck rfl rfl)
   exact JG
  case fin6 =>
   intro w35 x36
   have z37 := x36.size
   replace hX := hX.ex x36
   replace hXL1 := Bel.ex hXL1 x36
   replace ho := ho.ext x36
   replace hs := hs.ext x36
   refine Qi (Qi (Qi (Qi (Qi (Qi (Qi (Qi (Qi ?_))))))))
   refine Qi (Zv (Qg ?_))
   refine ZG rfl (fun hc3 => ?_) (fun hc3 => ?_)
   ·first | replace hc3 := dcT hc3 | replace hc3 := JN hc3 | skip
    refine QH (Qc ?_)
    refine Rr (mvS rfl) ?_
    refine Rr (mvI rfl) ?_
    refine Rr (o_sfromO (j := k) underlying70 sizeOf55 rfl rfl (by omega) (by omega)) ?_
    refine Rr (asS rfl) ?_
    refine Qg (QH (QH (Qc ?_)))
    refine Rr Zi ?_
    refine Qg (ZM ?_)
    refine Jk (α := List OKey × Nat × Nat) [(3, 3), (5, 5), (29, 53)] (fun p => [(3, .int .i64 (p.2.2 : Int)), (5, .int .i64 (p.2.1 : Int))]) (fun p w' => (1 ≤ p.2.1 ∧ k + p.2.1 ≤ l.length ∧ p.1 = compL (l.take (k + p.2.1)) ∧ p.1.length = p.2.2 ∧ p.2.2 + 1 ≤ k + p.2.1) ∧ Bel β (B) w35 w' ∧ (Own encCk 6 55 B w' (.slice a l.length c) (p.1 ++ l.drop p.1.length))) (fun p => l.length - (k + p.2.1)) (l.take k, 1, k) ⟨rfl, rfl, trivial⟩ ⟨⟨Nat.le_refl _, by show k + 1 ≤ l.length; omega, by rw [comp_eq (z := okz) (by omega) hk1 (by simpa using hc3), hall], by simp; omega, Nat.le_refl _⟩, Bel.refl _ _, (by rw [List.length_take, Nat.min_eq_left (by omega), List.take_append_drop]; exact ho)⟩ ?_
    rintro p fb40 w39 ⟨⟨hp1, hp2, hp3, hp4, hp5⟩, hXL38, hown⟩
    have z41 := Bel.size hXL38
    replace hX := Bel.out hX hXL38 om2
    replace hXL1 := Bel.out hXL1 hXL38 om2
    have hs := hown.slA encCk_ok
    refine QH (QH (Qc ?_))
    refine Rr (mvI rfl) ?_
    refine Rr (mvS rfl) ?_
    refine Rr (Z0 underlying70 rfl) ?_
    refine Rr (Z5 rfl rfl) ?_
    refine Qg ?_
    refine ZG rfl (fun hc4 => ?_) (fun hc4 => ?_)
    ·first | replace hc4 := dcT hc4 | replace hc4 := JN hc4 | skip
     refine ZH (QH (ZM (QH ?_)))
     apply J3 (β := β) [peq _, peq _, peq _, peq _, peq _, peq _, peq _, peq _, peq _, peq _] 10 Jz (by kernel_rfl) rfl ⟨Zs _, Zs _, Zs _, Zs _, Zs _, Zs _, Zs _, Zs _, Zs _, Zs _, trivial⟩ ?ob11 ?fin11
     case ob11 =>
      refine ZA (fun w42 x43 => ?_) ?_
      ·have z44 := x43.size
       refine Zv ?_
       exact ZT rfl (mvS rfl)
      refine ZA (fun w45 x46 => ?_) ?_
      ·have z47 := x46.size
       refine Zv ?_
       exact ZT rfl (mvI rfl)
      refine ZA (fun w48 x49 => ?_) ?_
      ·have z50 := x49.size
       have hown := hown.ext x49
       refine Qi (Qi (Zv ?_))
       exact ZT rfl (o_iaO2 (i := p.2.1) underlying70 sizeOf55 hown rfl rfl (by omega) (by omega))
      refine ZA (fun w51 x52 => ?_) ?_
      ·have z53 := x52.size
       have hs := hs.ext x52
       refine Qi (Zv ?_)
       exact ZT rfl (Jx isAgg55 sizeOf55 hs rfl (tail_get (z := okz) (by omega) (by omega)))
      refine ZA (fun w54 x55 => ?_) ?_
      ·have z56 := x55.size
       refine Zv ?_
       exact ZT rfl (mvS rfl)
      refine ZA (fun w57 x58 => ?_) ?_
      ·have z59 := x58.size
       refine Zv ?_
       exact ZT rfl (mvI rfl)
      refine ZA (fun w60 x61 => ?_) ?_
      ·have z62 := x61.size
       refine Qi (Zv ?_)
       exact ZT rfl (o_subN (b := 1) rfl rfl (by omega) (by omega))
      refine ZA (fun w63 x64 => ?_) ?_
      ·have z65 := x64.size
       have hown := hown.ext x64
       refine Qi (Qi (Zv ?_))
       exact ZT rfl (o_iaO2 (i := p.2.1 - 1) underlying70 sizeOf55 hown rfl rfl (by omega) (by omega))
      refine ZA (fun w66 x67 => ?_) ?_
      ·have z68 := x67.size
       have hs := hs.ext x67
       refine Qi (Zv ?_)
       exact ZT rfl (Jx isAgg55 sizeOf55 hs rfl (tail_get (z := okz) (by omega) (by omega)))
      refine ZA (fun w69 x70 => ?_) ?_
      ·have z71 := x70.size
       refine Qi (Qi (Zv ?_))
       exact ZT rfl (o_tneq eq_ck rfl rfl)
      exact JG
     case fin11 =>
      intro w72 x73
      have z74 := x73.size
      replace hX := hX.ex x73
      replace hXL1 := Bel.ex hXL1 x73
      replace hXL38 := Bel.ex hXL38 x73
      replace hown := hown.ext x73
      replace hs := hs.ext x73
      refine Qi (Qi (Qi (Qi (Qi (Qi (Qi (Qi (Qi ?_))))))))
      refine Qi (Zv (Qg ?_))
      refine ZG rfl (fun hc5 => ?_) (fun hc5 => ?_)
      ·first | replace hc5 := dcT hc5 | replace hc5 := JN hc5 | skip
       refine QH (Qc ?_)
       refine Rr (mvS rfl) ?_
       refine Rr (mvI rfl) ?_
       refine Rr (mvS rfl) ?_
       refine Rr (mvI rfl) ?_
       refine Rr (o_iaO2 (i := p.2.1) underlying70 sizeOf55 hown rfl rfl (by omega) (by omega)) ?_
       refine Rr (Jx isAgg55 sizeOf55 hs rfl (tail_get (z := okz) (by omega) (by omega))) ?_
       refine Rr (o_iaO underlying70 sizeOf55 hown rfl rfl (by omega)) ?_
       refine Rg_elst (u := l.getD (k + p.2.1) okz) rfl encCk_ok sizeOf55 rfl rfl rfl hown (by simp; omega) ?_
       intro w75 x76 hown
       have z77 := x76.size
       replace hX := Bel.out hX x76 om2
       replace hXL1 := Bel.out hXL1 x76 om2
       replace hXL38 := Bel.out hXL38 x76 om2
       refine Qg (Qc ?_)
       refine Rr (mvI rfl) ?_
       refine Rr (Z1 rfl rfl omg) ?_
       refine Rr (asI rfl) ?_
       refine Qg (Qc ?_)
       refine Rr (mvI rfl) ?_
       refine Rr (Z1 rfl rfl omg) ?_
       refine Rr (asI rfl) ?_
       refine Qg ?_
       refine ⟨(p.1 ++ [l.getD (k + p.2.1) okz], p.2.1 + 1, p.2.2 + 1), ⟨sT, sT, trivial⟩, oT, ⟨?_, hXL38, ?_⟩, ?_⟩
       ·exact ⟨by show 1 ≤ p.2.1 + 1; omega, by show k + (p.2.1 + 1) ≤ l.length; omega, by show _ = compL (l.take (k + p.2.1 + 1)); rw [comp_ne (z := okz) (by omega) (by omega) (by rw [show k + p.2.1 - 1 = k + (p.2.1 - 1) by omega]; simpa using hc5), hp3], by simp [hp4], by show p.2.2 + 1 + 1 ≤ k + (p.2.1 + 1); omega⟩
       ·rw [← hp4, tail_set (by omega)] at hown; exact hown
       ·show l.length - (k + (p.2.1 + 1)) < _; omega
      first | replace hc5 := dcF hc5 | replace hc5 := JO hc5 | skip
      refine ZH (Qc ?_)
      refine Rr (mvI rfl) ?_
      refine Rr (Z1 rfl rfl omg) ?_
      refine Rr (asI rfl) ?_
      refine Qg ?_
      refine ⟨(p.1, p.2.1 + 1, p.2.2), ⟨sT, sT, trivial⟩, oT, ⟨?_, hXL38, ?_⟩, ?_⟩
      ·exact ⟨by show 1 ≤ p.2.1 + 1; omega, by show k + (p.2.1 + 1) ≤ l.length; omega, by show _ = compL (l.take (k + p.2.1 + 1)); rw [comp_eq (z := okz) (by omega) (by omega) (by rw [show k + p.2.1 - 1 = k + (p.2.1 - 1) by omega]; simpa using hc5), hp3], hp4, by show p.2.2 + 1 ≤ k + (p.2.1 + 1); omega⟩
      ·exact hown
      ·show l.length - (k + (p.2.1 + 1)) < _; omega
    first | replace hc4 := dcF hc4 | replace hc4 := JO hc4 | skip
    refine Z4 (ZX (QH (Qc ?_)))
    refine Rr (mvS rfl) ?_
    refine Rr (mvI rfl) ?_
    refine Rr (o_sfromO (j := p.2.2) underlying70 sizeOf55 rfl rfl (by omega) (by omega)) ?_
    refine Rg_clear okz encCk_ok el_ck rfl rfl hown (by simp; omega) (by simp; omega) ?_
    intro w78 x79 hown
    have z80 := x79.size
    replace hX := Bel.out hX x79 om2
    replace hXL1 := Bel.out hXL1 x79 om2
    refine Qg (QH (Qc ?_))
    refine Rr (mvS rfl) ?_
    refine Rr (mvI rfl) ?_
    refine Rr (o_slto underlying70 sizeOf55 rfl rfl omg) ?_
    refine Rr (asS rfl) ?_
    refine Qg (ZJ ?_)
    refine ⟨_, ZF rfl rfl, ?_⟩
    have e : compL l = p.1 := by rw [hp3, show k + p.2.1 = l.length by omega, List.take_length]
    exact ⟨_, rfl, by rw [e]; exact hown.cutTo encCk_ok hp4, hX⟩
   first | replace hc3 := dcF hc3 | replace hc3 := JO hc3 | skip
   refine ZH (Qc ?_)
   refine Rr (mvI rfl) ?_
   refine Rr (Z1 rfl rfl omg) ?_
   refine Rr (asI rfl) ?_
   refine Qg ?_
   refine ⟨k + 1, ⟨sT, trivial⟩, oT, ⟨?_, hXL1, ?_⟩, ?_⟩
   ·exact ⟨by omega, by omega, by rw [comp_ne (z := okz) (by omega) hk1 (by simpa using hc3), hall, List.take_succ_eq_append_getElem (by omega)]; simp [List.getD, show k < l.length by omega]⟩
   ·exact ho
   ·omega
 first | replace hc2 := dcF hc2 | replace hc2 := JO hc2 | skip
 refine Z4 (ZX (QH (Qc ?_)))
 refine Rr (mvS rfl) ?_
 refine Rr (asS rfl) ?_
 refine Qg (ZJ ?_)
 refine ⟨_, ZF rfl rfl, ?_⟩
 rw [List.take_of_length_le (by omega)] at hall
 exact ⟨_, rfl, by rw [hall]; exact ho, hX⟩

theorem ckcompV (B : Nat → Prop) (l : List OKey) (v : Value) (w : World) (ho : Own encCk 6 55 B w v l) : Ok Tryz.prog 60 #[v] w fun v' w' => Own encCk 6 55 B w' v' (compL l) ∧ Bel False B w w' := by
 obtain ⟨a, c, rfl, _⟩ := ho.sl encCk_ok
 refine (ckcomp False a c B l w ho).mono ?_
 rintro _ w' ⟨m, rfl, h1, h2⟩
 exact ⟨h1, h2⟩
