/- Walks: what functions return. -/
import Derived.Test.YtdnkjdmfnmdpdaaGreatDoorWset5
import Derived.Test.YtdnkjdmfnmdpdaaGreatDoorWref11d
set_option linter.unusedVariables false
set_option linter.unusedSimpArgs false
set_option linter.unnecessarySimpa false
namespace Go.Proofs.YtdnkjdmfnmdpdaaGreatDoor
open Go Go.Lx Go.RowKit Tryz
set_option maxRecDepth 100000
theorem rkey_ok (o : COp) (w : World) : Ok Tryz.prog 15 #[.agg (encRo o).toArray] w fun v w' => v = .agg (encRk o.key).toArray ∧ Ext False w w' := by
 refine ZQ 12 func15 rfl rfl rfl ?_
 have hX := xRf w
 refine QH (Qc ?_)
 refine Z2 rfl (JB (v := .agg _) rfl) ?_
 intro b1 w1 x2 hge1 hb1
 have hlt1 := hb1.lt
 change Box _ _ _ (encRo _) at hb1
 have z3 := x2.size
 replace hX := hX.ex x2
 refine Z2 rfl (JK zeroValue59) ?_
 intro b2 w4 x5 hge2 hb2
 have hlt2 := hb2.lt
 change Box _ _ _ ([.int _ _, .int _ _, .int _ _, str _, str _, .bool _]) at hb2
 have z6 := x5.size
 replace hX := hX.ex x5
 replace hb1 := hb1.ext x5
 refine Qg (QH (Qc ?_))
 refine Rr (ZN underlying44 rfl sizeOf3 rfl) ?_
 refine Rr (ZB isAgg3 rfl (hb1.at.get 1 rfl)) ?_
 refine Rr (ZN underlying44 rfl sizeOf3 rfl) ?_
 refine Rr (ZB isAgg3 rfl (hb1.at.get 2 rfl)) ?_
 refine Rr (ZN underlying44 rfl sizeOf3 rfl) ?_
 refine Rr (ZB isAgg3 rfl (hb1.at.get 3 rfl)) ?_
 refine Rr (ZN underlying44 rfl sizeOf42 rfl) ?_
 refine Rr (ZO isAgg42 sizeOf42 rfl (hb1.at.sub 5 3) rfl) ?_
 refine Rr (Z7 (cells := encRk o.key) (vs := [(0, .int _ _), (1, .int _ _), (2, .int _ _), (3, .agg _)]) rfl (by kernel_rfl)) ?_
 refine Ja (v := .agg _) rfl sizeOf59 rfl rfl hb2 rfl rfl rfl ?_
 intro w7 c8 hb2
 change Box _ _ _ (encRk _) at hb2
 have z9 := Bel.size c8
 replace hX := Bel.out hX c8 om2
 refine Qg (ZJ ?_)
 refine ⟨_, res_1 (v := .agg _) rfl (Ju isAgg59 sizeOf59 rfl hb2.at rfl), ?_⟩
 exact ⟨rfl, hX⟩

theorem rrole_ok (w : World) (r : Int) : Ok Tryz.prog 52 #[.int .i64 r] w fun v w' => v = .bool (decide (1 ≤ r) && decide (r ≤ 63)) ∧ Ext False w w' := by
 refine ZQ 9 func52 rfl rfl rfl ?_
 have hX := xRf w
 refine QH (Qc ?_)
 refine Rr Zi ?_
 refine Qg (QH (Qc ?_))
 refine Rr (mvI rfl) ?_
 refine Rr (o_geq rfl rfl) ?_
 refine Rr (mvB rfl) ?_
 refine ZI 2 5 rfl rfl rfl (fun hg => (mvI rfl)) ?_
 refine ZI 2 5 rfl rfl rfl (fun hg => (o_leq (ZU (u := undef) hg) rfl)) ?_
 refine Rr (Jq (u := undef) rfl rfl) ?_
 refine Rr (asB rfl) ?_
 refine Qg (ZJ ?_)
 refine ⟨_, ZF rfl rfl, ?_⟩
 refine ⟨cvB ?_, hX⟩
 all_goals (rfl)

theorem rcheckO_ok (o : COp) (hp : o.p.ok) (w : World) : Ok Tryz.prog 12 #[.agg (encRo o).toArray] w fun v w' => v = .int .i64 (checkO o) ∧ Ext False w w' := by
 refine ZQ 96 func12 rfl rfl rfl ?_
 have hX := xRf w
 refine QH (Qc ?_)
 refine Z2 rfl (JB (v := .agg _) rfl) ?_
 intro b1 w1 x2 hge1 hb1
 change Box _ _ _ (encRo _) at hb1
 replace hX := hX.ex x2
 refine Rr Zi ?_
 refine Qg (QH (QH (Qc ?_)))
 refine Rr (ZN underlying44 rfl sizeOf3 rfl) ?_
 refine Rr (ZB isAgg3 rfl (hb1.at.get 1 rfl)) ?_
 refine Rr (Z5 rfl rfl) ?_
 refine Rr (mvB rfl) ?_
 refine ZI 3 7 rfl rfl rfl (fun hg => (ZN underlying44 rfl sizeOf3 rfl)) ?_
 refine ZI 3 7 rfl rfl rfl (fun hg => (ZB isAgg3 (ZU (u := undef) hg) (hb1.at.get 1 rfl))) ?_
 refine ZI 3 7 rfl rfl rfl (fun hg => (JY (ZU (u := undef) hg) rfl)) ?_
 refine Rr (JP (u := undef) rfl rfl) ?_
 refine Qg ?_
 refine ZG rfl (fun hc1 => ?_) (fun hc1 => ?_)
 ·have hr : o.k < 1 ∨ 3 < o.k := by simp at hc1; omega
  refine QH (Qc ?_)
  refine Rr Zi ?_
  refine Qg (ZJ ?_)
  refine ⟨_, ZF rfl rfl, ?_⟩
  refine ⟨congrArg (Value.int .i64) ?_, hX⟩
  all_goals (rw [checkO, if_pos hr])
 have hr : ¬ (o.k < 1 ∨ 3 < o.k) := by simp at hc1; omega
 refine ZH (QH (Qc ?_))
 refine Rr (Z7 (cells := encP pz) (vs := []) rfl (by kernel_rfl)) ?_
 refine Z8 rfl rfl zeroValue42 rfl sizeOf42 (fun _ => rfl) rfl rfl ?_
 intro b3 w3 x4 hge3 hb3
 change Box _ _ _ (encP _) at hb3
 replace hX := hX.ex x4
 replace hb1 := hb1.ext x4
 refine Qg (QH (QH (Qc ?_)))
 refine Rr (ZN underlying44 rfl sizeOf3 rfl) ?_
 refine Rr (ZB isAgg3 rfl (hb1.at.get 1 rfl)) ?_
 refine Rr (JD rfl rfl) ?_
 refine Rr (mvB rfl) ?_
 refine ZI 3 16 rfl rfl rfl (fun hg => (ZN underlying44 rfl sizeOf42 rfl)) ?_
 refine ZI 3 16 rfl rfl rfl (fun hg => (ZO isAgg42 sizeOf42 (ZU (u := undef) hg) (hb1.at.sub 5 3) rfl)) ?_
 refine ZI 3 16 rfl rfl rfl (fun hg => (ZO isAgg42 sizeOf42 rfl hb3.at rfl)) ?_
 refine ZI 3 16 rfl rfl rfl (fun hg => (o_tneq eq_rp (ZU (u := undef) hg) (ZU (u := undef) hg))) ?_
 refine Rr (Jq (u := undef) rfl rfl) ?_
 refine Rr (mvB rfl) ?_
 refine ZI 9 22 rfl rfl rfl (fun hg => (ZN underlying44 rfl sizeOf3 rfl)) ?_
 refine ZI 9 22 rfl rfl rfl (fun hg => (ZB isAgg3 (ZU (u := undef) hg) (hb1.at.get 1 rfl))) ?_
 refine ZI 9 22 rfl rfl rfl (fun hg => (JD (ZU (u := undef) hg) rfl)) ?_
 refine ZI 9 22 rfl rfl rfl (fun hg => (Zt (v := .bool _) (ZU (u := undef) hg))) ?_
 refine JU 13 26 rfl rfl rfl (fun hg => (ZN underlying44 rfl sizeOf3 rfl)) ?_
 refine JU 13 26 rfl rfl rfl (fun hg => (ZB isAgg3 (ZU (u := undef) hg) (hb1.at.get 4 rfl))) ?_
 refine JU 13 26 rfl rfl rfl (fun hg => (JD (ZU (u := undef) hg) rfl)) ?_
 refine ZI 9 22 rfl rfl rfl (fun hg => (Jq (u := undef) (ZU (u := undef) hg) (gand (u := undef) hg))) ?_
 refine Rr (JP (u := undef) rfl rfl) ?_
 refine Rr (mvB rfl) ?_
 refine ZI 19 32 rfl rfl rfl (fun hg => (ZN underlying44 rfl sizeOf3 rfl)) ?_
 refine ZI 19 32 rfl rfl rfl (fun hg => (ZB isAgg3 (ZU (u := undef) hg) (hb1.at.get 1 rfl))) ?_
 refine ZI 19 32 rfl rfl rfl (fun hg => (ZZ (ZU (u := undef) hg) rfl)) ?_
 refine ZI 19 32 rfl rfl rfl (fun hg => (Zt (v := .bool _) (ZU (u := undef) hg))) ?_
 refine JU 23 36 rfl rfl rfl (fun hg => (ZN underlying44 rfl sizeOf3 rfl)) ?_
 refine JU 23 36 rfl rfl rfl (fun hg => (ZB isAgg3 (ZU (u := undef) hg) (hb1.at.get 3 rfl))) ?_
 refine JU 23 36 rfl rfl rfl (fun hg => (JD (ZU (u := undef) hg) rfl)) ?_
 refine ZI 19 32 rfl rfl rfl (fun hg => (Jq (u := undef) (ZU (u := undef) hg) (gand (u := undef) hg))) ?_
 refine Rr (JP (u := undef) rfl rfl) ?_
 refine Qg ?_
 refine ZG rfl (fun hc2 => ?_) (fun hc2 => ?_)
 ·have hf : (o.k ≠ 2 ∧ o.p ≠ pz) ∨ (o.k ≠ 1 ∧ o.u ≠ 0) ∨ (o.k = 2 ∧ o.b ≠ 0) := by simpa [or_assoc] using hc2
  refine QH (Qc ?_)
  refine Rr Zi ?_
  refine Qg (ZJ ?_)
  refine ⟨_, ZF rfl rfl, ?_⟩
  refine ⟨congrArg (Value.int .i64) ?_, hX⟩
  all_goals (rw [checkO, if_neg hr, if_pos hf])
 have hf : ¬ ((o.k ≠ 2 ∧ o.p ≠ pz) ∨ (o.k ≠ 1 ∧ o.u ≠ 0) ∨ (o.k = 2 ∧ o.b ≠ 0)) := by simpa [or_assoc, and_assoc] using hc2
 refine ZH (QH (QH (Qc ?_)))
 refine Rr (ZN underlying44 rfl sizeOf3 rfl) ?_
 refine Rr (ZB isAgg3 rfl (hb1.at.get 1 rfl)) ?_
 refine Qg (ZM (QH (Qc ?_)))
 refine Rr (ZZ rfl rfl) ?_
 refine Rr (asB rfl) ?_
 refine Qg ?_
 refine ZG rfl (fun hc3 => ?_) (fun hc3 => ?_)
 ·have hk : o.k = 1 := by simpa using hc3
  refine QH (Qc ?_)
  refine Rr (ZN underlying44 rfl sizeOf3 rfl) ?_
  refine Rr (ZB isAgg3 rfl (hb1.at.get 2 rfl)) ?_
  refine Rr (Z5 rfl rfl) ?_
  refine Rr (mvB rfl) ?_
  refine ZI 3 49 rfl rfl rfl (fun hg => (ZN underlying44 rfl sizeOf3 rfl)) ?_
  refine ZI 3 49 rfl rfl rfl (fun hg => (ZB isAgg3 (ZU (u := undef) hg) (hb1.at.get 2 rfl))) ?_
  refine ZI 3 49 rfl rfl rfl (fun hg => (JY (ZU (u := undef) hg) rfl)) ?_
  refine Rr (JP (u := undef) rfl rfl) ?_
  refine Rr (mvB rfl) ?_
  refine ZI 8 54 rfl rfl rfl (fun hg => (ZN underlying44 rfl sizeOf3 rfl)) ?_
  refine ZI 8 54 rfl rfl rfl (fun hg => (ZB isAgg3 (ZU (u := undef) hg) (hb1.at.get 3 rfl))) ?_
  refine JQ 8 54 rfl rfl rfl (fun hg => ⟨(ZK call52 (ZU (u := undef) hg)), rrole_ok _ _⟩) ?_
  intro w5 x6
  replace hX := hX.ex x6
  replace hb1 := hb1.ext x6
  refine ZI 8 54 rfl rfl rfl (fun hg => (Jf (ZU (u := undef) hg))) ?_
  refine Rr (JP (u := undef) rfl rfl) ?_
  refine Rr (mvB rfl) ?_
  refine ZI 14 60 rfl rfl rfl (fun hg => (ZN underlying44 rfl sizeOf3 rfl)) ?_
  refine ZI 14 60 rfl rfl rfl (fun hg => (ZB isAgg3 (ZU (u := undef) hg) (hb1.at.get 4 rfl))) ?_
  refine ZI 14 60 rfl rfl rfl (fun hg => (Z5 (ZU (u := undef) hg) rfl)) ?_
  refine Rr (JP (u := undef) rfl rfl) ?_
  refine Rr (mvB rfl) ?_
  refine ZI 19 65 rfl rfl rfl (fun hg => (ZN underlying44 rfl sizeOf3 rfl)) ?_
  refine ZI 19 65 rfl rfl rfl (fun hg => (ZB isAgg3 (ZU (u := undef) hg) (hb1.at.get 4 rfl))) ?_
  refine ZI 19 65 rfl rfl rfl (fun hg => (JY (ZU (u := undef) hg) rfl)) ?_
  refine Rr (JP (u := undef) rfl rfl) ?_
  refine Qg ?_
  refine ZG rfl (fun hc4 => ?_) (fun hc4 => ?_)
  ·have hn : o.a < 1 ∨ 256 < o.a ∨ o.b < 1 ∨ 63 < o.b ∨ o.u < 0 ∨ 30000 < o.u := by simp at hc4; omega
   refine QH (Qc ?_)
   refine Rr Zi ?_
   refine Qg (ZJ ?_)
   refine ⟨_, ZF rfl rfl, ?_⟩
   refine ⟨congrArg (Value.int .i64) ?_, hX⟩
   all_goals (rw [checkO, if_neg hr, if_neg hf, if_pos hk, if_pos hn])
  have hn : ¬ (o.a < 1 ∨ 256 < o.a ∨ o.b < 1 ∨ 63 < o.b ∨ o.u < 0 ∨ 30000 < o.u) := by simp at hc4; omega
  refine ZH (QH (Qc ?_))
  refine Rr Zi ?_
  refine Qg (ZJ ?_)
  refine ⟨_, ZF rfl rfl, ?_⟩
  refine ⟨congrArg (Value.int .i64) ?_, hX⟩
  all_goals (rw [checkO, if_neg hr, if_neg hf, if_pos hk, if_neg hn])
 have hk1 : ¬ o.k = 1 := by simpa using hc3
 refine QH (Qc ?_)
 refine Rr (ZZ rfl rfl) ?_
 refine Rr (asB rfl) ?_
 refine Qg ?_
 refine ZG rfl (fun hc5 => ?_) (fun hc5 => ?_)
 ·have hk : o.k = 2 := by simpa using hc5
  refine QH (QH (Qc ?_))
  refine Rr (ZN underlying44 rfl sizeOf3 rfl) ?_
  refine Rr (ZB isAgg3 rfl (hb1.at.get 2 rfl)) ?_
  refine ZC rfl (ZK call52 rfl) (Ok.mono (rrole_ok _ _) ?_)
  rintro _ w7 ⟨rfl, x8⟩
  replace hX := hX.ex x8
  replace hb1 := hb1.ext x8
  refine Rr (Jf rfl) ?_
  refine Qg ?_
  refine ZG rfl (fun hc6 => ?_) (fun hc6 => ?_)
  ·have hn : o.a < 1 ∨ 63 < o.a := by simp at hc6; omega
   refine QH (Qc ?_)
   refine Rr Zi ?_
   refine Qg (ZJ ?_)
   refine ⟨_, ZF rfl rfl, ?_⟩
   refine ⟨congrArg (Value.int .i64) ?_, hX⟩
   all_goals (rw [checkO, if_neg hr, if_neg hf, if_neg (by omega), if_pos hk, if_pos hn])
  have hn : ¬ (o.a < 1 ∨ 63 < o.a) := by simp at hc6; omega
  refine ZH (QH (Qc ?_))
  refine Rr (ZN underlying44 rfl sizeOf42 rfl) ?_
  refine Rr (ZO isAgg42 sizeOf42 rfl (hb1.at.sub 5 3) rfl) ?_
  refine ZC rfl (ZK call53 rfl) (Ok.mono (rcheck_ok _ _ hp) ?_)
  rintro _ w9 ⟨rfl, x10⟩
  replace hX := hX.ex x10
  refine Rr (asI rfl) ?_
  refine Qg (ZJ ?_)
  refine ⟨_, ZF rfl rfl, ?_⟩
  refine ⟨congrArg (Value.int .i64) ?_, hX⟩
  all_goals (rw [checkO, if_neg hr, if_neg hf, if_neg (by omega), if_pos hk, if_neg hn])
 have hk2 : ¬ o.k = 2 := by simpa using hc5
 refine QH (Qc ?_)
 refine Rr (ZZ rfl rfl) ?_
 refine Rr (asB rfl) ?_
 refine Qg ?_
 refine ZG rfl (fun hc7 => ?_) (fun hc7 => ?_)
 ·have hk : o.k = 3 := by simpa using hc7
  refine QH (QH (Qc ?_))
  refine Rr (ZN underlying44 rfl sizeOf3 rfl) ?_
  refine Rr (ZB isAgg3 rfl (hb1.at.get 2 rfl)) ?_
  refine ZC rfl (ZK call52 rfl) (Ok.mono (rrole_ok _ _) ?_)
  rintro _ w11 ⟨rfl, x12⟩
  replace hX := hX.ex x12
  replace hb1 := hb1.ext x12
  refine Rr (Jf rfl) ?_
  refine Rr (mvB rfl) ?_
  refine ZI 4 85 rfl rfl rfl (fun hg => (ZN underlying44 rfl sizeOf3 rfl)) ?_
  refine ZI 4 85 rfl rfl rfl (fun hg => (ZB isAgg3 (ZU (u := undef) hg) (hb1.at.get 3 rfl))) ?_
  refine JQ 4 85 rfl rfl rfl (fun hg => ⟨(ZK call52 (ZU (u := undef) hg)), rrole_ok _ _⟩) ?_
  intro w13 x14
  replace hX := hX.ex x14
  replace hb1 := hb1.ext x14
  refine ZI 4 85 rfl rfl rfl (fun hg => (Jf (ZU (u := undef) hg))) ?_
  refine Rr (JP (u := undef) rfl rfl) ?_
  refine Qg ?_
  refine ZG rfl (fun hc8 => ?_) (fun hc8 => ?_)
  ·have hn : o.a < 1 ∨ 63 < o.a ∨ o.b < 1 ∨ 63 < o.b := by simp at hc8; omega
   refine QH (Qc ?_)
   refine Rr Zi ?_
   refine Qg (ZJ ?_)
   refine ⟨_, ZF rfl rfl, ?_⟩
   refine ⟨congrArg (Value.int .i64) ?_, hX⟩
   all_goals (rw [checkO, if_neg hr, if_neg hf, if_neg (by omega), if_neg (by omega), if_pos hn])
  have hn : ¬ (o.a < 1 ∨ 63 < o.a ∨ o.b < 1 ∨ 63 < o.b) := by simp at hc8; omega
  refine ZH (QH (Qc ?_))
  refine Rr (ZN underlying44 rfl sizeOf3 rfl) ?_
  refine Rr (ZB isAgg3 rfl (hb1.at.get 2 rfl)) ?_
  refine Rr (ZN underlying44 rfl sizeOf3 rfl) ?_
  refine Rr (ZB isAgg3 rfl (hb1.at.get 3 rfl)) ?_
  refine Rr (ZZ rfl rfl) ?_
  refine Qg ?_
  refine ZG rfl (fun hc9 => ?_) (fun hc9 => ?_)
  ·have he : o.a = o.b := by simpa using hc9
   refine QH (Qc ?_)
   refine Rr Zi ?_
   refine Qg (ZJ ?_)
   refine ⟨_, ZF rfl rfl, ?_⟩
   refine ⟨congrArg (Value.int .i64) ?_, hX⟩
   all_goals (rw [checkO, if_neg hr, if_neg hf, if_neg (by omega), if_neg (by omega), if_neg hn, if_pos he])
  have he : ¬ o.a = o.b := by simpa using hc9
  refine ZH (QH (Qc ?_))
  refine Rr Zi ?_
  refine Qg (ZJ ?_)
  refine ⟨_, ZF rfl rfl, ?_⟩
  refine ⟨congrArg (Value.int .i64) ?_, hX⟩
  all_goals (rw [checkO, if_neg hr, if_neg hf, if_neg (by omega), if_neg (by omega), if_neg hn, if_neg he])
 have hk3 : ¬ o.k = 3 := by simpa using hc7
 refine ZH (QH (Qc ?_))
 refine Rr Zi ?_
 refine Qg (ZJ ?_)
 refine ⟨_, ZF rfl rfl, ?_⟩
 refine ⟨congrArg (Value.int .i64) ?_, hX⟩
 all_goals (exact absurd hr (by omega))

theorem rless_ok (x y : COp) (hx : x.p.ok) (hy : y.p.ok) (w : World) : Ok Tryz.prog 110 #[.agg (encRo x).toArray, .agg (encRo y).toArray] w fun v w' => v = .bool (decide (cmpO x y < 0)) ∧ Ext False w w' := by
 refine ZQ 52 func110 rfl rfl rfl ?_
 have hX := xRf w
 refine QH (Qc ?_)
 refine Z2 rfl (JB (v := .agg _) rfl) ?_
 intro b2 w1 x2 hge2 hb2
 change Box _ _ _ (encRo _) at hb2
 replace hX := hX.ex x2
 refine Z2 rfl (JB (v := .agg _) rfl) ?_
 intro b3 w3 x4 hge3 hb3
 change Box _ _ _ (encRo _) at hb3
 replace hX := hX.ex x4
 replace hb2 := hb2.ext x4
 refine Rr Zi ?_
 refine Qg (QH (QH (Qc ?_)))
 refine Rr (ZN underlying44 rfl sizeOf3 rfl) ?_
 refine Rr (ZB isAgg3 rfl (hb2.at.get 1 rfl)) ?_
 refine Rr (ZN underlying44 rfl sizeOf3 rfl) ?_
 refine Rr (ZB isAgg3 rfl (hb3.at.get 1 rfl)) ?_
 refine Rr (JD rfl rfl) ?_
 refine Qg ?_
 refine ZG rfl (fun hc1 => ?_) (fun hc1 => ?_)
 ·have hk : x.k ≠ y.k := by simpa using hc1
  refine QH (Qc ?_)
  refine Rr (ZN underlying44 rfl sizeOf3 rfl) ?_
  refine Rr (ZB isAgg3 rfl (hb2.at.get 1 rfl)) ?_
  refine Rr (ZN underlying44 rfl sizeOf3 rfl) ?_
  refine Rr (ZB isAgg3 rfl (hb3.at.get 1 rfl)) ?_
  refine Rr (Z5 rfl rfl) ?_
  refine Rr (asB rfl) ?_
  refine Qg (ZJ ?_)
  refine ⟨_, ZF rfl rfl, ?_⟩
  refine ⟨cvB ?_, hX⟩
  all_goals (exact lessO_k hk)
 have hk : x.k = y.k := by simpa using hc1
 refine ZH (QH (QH (Qc ?_)))
 refine Rr (ZN underlying44 rfl sizeOf3 rfl) ?_
 refine Rr (ZB isAgg3 rfl (hb2.at.get 2 rfl)) ?_
 refine Rr (ZN underlying44 rfl sizeOf3 rfl) ?_
 refine Rr (ZB isAgg3 rfl (hb3.at.get 2 rfl)) ?_
 refine Rr (JD rfl rfl) ?_
 refine Qg ?_
 refine ZG rfl (fun hc2 => ?_) (fun hc2 => ?_)
 ·have ha : x.a ≠ y.a := by simpa using hc2
  refine QH (Qc ?_)
  refine Rr (ZN underlying44 rfl sizeOf3 rfl) ?_
  refine Rr (ZB isAgg3 rfl (hb2.at.get 2 rfl)) ?_
  refine Rr (ZN underlying44 rfl sizeOf3 rfl) ?_
  refine Rr (ZB isAgg3 rfl (hb3.at.get 2 rfl)) ?_
  refine Rr (Z5 rfl rfl) ?_
  refine Rr (asB rfl) ?_
  refine Qg (ZJ ?_)
  refine ⟨_, ZF rfl rfl, ?_⟩
  refine ⟨cvB ?_, hX⟩
  all_goals (exact lessO_a hk ha)
 have ha : x.a = y.a := by simpa using hc2
 refine ZH (QH (QH (Qc ?_)))
 refine Rr (ZN underlying44 rfl sizeOf3 rfl) ?_
 refine Rr (ZB isAgg3 rfl (hb2.at.get 3 rfl)) ?_
 refine Rr (ZN underlying44 rfl sizeOf3 rfl) ?_
 refine Rr (ZB isAgg3 rfl (hb3.at.get 3 rfl)) ?_
 refine Rr (JD rfl rfl) ?_
 refine Qg ?_
 refine ZG rfl (fun hc3 => ?_) (fun hc3 => ?_)
 ·have hb : x.b ≠ y.b := by simpa using hc3
  refine QH (Qc ?_)
  refine Rr (ZN underlying44 rfl sizeOf3 rfl) ?_
  refine Rr (ZB isAgg3 rfl (hb2.at.get 3 rfl)) ?_
  refine Rr (ZN underlying44 rfl sizeOf3 rfl) ?_
  refine Rr (ZB isAgg3 rfl (hb3.at.get 3 rfl)) ?_
  refine Rr (Z5 rfl rfl) ?_
  refine Rr (asB rfl) ?_
  refine Qg (ZJ ?_)
  refine ⟨_, ZF rfl rfl, ?_⟩
  refine ⟨cvB ?_, hX⟩
  all_goals (exact lessO_b hk ha hb)
 have hb : x.b = y.b := by simpa using hc3
 refine ZH (QH (Qc ?_))
 refine Rr (ZN underlying44 rfl sizeOf42 rfl) ?_
 refine Rr (ZO isAgg42 sizeOf42 rfl (hb2.at.sub 5 3) rfl) ?_
 refine Rr (ZN underlying44 rfl sizeOf42 rfl) ?_
 refine Rr (ZO isAgg42 sizeOf42 rfl (hb3.at.sub 5 3) rfl) ?_
 refine ZC rfl (ZW call127 rfl rfl) (Ok.mono (rcompare_ok _ _ hx _ hy) ?_)
 rintro _ w5 ⟨rfl, x6⟩
 replace hX := hX.ex x6
 replace hb2 := hb2.ext x6
 replace hb3 := hb3.ext x6
 refine Rr (asI rfl) ?_
 refine Qg (QH (QH (Qc ?_)))
 refine Rr (mvI rfl) ?_
 refine Rr (JD rfl rfl) ?_
 refine Qg ?_
 refine ZG rfl (fun hc4 => ?_) (fun hc4 => ?_)
 ·have hm : cmpM x.p y.p ≠ 0 := by simpa using hc4
  refine QH (Qc ?_)
  refine Rr (mvI rfl) ?_
  refine Rr (Z5 rfl rfl) ?_
  refine Rr (asB rfl) ?_
  refine Qg (ZJ ?_)
  refine ⟨_, ZF rfl rfl, ?_⟩
  refine ⟨cvB ?_, hX⟩
  all_goals (exact lessO_p hk ha hb hm)
 have hm : cmpM x.p y.p = 0 := by simpa using hc4
 refine ZH (QH (Qc ?_))
 refine Rr (ZN underlying44 rfl sizeOf4 rfl) ?_
 refine Rr (ZB isAgg4 rfl (hb2.at.get 0 rfl)) ?_
 refine Rr (Jf rfl) ?_
 refine Rr (mvB rfl) ?_
 refine ZI 3 48 rfl rfl rfl (fun hg => (ZN underlying44 rfl sizeOf4 rfl)) ?_
 refine ZI 3 48 rfl rfl rfl (fun hg => (ZB isAgg4 (ZU (u := undef) hg) (hb3.at.get 0 rfl))) ?_
 refine Rr (Jq (u := undef) rfl rfl) ?_
 refine Rr (asB rfl) ?_
 refine Qg (ZJ ?_)
 refine ⟨_, ZF rfl rfl, ?_⟩
 refine ⟨cvB ?_, hX⟩
 all_goals (exact lessO_e hk ha hb hm)

set_option maxHeartbeats 2000000 in
theorem rsorted_ok (w : World) (vl : Value) (l : List COp) (hl : Rd encRo 8 (Lt w.heap.size) w vl l) (nl : l.length ≤ 100000) (hok : ∀ x ∈ l, x.p.ok) : Ok Tryz.prog 57 #[vl] w fun v w' => Own encRo 8 44 (Fsh w w') w' v (sortO l) ∧ Ext False w w' := by
 obtain ⟨al, cl, rfl, hl⟩ := hl; have ml := hl.len
 refine ZQ 44 func57 rfl rfl rfl ?_
 have hX := xRf w
 refine QH (Qc ?_)
 refine Rr Zi ?_
 refine Qg (QH (Qc ?_))
 refine Rr Zi ?_
 refine Qg (QH (QH (Qc ?_)))
 refine Rr (mvS rfl) ?_
 refine Rr (Z0 underlying27 rfl) ?_
 refine Rr Jj ?_
 refine Qg (ZM ?_)
 refine Jk (α := Nat × List COp × Option Addr × Nat) [(3, 3), (5, 7), (10, 42)] (fun q => [(10, .int .i64 (q.1 : Int)), (3, .slice q.2.2.1 q.2.1.length q.2.2.2)]) (fun q w' => (q.1 ≤ l.length ∧ q.2.1 = sortO (l.take q.1)) ∧ Bel False (fun g => w.heap.size ≤ g) w w' ∧ (Own encRo 8 44 (fun g => w.heap.size ≤ g) w' (.slice q.2.2.1 q.2.1.length q.2.2.2) q.2.1)) (fun q => l.length - q.1) (0, [], none, 0) ⟨rfl, rfl, trivial⟩ ⟨⟨Nat.zero_le _, rfl⟩, Bel.refl _ _, Own.nil _ _⟩ ?_
 rintro ⟨k, M, t, ct⟩ fb3 w2 ⟨⟨hk, hM⟩, hXL1, hown⟩
 dsimp only at *
 have z4 := Bel.size hXL1
 replace hX := Bel.out hX hXL1 om2
 replace hl := hl.keep hXL1 om3
 have hMl : M.length = k := by rw [hM, sortO_len, List.length_take]; omega
 have hmo : ∀ x ∈ M, x.p.ok := fun x hx => hok x (List.mem_of_mem_take ((sortO_perm _).mem_iff.1 (hM ▸ hx)))
 refine QH (Qc ?_)
 refine Rr (Z5 rfl rfl) ?_
 refine Qg (QH ?_)
 refine ZG rfl (fun hc1 => ?_) (fun hc1 => ?_)
 ·replace hc1 := dcT hc1
  refine ZH (QH (ZM (QH (Qc ?_))))
  refine Rr (Js underlying27 sizeOf44 hl rfl rfl omg) ?_
  refine Rr (Jx isAgg44 sizeOf44 hl rfl (Jw coz (by omega))) ?_
  refine Z8 rfl rfl zeroValue44 rfl sizeOf44 (fun _ => rfl) rfl rfl ?_
  intro b5 w5 x6 hge5 hb5
  replace hown := hown.mono (D' := fun g => w.heap.size ≤ g ∧ g ≠ b5) (fun g h1 h2 => by omega)
  have hlt5 := hb5.lt
  change Box _ _ _ (encRo _) at hb5
  have z7 := x6.size
  replace hX := hX.ex x6
  replace hXL1 := Bel.ex hXL1 x6
  replace hown := hown.ext x6
  refine Qg (QH (Qc ?_))
  have hok1 := hok _ (gm (z := coz) (show k < l.length by omega))
  refine Rr Zi ?_
  refine Qg (QH (ZM ?_))
  refine Jk (α := Nat) [(6, 6), (14, 28)] (fun j => [(6, .int .i64 (j : Int))]) (fun j w' => (j ≤ M.length ∧ ∀ t, t < j → ¬ cmpO (l.getD k coz) (M.getD t coz) < 0) ∧ Ext False w5 w') (fun j => M.length - j) 0 ⟨rfl, trivial⟩ ⟨⟨Nat.zero_le _, fun t h => absurd h (Nat.not_lt_zero _)⟩, Bel.refl _ _⟩ ?_
  rintro j fb10 w9 ⟨⟨hj, hall⟩, hXL8⟩
  have z11 := Bel.size hXL8
  replace hX := hX.ex hXL8
  replace hXL1 := Bel.ex hXL1 hXL8
  replace hown := hown.ext hXL8
  replace hb5 := hb5.ext hXL8
  refine QH (QH ?_)
  apply J3 (β := False) [peq _, peq _, peq _, peq _, peq _, peq _, peq _, peq _, peq _, peq _, peq _, peq _, peq _] 13 Jz (by kernel_rfl) rfl ⟨Zs _, Zs _, Zs _, Zs _, Zs _, Zs _, Zs _, Zs _, Zs _, Zs _, Zs _, Zs _, Zs _, trivial⟩ ?ob6 ?fin6
  case ob6 =>
   refine ZA (fun w12 x13 => ?_) ?_
   ·have z14 := x13.size
    refine Zv ?_
    exact ZT rfl (mvI rfl)
   refine ZA (fun w15 x16 => ?_) ?_
   ·have z17 := x16.size
    refine Zv ?_
    exact ZT rfl (mvS rfl)
   refine ZA (fun w18 x19 => ?_) ?_
   ·have z20 := x19.size
    refine Qi (Zv ?_)
    exact ZT rfl (Z0 underlying27 rfl)
   refine ZA (fun w21 x22 => ?_) ?_
   ·have z23 := x22.size
    refine Qi (Qi (Zv ?_))
    exact ZT rfl (Z5 rfl rfl)
   refine ZA (fun w24 x25 => ?_) ?_
   ·have z26 := x25.size
    refine Qi (Zv ?_)
    exact ZT rfl (mvB rfl)
   refine ZA (fun w27 x28 => ?_) ?_
   ·have z29 := x28.size
    have hb5 := hb5.ext x28
    refine Qi (Zv ?_)
    exact Z9 4 18 rfl rfl (fun hg => (ZO isAgg44 sizeOf44 rfl hb5.at rfl))
   refine ZA (fun w30 x31 => ?_) ?_
   ·have z32 := x31.size
    refine Qi (Zv ?_)
    exact Z9 4 18 rfl rfl (fun hg => (mvS rfl))
   refine ZA (fun w33 x34 => ?_) ?_
   ·have z35 := x34.size
    refine Qi (Zv ?_)
    exact Z9 4 18 rfl rfl (fun hg => (mvI rfl))
   refine ZA (fun w36 x37 => ?_) ?_
   ·have z38 := x37.size
    have hown := hown.ext x37
    refine Qi (Qi (Qi (Zv ?_)))
    exact Z9 4 18 rfl rfl (fun hg => (Js underlying27 sizeOf44 (hown.slA ZV) (ZU (u := undef) hg) (ZU (u := undef) hg) omg))
   refine ZA (fun w39 x40 => ?_) ?_
   ·have z41 := x40.size
    have hown := hown.ext x40
    refine Qi (Qi (Zv ?_))
    exact Z9 4 18 rfl rfl (fun hg => (Jx isAgg44 sizeOf44 (hown.slA ZV) (ZU (u := undef) hg) (Jw coz (by simpa using hg))))
   refine ZA (fun w42 x43 => ?_) ?_
   ·have z44 := x43.size
    refine Qi (Qi (Qi (Qi (Zv ?_))))
    exact OpS_mayCall 4 18 rfl rfl (fun hg => ⟨(ZW call110 (ZU (u := undef) hg) (ZU (u := undef) hg)), rless_ok (l.getD k coz) (M.getD j coz) hok1 (hmo _ (gm (z := coz) (show j < M.length by simpa using hg))) _⟩)
   refine ZA (fun w45 x46 => ?_) ?_
   ·have z47 := x46.size
    refine Qi (Qi (Zv ?_))
    exact Z9 4 18 rfl rfl (fun hg => (Jf (ZU (u := undef) hg)))
   refine ZA (fun w48 x49 => ?_) ?_
   ·have z50 := x49.size
    refine Qi (Qi (Zv ?_))
    exact ZT rfl (Jq (u := undef) rfl rfl)
   exact JG
  case fin6 =>
   intro w51 x52
   have z53 := x52.size
   replace hX := hX.ex x52
   replace hXL1 := Bel.ex hXL1 x52
   replace hXL8 := Bel.ex hXL8 x52
   replace hown := hown.ext x52
   replace hb5 := hb5.ext x52
   refine Qi (Qi (Qi (Qi (Qi (Qi (Qi (Qi (Qi ?_))))))))
   refine Qi (Qi (Qi (Qi (Zv (Qg ?_)))))
   refine ZG rfl (fun hc2 => ?_) (fun hc2 => ?_)
   ·have hlt : j < M.length ∧ ¬ cmpO (l.getD k coz) (M.getD j coz) < 0 := by simpa using hc2
    refine ZH (ZM (Qc ?_))
    refine Rr (mvI rfl) ?_
    refine Rr (Z1 rfl rfl omg) ?_
    have hok1 := hok _ (gm (z := coz) (show k < l.length by omega))
    refine Rr (asI rfl) ?_
    refine Qg ?_
    refine ⟨j + 1, ⟨sT, trivial⟩, oT, ⟨?_, hXL8⟩, ?_⟩
    ·exact ⟨by omega, fun t ht => (Nat.lt_succ_iff_lt_or_eq.1 ht).elim (hall t) (fun e => e ▸ hlt.2)⟩
    ·omega
   have hge : j < M.length → cmpO (l.getD k coz) (M.getD j coz) < 0 := by simpa using hc2
   refine Z4 (ZX (QH ?_))
   obtain ⟨n1, hn1⟩ : ∃ n, n = w51.heap.size := ⟨_, rfl⟩
   have hsM := hown.slA ZV
   apply JA (β := False) (fun _ => 0) [peqC _, (fun v w c => ∃ a, v = .slice a 1 1 ∧ postOwn encRo 8 44 1 ([(l.getD k coz)]) v w c), peqC _, peqC _, peqC _, (postOwn encRo 8 44 1 ([(l.getD k coz)] ++ M.drop j))] [0, 1, 0, 0, 0, 1] 6 Jz (by kernel_rfl) (by kernel_rfl) rfl ⟨Q4 _ _, (J4), Q4 _ _, Q4 _ _, Q4 _ _, (Jm), trivial⟩ ?ob8 ?fin8
   case ob8 =>
    refine Zb (fun w54 c56 x55 hc057 hk58 => ?_) ?_
    ·replace x55 := RelG.ext0 x55
     have z59 := x55.size
     have hb5 := hb5.ext x55
     refine QU ?_
     exact ZL rfl (ZO isAgg44 sizeOf44 rfl hb5.at rfl)
    refine Zb (fun w60 c62 x61 hc063 hk64 => ?_) ?_
    ·replace x61 := RelG.ext0 x61
     have z65 := x61.size
     refine Qk (QU ?_)
     exact OpC_bs (vs := [.agg _]) [(l.getD k coz)] ZV JW rfl rfl ⟨rfl, trivial⟩ rfl rfl rfl rfl
    refine Zb (fun w66 c68 x67 hc069 hk70 => ?_) ?_
    ·replace x67 := RelG.ext0 x67
     have z71 := x67.size
     refine QU ?_
     exact ZL rfl (mvS rfl)
    refine Zb (fun w72 c74 x73 hc075 hk76 => ?_) ?_
    ·replace x73 := RelG.ext0 x73
     have z77 := x73.size
     refine QU ?_
     exact ZL rfl (mvI rfl)
    refine Zb (fun w78 c80 x79 hc081 hk82 => ?_) ?_
    ·replace x79 := RelG.ext0 x79
     have z83 := x79.size
     refine Qk (Qk (QU ?_))
     exact ZL rfl (o_slfrom2 (j := j) underlying27 sizeOf44 rfl rfl hj hsM.le)
    refine Zb (fun w84 c86 x85 hc087 hk88 => ?_) ?_
    ·replace x85 := RelG.ext0 x85
     have z89 := x85.size
     have hown := hown.ext x85
     refine ZE (fun v30 hv30 => ?_)
     refine Qk (QU ?_)
     obtain ⟨a30, rfl, ho30⟩ := hv30
     exact Yd (by decide) ZV JW rfl rfl ho30 ((hown.slA ZV).drop hj) (by simp) (by simp; omega)
    exact Jv
   case fin8 =>
    intro w90 c92 x91 hc093
    replace x91 := RelG.ext0 x91
    have z94 := x91.size
    replace hX := hX.ex x91
    replace hXL1 := Bel.ex hXL1 x91
    replace hown := hown.ext x91
    refine Qk ?_
    refine ZE (fun v30 _ => ?_)
    refine Qk (Qk (Qk ?_))
    refine ZE (fun v34 hv34 => ?_)
    refine QU ?_
    change Own _ _ _ _ _ _ _ at hv34
    replace hv34 := Own.mono hv34 (D' := fun g => n1 ≤ g) (fun g h1 h2 => Nat.le_of_not_lt fun q => by have h := hc093 g (by omega); rw [h2] at h; simp at h)
    refine Rr (ZD (v := v34) rfl) ?_
    refine Qg (Qc ?_)
    obtain ⟨n2, hn2⟩ : ∃ n, n = w90.heap.size := ⟨_, rfl⟩
    replace hv34 := hv34.mono (D' := fun g => n1 ≤ g ∧ g < n2) (fun g h1 h2 => ⟨h2, by omega⟩)
    obtain ⟨a34, c34, hv34, -⟩ := hv34.sl ZV
    subst hv34
    refine Jh (vs := []) (([] : List COp)) rfl ZV JW rfl rfl trivial rfl rfl rfl rfl ?_
    intro a35 w95 x96 hown35
    have z97 := x96.size
    replace hX := hX.ex x96
    replace hXL1 := Bel.ex hXL1 x96
    replace hown := hown.ext x96
    replace hv34 := hv34.ext x96
    replace hown35 := hown35.mono (D' := fun g => n2 ≤ g) (fun g h1 h2 => by omega)
    refine Rr (mvS rfl) ?_
    refine Rr (mvI rfl) ?_
    refine Rr (o_slto (j := j) underlying27 sizeOf44 rfl rfl (by have := (hown.slA ZV).le; omega)) ?_
    refine Jd rfl ZV JW rfl rfl hown35 ((hown.slA ZV).take j) (by rw [List.length_take]; omega) (by simp; omega) omU ?_
    intro v39 w98 x99 hown35
    have z100 := x99.size
    replace hX := Bel.out hX x99 om2
    replace hXL1 := Bel.out hXL1 x99 om2
    replace hv34 := hv34.keepD x99 om3
    refine Rr (Zt (v := .slice a34 ([(l.getD k coz)] ++ M.drop j).length c34) rfl) ?_
    refine Jd rfl ZV JW rfl rfl hown35 (hv34.slA ZV) rfl (by simp; omega) omU ?_
    intro v41 w101 x102 hown35
    have z103 := x102.size
    replace hX := Bel.out hX x102 om2
    replace hXL1 := Bel.out hXL1 x102 om2
    refine Rr (ZD (v := v41) rfl) ?_
    refine Qg (Qc ?_)
    refine Rr (Z1 rfl rfl omg) ?_
    refine Rr (mvI rfl) ?_
    refine Qg ?_
    obtain ⟨a41, c41, hv41e, -⟩ := hown35.sl ZV
    subst hv41e
    refine ⟨(k + 1, [] ++ M.take j ++ ([(l.getD k coz)] ++ M.drop j), a41, c41), ⟨sT, sT, trivial⟩, oT, ⟨?_, hXL1, ?_⟩, ?_⟩
    ·exact ⟨by show k + 1 ≤ l.length; omega, by show _ = sortO (l.take (k + 1)); rw [sortO_succ (by omega), ← hM, insGo_atO hj hall hge]; rfl⟩
    ·exact hown35.mono (fun g h1 h2 => by omega)
    ·show l.length - (k + 1) < l.length - k; omega
 replace hc1 := dcF hc1
 refine Z4 (ZX (QH (Qc ?_)))
 refine Rr (mvS rfl) ?_
 refine Rr (asS rfl) ?_
 refine Qg (ZJ ?_)
 refine ⟨_, ZF rfl rfl, ?_⟩
 rw [List.take_of_length_le (by omega)] at hM
 subst hM
 exact ⟨hown.mono (fun g h1 h2 => by omega), hX⟩

set_option maxHeartbeats 2000000 in
theorem rof_ok (w : World) (vl : Value) (l : List COp) (hl : Rd encRo 8 (Lt w.heap.size) w vl l) (nl : l.length ≤ 100000) (hok : ∀ x ∈ l, x.p.ok) : Ok Tryz.prog 18 #[vl] w fun v w' => (∃ u, v = .tuple #[u, .int .i64 (ofO l).2] ∧ Own encRo 8 44 (Fsh w w') w' u (ofO l).1) ∧ Ext False w w' := by
 obtain ⟨al, cl, rfl, hl⟩ := hl; have ml := hl.len
 refine ZQ 66 func18 rfl rfl rfl ?_
 have hX := xRf w
 refine QH (Qc ?_)
 refine Rr Zi ?_
 refine Rr Zi ?_
 refine Qg (QH (QH (Qc ?_)))
 refine Rr (mvS rfl) ?_
 refine Rr (Z0 underlying27 rfl) ?_
 refine Rr Jj ?_
 refine Qg (ZM ?_)
 refine Jk (α := Nat) [(2, 3), (5, 6), (13, 22)] (fun k => [(13, .int .i64 (k : Int))]) (fun k w' => (k ≤ l.length ∧ ∀ j, j < k → checkO (l.getD j coz) = 0) ∧ Ext False w w') (fun k => l.length - k) 0 ⟨rfl, trivial⟩ ⟨⟨Nat.zero_le _, fun j h => absurd h (Nat.not_lt_zero _)⟩, Bel.refl _ _⟩ ?_
 rintro k fb3 w2 ⟨⟨hk, hall⟩, hXL1⟩
 have z4 := Bel.size hXL1
 replace hX := hX.ex hXL1
 replace hl := hl.ext hXL1
 refine QH (Qc ?_)
 refine Rr (Z5 rfl rfl) ?_
 refine Qg (QH ?_)
 refine ZG rfl (fun hc1 => ?_) (fun hc1 => ?_)
 ·replace hc1 := dcT hc1
  refine ZH (QH (ZM (QH (Qc ?_))))
  refine Rr (Js underlying27 sizeOf44 hl rfl rfl omg) ?_
  refine Rr (Jx isAgg44 sizeOf44 hl rfl (Jw coz (by omega))) ?_
  refine Z8 rfl rfl zeroValue44 rfl sizeOf44 (fun _ => rfl) rfl rfl ?_
  intro b5 w5 x6 hge5 hb5
  have hlt5 := hb5.lt
  change Box _ _ _ (encRo _) at hb5
  have z7 := x6.size
  replace hX := hX.ex x6
  replace hXL1 := Bel.ex hXL1 x6
  refine Qg (QH (Qc ?_))
  refine Rr (ZO isAgg44 sizeOf44 rfl hb5.at rfl) ?_
  refine ZC rfl (ZK call12 rfl) (Ok.mono (rcheckO_ok (l.getD k coz) (hok _ (gm (show k < l.length by omega))) _) ?_)
  rintro _ w8 ⟨rfl, x9⟩
  have z10 := x9.size
  replace hX := hX.ex x9
  replace hXL1 := Bel.ex hXL1 x9
  refine Rr (asI rfl) ?_
  refine Qg (QH (Qc ?_))
  refine Rr (mvI rfl) ?_
  refine Rr (JD rfl rfl) ?_
  refine Qg ?_
  refine ZG rfl (fun hc2 => ?_) (fun hc2 => ?_)
  ·have he : checkO (l.getD k coz) ≠ 0 := by simpa using hc2
   refine QH (Qc ?_)
   refine Rr (mvI rfl) ?_
   refine Rr Zi ?_
   refine Rr (asI rfl) ?_
   refine Qg (ZJ ?_)
   refine ⟨_, Je rfl rfl rfl, ?_⟩
   have e0 : ofO l = ([], checkO (l.getD k coz)) := by rw [ofO, errO_at (by omega) hall he, if_pos he]
   rw [e0]
   exact ⟨⟨_, rfl, Own.nil _ _⟩, hX⟩
  have he : checkO (l.getD k coz) = 0 := by simpa using hc2
  refine ZH (Qc ?_)
  refine Rr (Z1 rfl rfl omg) ?_
  refine Rr (mvI rfl) ?_
  refine Qg ?_
  refine ⟨k + 1, ⟨sT, trivial⟩, oT, ⟨?_, hXL1⟩, ?_⟩
  ·exact ⟨by omega, fun j hj => (Nat.lt_succ_iff_lt_or_eq.1 hj).elim (hall j) (fun e => e ▸ he)⟩
  ·omega
 replace hc1 := dcF hc1
 refine Z4 (ZX (QH (QH (Qc ?_))))
 have hv : ∀ x ∈ l, Vo x := fun x hx => by
  obtain ⟨j, hj, rfl⟩ := List.mem_iff_getElem.1 hx
  have h1 := hall j (by omega)
  have h2 : l.getD j coz = l[j] := by simp [List.getD, hj]
  rw [h2] at h1
  exact ⟨hok _ hx, h1⟩
 refine Rr (mvS rfl) ?_
 refine Rr (Z0 underlying27 rfl) ?_
 refine Rr Jj ?_
 refine Qg (ZM ?_)
 refine Jk (α := Nat) [(2, 3), (7, 8), (10, 10), (25, 63)] (fun i => [(25, .int .i64 (i : Int))]) (fun i w' => (i ≤ l.length ∧ CF (l.take i)) ∧ Ext False w2 w') (fun i => l.length - i) 0 ⟨rfl, trivial⟩ ⟨⟨Nat.zero_le _, List.Pairwise.nil⟩, Bel.refl _ _⟩ ?_
 rintro i fb13 w12 ⟨⟨hi, hcfi⟩, hXL11⟩
 have z14 := Bel.size hXL11
 replace hX := hX.ex hXL11
 replace hl := hl.ext hXL11
 refine QH (Qc ?_)
 refine Rr (Z5 rfl rfl) ?_
 refine Qg (QH ?_)
 refine ZG rfl (fun hc3 => ?_) (fun hc3 => ?_)
 ·have hil : i < l.length := by have := dcT hc3; omega
  refine ZH (QH (ZM (QH (Qc ?_))))
  refine Rr (mvI rfl) ?_
  refine Rr (Js underlying27 sizeOf44 hl rfl rfl omg) ?_
  refine Rr (Jx isAgg44 sizeOf44 hl rfl (Jw coz (by omega))) ?_
  refine Z2 rfl (JK zeroValue44) ?_
  intro b8 w15 x16 hge8 hb8
  have hlt8 := hb8.lt
  change Box _ _ _ ([.bool _, .int _ _, .int _ _, .int _ _, .int _ _, str _, str _, .bool _]) at hb8
  have z17 := x16.size
  replace hX := hX.ex x16
  replace hXL11 := Bel.ex hXL11 x16
  replace hl := hl.ext x16
  refine Rr (asI rfl) ?_
  refine Ja (v := .agg _) rfl sizeOf44 rfl rfl hb8 rfl rfl rfl ?_
  intro w18 c19 hb8
  change Box _ _ _ (encRo _) at hb8
  have z20 := Bel.size c19
  replace hX := Bel.out hX c19 om2
  replace hXL11 := Bel.out hXL11 c19 om2
  replace hl := hl.keep c19 om3
  refine Qg (QH (Qc ?_))
  refine Rr (mvS rfl) ?_
  refine Rr (mvI rfl) ?_
  refine Rr (o_slto (j := i) underlying27 sizeOf44 rfl rfl (by have := hl.le; omega)) ?_
  refine Rr (Z0 underlying27 rfl) ?_
  refine Rr Jj ?_
  refine Qg (ZM ?_)
  refine Jk (α := Nat) [(2, 3), (10, 10), (34, 62)] (fun j => [(34, .int .i64 (j : Int))]) (fun j w' => (j ≤ i ∧ ∀ t, t < j → confl (l.getD i coz) (l.getD t coz) = false) ∧ Ext False w18 w') (fun j => i - j) 0 ⟨rfl, trivial⟩ ⟨⟨Nat.zero_le _, fun t h => absurd h (Nat.not_lt_zero _)⟩, Bel.refl _ _⟩ ?_
  rintro j fb23 w22 ⟨⟨hj, hnj⟩, hXL21⟩
  have z24 := Bel.size hXL21
  replace hX := hX.ex hXL21
  replace hXL11 := Bel.ex hXL11 hXL21
  replace hl := hl.ext hXL21
  replace hb8 := hb8.ext hXL21
  refine QH (Qc ?_)
  refine Rr (Z5 rfl rfl) ?_
  refine Qg (QH ?_)
  refine ZG rfl (fun hc4 => ?_) (fun hc4 => ?_)
  ·have hj1 : j < i := by have := dcT hc4; omega
   refine ZH (QH (ZM (QH (Qc ?_))))
   refine Rr (Js (i := j) underlying27 sizeOf44 (hl.take i) (show _ = Value.slice al (l.take i).length cl by rw [List.length_take, Nat.min_eq_left (by omega)]; rfl) rfl (by rw [List.length_take]; omega)) ?_
   refine Rr (Jx isAgg44 sizeOf44 (hl.take i) rfl (by rw [List.getElem?_take, if_pos hj1]; exact Jw coz (by omega))) ?_
   refine Z8 rfl rfl zeroValue44 rfl sizeOf44 (fun _ => rfl) rfl rfl ?_
   intro b10 w25 x26 hge10 hb10
   have hlt10 := hb10.lt
   change Box _ _ _ (encRo _) at hb10
   have z27 := x26.size
   replace hX := hX.ex x26
   replace hXL11 := Bel.ex hXL11 x26
   replace hXL21 := Bel.ex hXL21 x26
   replace hb8 := hb8.ext x26
   refine Qg (QH ?_)
   apply J3 (β := False) [peq _, peq _, peq _, peq _, peq _, peq _, peq _, peq _, peq _, peq _, peq _, peq _, peq _, peq _, peq _, peq _, peq _, peq _, peq _, peq _, peq _, peq _, peq _, peq _] 24 Jz (by kernel_rfl) rfl ⟨Zs _, Zs _, Zs _, Zs _, Zs _, Zs _, Zs _, Zs _, Zs _, Zs _, Zs _, Zs _, Zs _, Zs _, Zs _, Zs _, Zs _, Zs _, Zs _, Zs _, Zs _, Zs _, Zs _, Zs _, trivial⟩ ?ob14 ?fin14
   case ob14 =>
    refine ZA (fun w28 x29 => ?_) ?_
    ·have z30 := x29.size
     have hb8 := hb8.ext x29
     refine Zv ?_
     exact ZT rfl (ZO isAgg44 sizeOf44 rfl hb8.at rfl)
    refine ZA (fun w31 x32 => ?_) ?_
    ·have z33 := x32.size
     refine Qi (Zv ?_)
     exact OpS_call rfl (ZK call15 rfl) (rkey_ok (l.getD i coz) _)
    refine ZA (fun w34 x35 => ?_) ?_
    ·have z36 := x35.size
     have hb10 := hb10.ext x35
     refine Zv ?_
     exact ZT rfl (ZO isAgg44 sizeOf44 rfl hb10.at rfl)
    refine ZA (fun w37 x38 => ?_) ?_
    ·have z39 := x38.size
     refine Qi (Qi (Zv ?_))
     exact OpS_call rfl (ZK call15 rfl) (rkey_ok (l.getD j coz) _)
    refine ZA (fun w40 x41 => ?_) ?_
    ·have z42 := x41.size
     refine Qi (Qi (Zv ?_))
     exact ZT rfl (o_teql eq_rk rfl rfl)
    refine ZA (fun w43 x44 => ?_) ?_
    ·have z45 := x44.size
     refine Qi (Qi (Zv ?_))
     exact ZT rfl (mvB rfl)
    refine ZA (fun w46 x47 => ?_) ?_
    ·have z48 := x47.size
     refine Qi (Zv ?_)
     exact Z9 5 43 rfl rfl (fun hg => (ZN underlying44 rfl sizeOf3 rfl))
    refine ZA (fun w49 x50 => ?_) ?_
    ·have z51 := x50.size
     have hb8 := hb8.ext x50
     refine Qi (Qi (Zv ?_))
     exact Z9 5 43 rfl rfl (fun hg => (ZB isAgg3 (ZU (u := undef) hg) (hb8.at.get 1 rfl)))
    refine ZA (fun w52 x53 => ?_) ?_
    ·have z54 := x53.size
     refine Qi (Qi (Zv ?_))
     exact Z9 5 43 rfl rfl (fun hg => (JD (ZU (u := undef) hg) rfl))
    refine ZA (fun w55 x56 => ?_) ?_
    ·have z57 := x56.size
     refine Qi (Qi (Qi (Zv ?_)))
     exact Z9 5 43 rfl rfl (fun hg => (Zt (v := .bool _) (ZU (u := undef) hg)))
    refine ZA (fun w58 x59 => ?_) ?_
    ·have z60 := x59.size
     refine Qi (Zv ?_)
     exact Jg 9 47 rfl rfl (fun hg => (ZN underlying44 rfl sizeOf4 rfl))
    refine ZA (fun w61 x62 => ?_) ?_
    ·have z63 := x62.size
     have hb8 := hb8.ext x62
     refine Qi (Qi (Zv ?_))
     exact Jg 9 47 rfl rfl (fun hg => (ZB isAgg4 (ZU (u := undef) hg) (hb8.at.get 0 rfl)))
    refine ZA (fun w64 x65 => ?_) ?_
    ·have z66 := x65.size
     refine Qi (Zv ?_)
     exact Jg 9 47 rfl rfl (fun hg => (ZN underlying44 rfl sizeOf4 rfl))
    refine ZA (fun w67 x68 => ?_) ?_
    ·have z69 := x68.size
     have hb10 := hb10.ext x68
     refine Qi (Qi (Zv ?_))
     exact Jg 9 47 rfl rfl (fun hg => (ZB isAgg4 (ZU (u := undef) hg) (hb10.at.get 0 rfl)))
    refine ZA (fun w70 x71 => ?_) ?_
    ·have z72 := x71.size
     refine Qi (Qi (Qi (Zv ?_)))
     exact Jg 9 47 rfl rfl (fun hg => (o_beql underlying4 (ZU (u := undef) hg) (ZU (u := undef) hg)))
    refine ZA (fun w73 x74 => ?_) ?_
    ·have z75 := x74.size
     refine Qi (Qi (Qi (Zv ?_)))
     exact Z9 5 43 rfl rfl (fun hg => (JP (u := undef) (ZU (u := undef) hg) (gand (u := undef) hg)))
    refine ZA (fun w76 x77 => ?_) ?_
    ·have z78 := x77.size
     refine Qi (Qi (Qi (Zv ?_)))
     exact Z9 5 43 rfl rfl (fun hg => (Zt (v := .bool _) (ZU (u := undef) hg)))
    refine ZA (fun w79 x80 => ?_) ?_
    ·have z81 := x80.size
     refine Qi (Zv ?_)
     exact Jg 16 54 rfl rfl (fun hg => (ZN underlying44 rfl sizeOf3 rfl))
    refine ZA (fun w82 x83 => ?_) ?_
    ·have z84 := x83.size
     have hb8 := hb8.ext x83
     refine Qi (Qi (Zv ?_))
     exact Jg 16 54 rfl rfl (fun hg => (ZB isAgg3 (ZU (u := undef) hg) (hb8.at.get 4 rfl)))
    refine ZA (fun w85 x86 => ?_) ?_
    ·have z87 := x86.size
     refine Qi (Zv ?_)
     exact Jg 16 54 rfl rfl (fun hg => (ZN underlying44 rfl sizeOf3 rfl))
    refine ZA (fun w88 x89 => ?_) ?_
    ·have z90 := x89.size
     have hb10 := hb10.ext x89
     refine Qi (Qi (Zv ?_))
     exact Jg 16 54 rfl rfl (fun hg => (ZB isAgg3 (ZU (u := undef) hg) (hb10.at.get 4 rfl)))
    refine ZA (fun w91 x92 => ?_) ?_
    ·have z93 := x92.size
     refine Qi (Qi (Qi (Zv ?_)))
     exact Jg 16 54 rfl rfl (fun hg => (ZZ (ZU (u := undef) hg) (ZU (u := undef) hg)))
    refine ZA (fun w94 x95 => ?_) ?_
    ·have z96 := x95.size
     refine Qi (Qi (Qi (Zv ?_)))
     exact Z9 5 43 rfl rfl (fun hg => (JP (u := undef) (ZU (u := undef) hg) (gand (u := undef) hg)))
    refine ZA (fun w97 x98 => ?_) ?_
    ·have z99 := x98.size
     refine Qi (Qi (Zv ?_))
     exact ZT rfl (Jq (u := undef) rfl rfl)
    exact JG
   case fin14 =>
    intro w100 x101
    have z102 := x101.size
    replace hX := hX.ex x101
    replace hXL11 := Bel.ex hXL11 x101
    replace hXL21 := Bel.ex hXL21 x101
    refine Qi (Qi (Qi (Qi (Qi (Qi (Qi (Qi (Qi ?_))))))))
    refine Qi (Qi (Qi (Qi (Qi (Qi (Qi (Qi (Qi ?_))))))))
    refine Qi (Qi (Qi (Qi (Qi (Qi (Zv (Qg ?_)))))))
    refine ZG rfl (fun hc5 => ?_) (fun hc5 => ?_)
    ·have hcf : confl (l.getD i coz) (l.getD j coz) = true := hc5
     refine QH (Qc ?_)
     refine Rr Zi ?_
     refine Rr Zi ?_
     refine Qg (ZJ ?_)
     refine ⟨_, Je rfl rfl rfl, ?_⟩
     have e0 : ofO l = ([], 12) := by rw [ofO, if_neg (by rw [errO_none.2 fun o ho => (hv o ho).chk]; simp), if_neg (cf_no hil hj1 hcf)]
     rw [e0]
     exact ⟨⟨_, rfl, Own.nil _ _⟩, hX⟩
    have hcf : confl (l.getD i coz) (l.getD j coz) = false := hc5
    refine ZH (Qc ?_)
    refine Rr (Z1 rfl rfl omg) ?_
    refine Rr (mvI rfl) ?_
    refine Qg ?_
    refine ⟨j + 1, ⟨sT, trivial⟩, oT, ⟨?_, hXL21⟩, ?_⟩
    ·exact ⟨by omega, fun t ht => (Nat.lt_succ_iff_lt_or_eq.1 ht).elim (hnj t) (fun e => e ▸ hcf)⟩
    ·omega
  have hj1 : ¬ j < i := by have := dcF hc4; omega
  refine Z4 (ZX (Qc ?_))
  refine Rr (Z1 rfl rfl omg) ?_
  refine Rr (mvI rfl) ?_
  refine Qg ?_
  refine ⟨i + 1, ⟨sT, trivial⟩, oT, ⟨?_, hXL11⟩, ?_⟩
  ·exact ⟨by omega, cf_snoc hil hcfi (fun t ht => hnj t (by omega))⟩
  ·omega
 have hil : ¬ i < l.length := by have := dcF hc3; omega
 refine Z4 (ZX (QH (Qc ?_)))
 refine Rr (mvS rfl) ?_
 refine ZC rfl (ZK call57 rfl) (Ok.mono (rsorted_ok _ _ l hl.trd (by omega) hok) ?_)
 rintro v65 w103 ⟨hown65, x104⟩
 have z105 := x104.size
 replace hX := hX.ex x104
 replace hown65 := hown65.mono (D' := fun g => w.heap.size ≤ g) (fun g h1 h2 => by omega)
 refine Rr (ZD (v := v65) rfl) ?_
 refine Rr Zi ?_
 refine Qg (ZJ ?_)
 refine ⟨_, Je rfl rfl rfl, ?_⟩
 rw [List.take_of_length_le (by omega)] at hcfi
 rw [of_good hv hcfi]
 exact ⟨⟨_, rfl, hown65.mono (fun g h1 h2 => by omega)⟩, hX⟩

theorem rset5_ok (w : World) (vl : Value) (l : List COp) (hl : Rd encRo 8 (Lt w.heap.size) w vl l) (nl : l.length ≤ 100000) (hok : ∀ x ∈ l, x.p.ok) : Ok Tryz.prog 23 #[vl] w fun v w' => (∃ X, VS X ∧ X.length ≤ l.length ∧ Own encRo 8 44 (Fsh w w') w' v X) ∧ Ext False w w' := by
 obtain ⟨al, cl, rfl, hl⟩ := hl; have ml := hl.len
 refine ZQ 22 func23 rfl rfl rfl ?_
 have hX := xRf w
 refine QH (Qc ?_)
 refine Rr Zi ?_
 refine Qg (QH (QH (Qc ?_)))
 refine Rr (mvS rfl) ?_
 refine Rr (Z0 underlying27 rfl) ?_
 refine Rr (asI rfl) ?_
 refine Qg (ZM ?_)
 refine Jk (α := Nat) [(2, 5), (8, 21)] (fun n => [(3, .int .i64 (n : Int))]) (fun n w' => (n ≤ l.length) ∧ Ext False w w') (fun n => n) l.length ⟨rfl, trivial⟩ ⟨Nat.le_refl _, Bel.refl _ _⟩ ?_
 rintro n fb3 w2 ⟨hn, hXL1⟩
 have z4 := Bel.size hXL1
 replace hX := hX.ex hXL1
 replace hl := hl.ext hXL1
 refine QH (QH (Qc ?_))
 refine Rr (mvI rfl) ?_
 refine Rr (JY rfl rfl) ?_
 refine Qg ?_
 refine ZG rfl (fun hc1 => ?_) (fun hc1 => ?_)
 ·have hn1 : 1 ≤ n := by have := dcT hc1; omega
  refine ZH (QH (ZM (QH (Qc ?_))))
  refine Rr (mvS rfl) ?_
  refine Rr (mvI rfl) ?_
  refine Rr (o_slto (j := n) underlying27 sizeOf44 rfl rfl (by have := hl.le; omega)) ?_
  refine ZC rfl (ZK call18 rfl) (Ok.mono (rof_ok _ _ (l.take n) ⟨al, cl, by rw [List.length_take, Nat.min_eq_left hn]; rfl, (hl.take n).top⟩ (by rw [List.length_take]; omega) (fun x hx => hok x (List.mem_of_mem_take hx))) ?_)
  rintro _ w5 ⟨⟨u16, rfl, hown16⟩, x6⟩
  have z7 := x6.size
  replace hX := hX.ex x6
  replace hXL1 := Bel.ex hXL1 x6
  refine Rr (Zt (v := .tuple _) rfl) ?_
  refine Rr (ZS rfl rfl) ?_
  refine Rr (ZS rfl rfl) ?_
  refine Rr (ZD (v := u16) rfl) ?_
  refine Rr (asI rfl) ?_
  refine Qg (QH (Qc ?_))
  refine Rr (mvI rfl) ?_
  refine Rr (ZZ rfl rfl) ?_
  refine Qg ?_
  refine ZG rfl (fun hc2 => ?_) (fun hc2 => ?_)
  ·have he : (ofO (l.take n)).2 = 0 := by simpa using hc2
   have hvs := vs_of (fun x hx => hok x (List.mem_of_mem_take hx)) he
   refine QH (Qc ?_)
   refine Rr (Zt (v := u16) rfl) ?_
   refine Rr (ZD (v := u16) rfl) ?_
   refine Qg (ZJ ?_)
   refine ⟨_, ZF rfl rfl, ?_⟩
   exact ⟨⟨_, hvs.1, by rw [hvs.2.length_eq, List.length_take]; omega, hown16.mono (fun g h1 h2 => by omega)⟩, hX⟩
  skip
  refine ZH (Qc ?_)
  refine Rr (mvI rfl) ?_
  refine Rr (o_subN (p := n) (b := 1) rfl rfl (by omega) (by omega)) ?_
  refine Rr (asI rfl) ?_
  refine Qg ?_
  refine ⟨n - 1, ⟨sT, trivial⟩, oT, ⟨?_, hXL1⟩, ?_⟩
  ·show n - 1 ≤ l.length; omega
  ·omega
 skip
 refine Z4 (ZX (QH (Qc ?_)))
 refine Rr Zi ?_
 refine Qg (ZJ ?_)
 refine ⟨_, ZF rfl rfl, ?_⟩
 exact ⟨⟨[], VS.nil, Nat.zero_le _, Own.nil _ _⟩, hX⟩

