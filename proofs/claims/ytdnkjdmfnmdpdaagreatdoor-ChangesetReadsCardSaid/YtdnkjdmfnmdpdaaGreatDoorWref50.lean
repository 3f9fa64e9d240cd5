/- Walks: what functions return. -/
import Derived.Test.YtdnkjdmfnmdpdaaGreatDoorWset5
import Derived.Test.YtdnkjdmfnmdpdaaGreatDoorWref11d
set_option linter.unusedVariables false
set_option linter.unusedSimpArgs false
set_option linter.unnecessarySimpa false
namespace Go.Proofs.YtdnkjdmfnmdpdaaGreatDoor
open Go Go.Lx Go.RowKit Tryz
set_option maxRecDepth 100000
theorem rkey_ok (o : COp) (w : World) : Ok Tryz.prog 15 #[.agg (encRo o).toArray] w fun v w' => v = .agg (encRk o.key).toArray ∧ Ext False w w' := by
 refine QD 12 func15 rfl rfl rfl ?_
 have hX : Ext False w w := Bel.refl _ _
 refine Qd (Qa ?_)
 refine QT rfl (Zw (v := .agg _) rfl) ?_
 intro b1 w1 x2 hge1 hb1
 have hlt1 := hb1.lt
 change Box _ _ _ (encRo _) at hb1
 have z3 := x2.size
 replace hX := hX.ex x2
 refine QT rfl (Zz zeroValue59) ?_
 intro b2 w4 x5 hge2 hb2
 have hlt2 := hb2.lt
 change Box _ _ _ ([.int _ _, .int _ _, .int _ _, str _, str _, .bool _]) at hb2
 have z6 := x5.size
 replace hX := hX.ex x5
 replace hb1 := hb1.ext x5
 refine Qb (Qd (Qa ?_))
 refine Rr (QB underlying44 rfl sizeOf3 rfl) ?_
 refine Rr (Qo isAgg3 rfl (hb1.at.get 1 rfl)) ?_
 refine Rr (QB underlying44 rfl sizeOf3 rfl) ?_
 refine Rr (Qo isAgg3 rfl (hb1.at.get 2 rfl)) ?_
 refine Rr (QB underlying44 rfl sizeOf3 rfl) ?_
 refine Rr (Qo isAgg3 rfl (hb1.at.get 3 rfl)) ?_
 refine Rr (QB underlying44 rfl sizeOf42 rfl) ?_
 refine Rr (QA isAgg42 sizeOf42 rfl (hb1.at.sub 5 3) rfl) ?_
 refine Rr (QY (cells := encRk o.key) (vs := [(0, .int _ _), (1, .int _ _), (2, .int _ _), (3, .agg _)]) rfl (by kernel_rfl)) ?_
 refine QW (v := .agg _) rfl sizeOf59 rfl rfl hb2 rfl rfl rfl ?_
 intro w7 c8 hb2
 change Box _ _ _ (encRk _) at hb2
 have z9 := Bel.size c8
 replace hX := Bel.out hX c8 om2
 refine Qb (Qx ?_)
 refine ⟨_, res_1 (v := .agg _) rfl (Zf isAgg59 sizeOf59 rfl hb2.at rfl), ?_⟩
 exact ⟨rfl, hX⟩

theorem rrole_ok (w : World) (r : Int) : Ok Tryz.prog 52 #[.int .i64 r] w fun v w' => v = .bool (decide (1 ≤ r) && decide (r ≤ 63)) ∧ Ext False w w' := by
 refine QD 9 func52 rfl rfl rfl ?_
 have hX : Ext False w w := Bel.refl _ _
 refine Qd (Qa ?_)
 refine Rr Qf ?_
 refine Qb (Qd (Qa ?_))
 refine Rr (mvI rfl) ?_
 refine Rr (o_geq rfl rfl) ?_
 refine Rr (mvB rfl) ?_
 refine Qr 2 5 rfl rfl rfl (fun hg => (mvI rfl)) ?_
 refine Qr 2 5 rfl rfl rfl (fun hg => (o_leq (QE (u := undef) hg) rfl)) ?_
 refine Rr (Q9 (u := undef) rfl rfl) ?_
 refine Rr (asB rfl) ?_
 refine Qb (Qx ?_)
 refine ⟨_, Qu rfl rfl, ?_⟩
 refine ⟨congrArg Value.bool ?_, hX⟩
 all_goals (rfl)

theorem rcheckO_ok (o : COp) (hp : o.p.ok) (w : World) : Ok Tryz.prog 12 #[.agg (encRo o).toArray] w fun v w' => v = .int .i64 (checkO o) ∧ Ext False w w' := by
 refine QD 96 func12 rfl rfl rfl ?_
 have hX : Ext False w w := Bel.refl _ _
 refine Qd (Qa ?_)
 refine QT rfl (Zw (v := .agg _) rfl) ?_
 intro b1 w1 x2 hge1 hb1
 change Box _ _ _ (encRo _) at hb1
 replace hX := hX.ex x2
 refine Rr Qf ?_
 refine Qb (Qd (Qd (Qa ?_)))
 refine Rr (QB underlying44 rfl sizeOf3 rfl) ?_
 refine Rr (Qo isAgg3 rfl (hb1.at.get 1 rfl)) ?_
 refine Rr (QV rfl rfl) ?_
 refine Rr (mvB rfl) ?_
 refine Qr 3 7 rfl rfl rfl (fun hg => (QB underlying44 rfl sizeOf3 rfl)) ?_
 refine Qr 3 7 rfl rfl rfl (fun hg => (Qo isAgg3 (QE (u := undef) hg) (hb1.at.get 1 rfl))) ?_
 refine Qr 3 7 rfl rfl rfl (fun hg => (Zy (QE (u := undef) hg) rfl)) ?_
 refine Rr (o_or (u := undef) rfl rfl) ?_
 refine Qb ?_
 refine Qt rfl (fun hc1 => ?_) (fun hc1 => ?_)
 ·have hr : o.k < 1 ∨ 3 < o.k := by simp at hc1; omega
  refine Qd (Qa ?_)
  refine Rr Qf ?_
  refine Qb (Qx ?_)
  refine ⟨_, Qu rfl rfl, ?_⟩
  refine ⟨congrArg (Value.int .i64) ?_, hX⟩
  all_goals (rw [checkO, if_pos hr])
 have hr : ¬ (o.k < 1 ∨ 3 < o.k) := by simp at hc1; omega
 refine Qs (Qd (Qa ?_))
 refine Rr (QY (cells := encP pz) (vs := []) rfl (by kernel_rfl)) ?_
 refine QR rfl rfl zeroValue42 rfl sizeOf42 (fun _ => rfl) rfl rfl ?_
 intro b3 w3 x4 hge3 hb3
 change Box _ _ _ (encP _) at hb3
 replace hX := hX.ex x4
 replace hb1 := hb1.ext x4
 refine Qb (Qd (Qd (Qa ?_)))
 refine Rr (QB underlying44 rfl sizeOf3 rfl) ?_
 refine Rr (Qo isAgg3 rfl (hb1.at.get 1 rfl)) ?_
 refine Rr (Zn rfl rfl) ?_
 refine Rr (mvB rfl) ?_
 refine Qr 3 16 rfl rfl rfl (fun hg => (QB underlying44 rfl sizeOf42 rfl)) ?_
 refine Qr 3 16 rfl rfl rfl (fun hg => (QA isAgg42 sizeOf42 (QE (u := undef) hg) (hb1.at.sub 5 3) rfl)) ?_
 refine Qr 3 16 rfl rfl rfl (fun hg => (QA isAgg42 sizeOf42 rfl hb3.at rfl)) ?_
 refine Qr 3 16 rfl rfl rfl (fun hg => (o_tneq eq_rp (QE (u := undef) hg) (QE (u := undef) hg))) ?_
 refine Rr (Q9 (u := undef) rfl rfl) ?_
 refine Rr (mvB rfl) ?_
 refine Qr 9 22 rfl rfl rfl (fun hg => (QB underlying44 rfl sizeOf3 rfl)) ?_
 refine Qr 9 22 rfl rfl rfl (fun hg => (Qo isAgg3 (QE (u := undef) hg) (hb1.at.get 1 rfl))) ?_
 refine Qr 9 22 rfl rfl rfl (fun hg => (Zn (QE (u := undef) hg) rfl)) ?_
 refine Qr 9 22 rfl rfl rfl (fun hg => (Qh (v := .bool _) (QE (u := undef) hg))) ?_
 refine Q8 13 26 rfl rfl rfl (fun hg => (QB underlying44 rfl sizeOf3 rfl)) ?_
 refine Q8 13 26 rfl rfl rfl (fun hg => (Qo isAgg3 (QE (u := undef) hg) (hb1.at.get 4 rfl))) ?_
 refine Q8 13 26 rfl rfl rfl (fun hg => (Zn (QE (u := undef) hg) rfl)) ?_
 refine Qr 9 22 rfl rfl rfl (fun hg => (Q9 (u := undef) (QE (u := undef) hg) (gand (u := undef) hg))) ?_
 refine Rr (o_or (u := undef) rfl rfl) ?_
 refine Rr (mvB rfl) ?_
 refine Qr 19 32 rfl rfl rfl (fun hg => (QB underlying44 rfl sizeOf3 rfl)) ?_
 refine Qr 19 32 rfl rfl rfl (fun hg => (Qo isAgg3 (QE (u := undef) hg) (hb1.at.get 1 rfl))) ?_
 refine Qr 19 32 rfl rfl rfl (fun hg => (QO (QE (u := undef) hg) rfl)) ?_
 refine Qr 19 32 rfl rfl rfl (fun hg => (Qh (v := .bool _) (QE (u := undef) hg))) ?_
 refine Q8 23 36 rfl rfl rfl (fun hg => (QB underlying44 rfl sizeOf3 rfl)) ?_
 refine Q8 23 36 rfl rfl rfl (fun hg => (Qo isAgg3 (QE (u := undef) hg) (hb1.at.get 3 rfl))) ?_
 refine Q8 23 36 rfl rfl rfl (fun hg => (Zn (QE (u := undef) hg) rfl)) ?_
 refine Qr 19 32 rfl rfl rfl (fun hg => (Q9 (u := undef) (QE (u := undef) hg) (gand (u := undef) hg))) ?_
 refine Rr (o_or (u := undef) rfl rfl) ?_
 refine Qb ?_
 refine Qt rfl (fun hc2 => ?_) (fun hc2 => ?_)
 ·have hf : (o.k ≠ 2 ∧ o.p ≠ pz) ∨ (o.k ≠ 1 ∧ o.u ≠ 0) ∨ (o.k = 2 ∧ o.b ≠ 0) := by simpa [or_assoc] using hc2
  refine Qd (Qa ?_)
  refine Rr Qf ?_
  refine Qb (Qx ?_)
  refine ⟨_, Qu rfl rfl, ?_⟩
  refine ⟨congrArg (Value.int .i64) ?_, hX⟩
  all_goals (rw [checkO, if_neg hr, if_pos hf])
 have hf : ¬ ((o.k ≠ 2 ∧ o.p ≠ pz) ∨ (o.k ≠ 1 ∧ o.u ≠ 0) ∨ (o.k = 2 ∧ o.b ≠ 0)) := by simpa [or_assoc, and_assoc] using hc2
 refine Qs (Qd (Qd (Qa ?_)))
 refine Rr (QB underlying44 rfl sizeOf3 rfl) ?_
 refine Rr (Qo isAgg3 rfl (hb1.at.get 1 rfl)) ?_
 refine Qb (Qz (Qd (Qa ?_)))
 refine Rr (QO rfl rfl) ?_
 refine Rr (asB rfl) ?_
 refine Qb ?_
 refine Qt rfl (fun hc3 => ?_) (fun hc3 => ?_)
 ·have hk : o.k = 1 := by simpa using hc3
  refine Qd (Qa ?_)
  refine Rr (QB underlying44 rfl sizeOf3 rfl) ?_
  refine Rr (Qo isAgg3 rfl (hb1.at.get 2 rfl)) ?_
  refine Rr (QV rfl rfl) ?_
  refine Rr (mvB rfl) ?_
  refine Qr 3 49 rfl rfl rfl (fun hg => (QB underlying44 rfl sizeOf3 rfl)) ?_
  refine Qr 3 49 rfl rfl rfl (fun hg => (Qo isAgg3 (QE (u := undef) hg) (hb1.at.get 2 rfl))) ?_
  refine Qr 3 49 rfl rfl rfl (fun hg => (Zy (QE (u := undef) hg) rfl)) ?_
  refine Rr (o_or (u := undef) rfl rfl) ?_
  refine Rr (mvB rfl) ?_
  refine Qr 8 54 rfl rfl rfl (fun hg => (QB underlying44 rfl sizeOf3 rfl)) ?_
  refine Qr 8 54 rfl rfl rfl (fun hg => (Qo isAgg3 (QE (u := undef) hg) (hb1.at.get 3 rfl))) ?_
  refine Rg_mayCall 8 54 rfl rfl rfl (fun hg => ⟨(Qy call52 (QE (u := undef) hg)), rrole_ok _ _⟩) ?_
  intro w5 x6
  replace hX := hX.ex x6
  replace hb1 := hb1.ext x6
  refine Qr 8 54 rfl rfl rfl (fun hg => (QQ (QE (u := undef) hg))) ?_
  refine Rr (o_or (u := undef) rfl rfl) ?_
  refine Rr (mvB rfl) ?_
  refine Qr 14 60 rfl rfl rfl (fun hg => (QB underlying44 rfl sizeOf3 rfl)) ?_
  refine Qr 14 60 rfl rfl rfl (fun hg => (Qo isAgg3 (QE (u := undef) hg) (hb1.at.get 4 rfl))) ?_
  refine Qr 14 60 rfl rfl rfl (fun hg => (QV (QE (u := undef) hg) rfl)) ?_
  refine Rr (o_or (u := undef) rfl rfl) ?_
  refine Rr (mvB rfl) ?_
  refine Qr 19 65 rfl rfl rfl (fun hg => (QB underlying44 rfl sizeOf3 rfl)) ?_
  refine Qr 19 65 rfl rfl rfl (fun hg => (Qo isAgg3 (QE (u := undef) hg) (hb1.at.get 4 rfl))) ?_
  refine Qr 19 65 rfl rfl rfl (fun hg => (Zy (QE (u := undef) hg) rfl)) ?_
  refine Rr (o_or (u := undef) rfl rfl) ?_
  refine Qb ?_
  refine Qt rfl (fun hc4 => ?_) (fun hc4 => ?_)
  ·have hn : o.a < 1 ∨ 256 < o.a ∨ o.b < 1 ∨ 63 < o.b ∨ o.u < 0 ∨ 30000 < o.u := by simp at hc4; omega
   refine Qd (Qa ?_)
   refine Rr Qf ?_
   refine Qb (Qx ?_)
   refine ⟨_, Qu rfl rfl, ?_⟩
   refine ⟨congrArg (Value.int .i64) ?_, hX⟩
   all_goals (rw [checkO, if_neg hr, if_neg hf, if_pos hk, if_pos hn])
  have hn : ¬ (o.a < 1 ∨ 256 < o.a ∨ o.b < 1 ∨ 63 < o.b ∨ o.u < 0 ∨ 30000 < o.u) := by simp at hc4; omega
  refine Qs (Qd (Qa ?_))
  refine Rr Qf ?_
  refine Qb (Qx ?_)
  refine ⟨_, Qu rfl rfl, ?_⟩
  refine ⟨congrArg (Value.int .i64) ?_, hX⟩
  all_goals (rw [checkO, if_neg hr, if_neg hf, if_pos hk, if_neg hn])
 have hk1 : ¬ o.k = 1 := by simpa using hc3
 refine Qd (Qa ?_)
 refine Rr (QO rfl rfl) ?_
 refine Rr (asB rfl) ?_
 refine Qb ?_
 refine Qt rfl (fun hc5 => ?_) (fun hc5 => ?_)
 ·have hk : o.k = 2 := by simpa using hc5
  refine Qd (Qd (Qa ?_))
  refine Rr (QB underlying44 rfl sizeOf3 rfl) ?_
  refine Rr (Qo isAgg3 rfl (hb1.at.get 2 rfl)) ?_
  refine Qn rfl (Qy call52 rfl) (Ok.mono (rrole_ok _ _) ?_)
  rintro _ w7 ⟨rfl, x8⟩
  replace hX := hX.ex x8
  replace hb1 := hb1.ext x8
  refine Rr (QQ rfl) ?_
  refine Qb ?_
  refine Qt rfl (fun hc6 => ?_) (fun hc6 => ?_)
  ·have hn : o.a < 1 ∨ 63 < o.a := by simp at hc6; omega
   refine Qd (Qa ?_)
   refine Rr Qf ?_
   refine Qb (Qx ?_)
   refine ⟨_, Qu rfl rfl, ?_⟩
   refine ⟨congrArg (Value.int .i64) ?_, hX⟩
   all_goals (rw [checkO, if_neg hr, if_neg hf, if_neg (by omega), if_pos hk, if_pos hn])
  have hn : ¬ (o.a < 1 ∨ 63 < o.a) := by simp at hc6; omega
  refine Qs (Qd (Qa ?_))
  refine Rr (QB underlying44 rfl sizeOf42 rfl) ?_
  refine Rr (QA isAgg42 sizeOf42 rfl (hb1.at.sub 5 3) rfl) ?_
  refine Qn rfl (Qy call53 rfl) (Ok.mono (rcheck_ok _ _ hp) ?_)
  rintro _ w9 ⟨rfl, x10⟩
  replace hX := hX.ex x10
  refine Rr (asI rfl) ?_
  refine Qb (Qx ?_)
  refine ⟨_, Qu rfl rfl, ?_⟩
  refine ⟨congrArg (Value.int .i64) ?_, hX⟩
  all_goals (rw [checkO, if_neg hr, if_neg hf, if_neg (by omega), if_pos hk, if_neg hn])
 have hk2 : ¬ o.k = 2 := by simpa using hc5
 refine Qd (Qa ?_)
 refine Rr (QO rfl rfl) ?_
 refine Rr (asB rfl) ?_
 refine Qb ?_
 refine Qt rfl (fun hc7 => ?_) (fun hc7 => ?_)
 ·have hk : o.k = 3 := by simpa using hc7
  refine Qd (Qd (Qa ?_))
  refine Rr (QB underlying44 rfl sizeOf3 rfl) ?_
  refine Rr (Qo isAgg3 rfl (hb1.at.get 2 rfl)) ?_
  refine Qn rfl (Qy call52 rfl) (Ok.mono (rrole_ok _ _) ?_)
  rintro _ w11 ⟨rfl, x12⟩
  replace hX := hX.ex x12
  replace hb1 := hb1.ext x12
  refine Rr (QQ rfl) ?_
  refine Rr (mvB rfl) ?_
  refine Qr 4 85 rfl rfl rfl (fun hg => (QB underlying44 rfl sizeOf3 rfl)) ?_
  refine Qr 4 85 rfl rfl rfl (fun hg => (Qo isAgg3 (QE (u := undef) hg) (hb1.at.get 3 rfl))) ?_
  refine Rg_mayCall 4 85 rfl rfl rfl (fun hg => ⟨(Qy call52 (QE (u := undef) hg)), rrole_ok _ _⟩) ?_
  intro w13 x14
  replace hX := hX.ex x14
  replace hb1 := hb1.ext x14
  refine Qr 4 85 rfl rfl rfl (fun hg => (QQ (QE (u := undef) hg))) ?_
  refine Rr (o_or (u := undef) rfl rfl) ?_
  refine Qb ?_
  refine Qt rfl (fun hc8 => ?_) (fun hc8 => ?_)
  ·have hn : o.a < 1 ∨ 63 < o.a ∨ o.b < 1 ∨ 63 < o.b := by simp at hc8; omega
   refine Qd (Qa ?_)
   refine Rr Qf ?_
   refine Qb (Qx ?_)
   refine ⟨_, Qu rfl rfl, ?_⟩
   refine ⟨congrArg (Value.int .i64) ?_, hX⟩
   all_goals (rw [checkO, if_neg hr, if_neg hf, if_neg (by omega), if_neg (by omega), if_pos hn])
  have hn : ¬ (o.a < 1 ∨ 63 < o.a ∨ o.b < 1 ∨ 63 < o.b) := by simp at hc8; omega
  refine Qs (Qd (Qa ?_))
  refine Rr (QB underlying44 rfl sizeOf3 rfl) ?_
  refine Rr (Qo isAgg3 rfl (hb1.at.get 2 rfl)) ?_
  refine Rr (QB underlying44 rfl sizeOf3 rfl) ?_
  refine Rr (Qo isAgg3 rfl (hb1.at.get 3 rfl)) ?_
  refine Rr (QO rfl rfl) ?_
  refine Qb ?_
  refine Qt rfl (fun hc9 => ?_) (fun hc9 => ?_)
  ·have he : o.a = o.b := by simpa using hc9
   refine Qd (Qa ?_)
   refine Rr Qf ?_
   refine Qb (Qx ?_)
   refine ⟨_, Qu rfl rfl, ?_⟩
   refine ⟨congrArg (Value.int .i64) ?_, hX⟩
   all_goals (rw [checkO, if_neg hr, if_neg hf, if_neg (by omega), if_neg (by omega), if_neg hn, if_pos he])
  have he : ¬ o.a = o.b := by simpa using hc9
  refine Qs (Qd (Qa ?_))
  refine Rr Qf ?_
  refine Qb (Qx ?_)
  refine ⟨_, Qu rfl rfl, ?_⟩
  refine ⟨congrArg (Value.int .i64) ?_, hX⟩
  all_goals (rw [checkO, if_neg hr, if_neg hf, if_neg (by omega), if_neg (by omega), if_neg hn, if_neg he])
 have hk3 : ¬ o.k = 3 := by simpa using hc7
 refine Qs (Qd (Qa ?_))
 refine Rr Qf ?_
 refine Qb (Qx ?_)
 refine ⟨_, Qu rfl rfl, ?_⟩
 refine ⟨congrArg (Value.int .i64) ?_, hX⟩
 all_goals (exact absurd hr (by omega))

theorem rless_ok (x y : COp) (hx : x.p.ok) (hy : y.p.ok) (w : World) : Ok Tryz.prog 110 #[.agg (encRo x).toArray, .agg (encRo y).toArray] w fun v w' => v = .bool (decide (cmpO x y < 0)) ∧ Ext False w w' := by
 refine QD 52 func110 rfl rfl rfl ?_
 have hX : Ext False w w := Bel.refl _ _
 refine Qd (Qa ?_)
 refine QT rfl (Zw (v := .agg _) rfl) ?_
 intro b2 w1 x2 hge2 hb2
 change Box _ _ _ (encRo _) at hb2
 replace hX := hX.ex x2
 refine QT rfl (Zw (v := .agg _) rfl) ?_
 intro b3 w3 x4 hge3 hb3
 change Box _ _ _ (encRo _) at hb3
 replace hX := hX.ex x4
 replace hb2 := hb2.ext x4
 refine Rr Qf ?_
 refine Qb (Qd (Qd (Qa ?_)))
 refine Rr (QB underlying44 rfl sizeOf3 rfl) ?_
 refine Rr (Qo isAgg3 rfl (hb2.at.get 1 rfl)) ?_
 refine Rr (QB underlying44 rfl sizeOf3 rfl) ?_
 refine Rr (Qo isAgg3 rfl (hb3.at.get 1 rfl)) ?_
 refine Rr (Zn rfl rfl) ?_
 refine Qb ?_
 refine Qt rfl (fun hc1 => ?_) (fun hc1 => ?_)
 ·have hk : x.k ≠ y.k := by simpa using hc1
  refine Qd (Qa ?_)
  refine Rr (QB underlying44 rfl sizeOf3 rfl) ?_
  refine Rr (Qo isAgg3 rfl (hb2.at.get 1 rfl)) ?_
  refine Rr (QB underlying44 rfl sizeOf3 rfl) ?_
  refine Rr (Qo isAgg3 rfl (hb3.at.get 1 rfl)) ?_
  refine Rr (QV rfl rfl) ?_
  refine Rr (asB rfl) ?_
  refine Qb (Qx ?_)
  refine ⟨_, Qu rfl rfl, ?_⟩
  refine ⟨congrArg Value.bool ?_, hX⟩
  all_goals (exact lessO_k hk)
 have hk : x.k = y.k := by simpa using hc1
 refine Qs (Qd (Qd (Qa ?_)))
 refine Rr (QB underlying44 rfl sizeOf3 rfl) ?_
 refine Rr (Qo isAgg3 rfl (hb2.at.get 2 rfl)) ?_
 refine Rr (QB underlying44 rfl sizeOf3 rfl) ?_
 refine Rr (Qo isAgg3 rfl (hb3.at.get 2 rfl)) ?_
 refine Rr (Zn rfl rfl) ?_
 refine Qb ?_
 refine Qt rfl (fun hc2 => ?_) (fun hc2 => ?_)
 ·have ha : x.a ≠ y.a := by simpa using hc2
  refine Qd (Qa ?_)
  refine Rr (QB underlying44 rfl sizeOf3 rfl) ?_
  refine Rr (Qo isAgg3 rfl (hb2.at.get 2 rfl)) ?_
  refine Rr (QB underlying44 rfl sizeOf3 rfl) ?_
  refine Rr (Qo isAgg3 rfl (hb3.at.get 2 rfl)) ?_
  refine Rr (QV rfl rfl) ?_
  refine Rr (asB rfl) ?_
  refine Qb (Qx ?_)
  refine ⟨_, Qu rfl rfl, ?_⟩
  refine ⟨congrArg Value.bool ?_, hX⟩
  all_goals (exact lessO_a hk ha)
 have ha : x.a = y.a := by simpa using hc2
 refine Qs (Qd (Qd (Qa ?_)))
 refine Rr (QB underlying44 rfl sizeOf3 rfl) ?_
 refine Rr (Qo isAgg3 rfl (hb2.at.get 3 rfl)) ?_
 refine Rr (QB underlying44 rfl sizeOf3 rfl) ?_
 refine Rr (Qo isAgg3 rfl (hb3.at.get 3 rfl)) ?_
 refine Rr (Zn rfl rfl) ?_
 refine Qb ?_
 refine Qt rfl (fun hc3 => ?_) (fun hc3 => ?_)
 ·have hb : x.b ≠ y.b := by simpa using hc3
  refine Qd (Qa ?_)
  refine Rr (QB underlying44 rfl sizeOf3 rfl) ?_
  refine Rr (Qo isAgg3 rfl (hb2.at.get 3 rfl)) ?_
  refine Rr (QB underlying44 rfl sizeOf3 rfl) ?_
  refine Rr (Qo isAgg3 rfl (hb3.at.get 3 rfl)) ?_
  refine Rr (QV rfl rfl) ?_
  refine Rr (asB rfl) ?_
  refine Qb (Qx ?_)
  refine ⟨_, Qu rfl rfl, ?_⟩
  refine ⟨congrArg Value.bool ?_, hX⟩
  all_goals (exact lessO_b hk ha hb)
 have hb : x.b = y.b := by simpa using hc3
 refine Qs (Qd (Qa ?_))
 refine Rr (QB underlying44 rfl sizeOf42 rfl) ?_
 refine Rr (QA isAgg42 sizeOf42 rfl (hb2.at.sub 5 3) rfl) ?_
 refine Rr (QB underlying44 rfl sizeOf42 rfl) ?_
 refine Rr (QA isAgg42 sizeOf42 rfl (hb3.at.sub 5 3) rfl) ?_
 refine Qn rfl (QI call127 rfl rfl) (Ok.mono (rcompare_ok _ _ hx _ hy) ?_)
 rintro _ w5 ⟨rfl, x6⟩
 replace hX := hX.ex x6
 replace hb2 := hb2.ext x6
 replace hb3 := hb3.ext x6
 refine Rr (asI rfl) ?_
 refine Qb (Qd (Qd (Qa ?_)))
 refine Rr (mvI rfl) ?_
 refine Rr (Zn rfl rfl) ?_
 refine Qb ?_
 refine Qt rfl (fun hc4 => ?_) (fun hc4 => ?_)
 ·have hm : cmpM x.p y.p ≠ 0 := by simpa using hc4
  refine Qd (Qa ?_)
  refine Rr (mvI rfl) ?_
  refine Rr (QV rfl rfl) ?_
  refine Rr (asB rfl) ?_
  refine Qb (Qx ?_)
  refine ⟨_, Qu rfl rfl, ?_⟩
  refine ⟨congrArg Value.bool ?_, hX⟩
  all_goals (exact lessO_p hk ha hb hm)
 have hm : cmpM x.p y.p = 0 := by simpa using hc4
 refine Qs (Qd (Qa ?_))
 refine Rr (QB underlying44 rfl sizeOf4 rfl) ?_
 refine Rr (Qo isAgg4 rfl (hb2.at.get 0 rfl)) ?_
 refine Rr (QQ rfl) ?_
 refine Rr (mvB rfl) ?_
 refine Qr 3 48 rfl rfl rfl (fun hg => (QB underlying44 rfl sizeOf4 rfl)) ?_
 refine Qr 3 48 rfl rfl rfl (fun hg => (Qo isAgg4 (QE (u := undef) hg) (hb3.at.get 0 rfl))) ?_
 refine Rr (Q9 (u := undef) rfl rfl) ?_
 refine Rr (asB rfl) ?_
 refine Qb (Qx ?_)
 refine ⟨_, Qu rfl rfl, ?_⟩
 refine ⟨congrArg Value.bool ?_, hX⟩
 all_goals (exact lessO_e hk ha hb hm)

set_option maxHeartbeats 2000000 in
theorem rsorted_ok (w : World) (vl : Value) (l : List COp) (hl : Rd encRo 8 (Lt w.heap.size) w vl l) (nl : l.length ≤ 100000) (hok : ∀ x ∈ l, x.p.ok) : Ok Tryz.prog 57 #[vl] w fun v w' => Own encRo 8 44 (Fsh w w') w' v (sortO l) ∧ Ext False w w' := by
 obtain ⟨al, cl, rfl, hl⟩ := hl; have ml := hl.len
 refine QD 44 func57 rfl rfl rfl ?_
 have hX : Ext False w w := Bel.refl _ _
 refine Qd (Qa ?_)
 refine Rr Qf ?_
 refine Qb (Qd (Qa ?_))
 refine Rr Qf ?_
 refine Qb (Qd (Qd (Qa ?_)))
 refine Rr (mvS rfl) ?_
 refine Rr (QM underlying27 rfl) ?_
 refine Rr Zc ?_
 refine Qb (Qz ?_)
 refine Zd (α := Nat × List COp × Option Addr × Nat) [(3, 3), (5, 7), (10, 42)] (fun q => [(10, .int .i64 (q.1 : Int)), (3, .slice q.2.2.1 q.2.1.length q.2.2.2)]) (fun q w' => (q.1 ≤ l.length ∧ q.2.1 = sortO (l.take q.1)) ∧ Bel False (fun g => w.heap.size ≤ g) w w' ∧ (Own encRo 8 44 (fun g => w.heap.size ≤ g) w' (.slice q.2.2.1 q.2.1.length q.2.2.2) q.2.1)) (fun q => l.length - q.1) (0, [], none, 0) ⟨rfl, rfl, trivial⟩ ⟨⟨Nat.zero_le _, rfl⟩, Bel.refl _ _, Own.nil _ _⟩ ?_
 rintro ⟨k, M, t, ct⟩ fb3 w2 ⟨⟨hk, hM⟩, hXL1, hown⟩
 dsimp only at *
 have z4 := Bel.size hXL1
 replace hX := Bel.out hX hXL1 om2
 replace hl := hl.keep hXL1 om3
 have hMl : M.length = k := by rw [hM, sortO_len, List.length_take]; omega
 have hmo : ∀ x ∈ M, x.p.ok := fun x hx => hok x (List.mem_of_mem_take ((sortO_perm _).mem_iff.1 (hM ▸ hx)))
 refine Qd (Qa ?_)
 refine Rr (QV rfl rfl) ?_
 refine Qb (Qd ?_)
 refine Qt rfl (fun hc1 => ?_) (fun hc1 => ?_)
 ·replace hc1 := of_decide_eq_true hc1
  refine Qs (Qd (Qz (Qd (Qa ?_))))
  refine Rr (Ze underlying27 sizeOf44 hl rfl rfl omg) ?_
  refine Rr (Zk isAgg44 sizeOf44 hl rfl (Zh coz (by omega))) ?_
  refine QR rfl rfl zeroValue44 rfl sizeOf44 (fun _ => rfl) rfl rfl ?_
  intro b5 w5 x6 hge5 hb5
  replace hown := hown.mono (D' := fun g => w.heap.size ≤ g ∧ g ≠ b5) (fun g h1 h2 => by omega)
  have hlt5 := hb5.lt
  change Box _ _ _ (encRo _) at hb5
  have z7 := x6.size
  replace hX := hX.ex x6
  replace hXL1 := Bel.ex hXL1 x6
  replace hown := hown.ext x6
  refine Qb (Qd (Qa ?_))
  have hok1 := hok _ (gm (z := coz) (show k < l.length by omega))
  refine Rr Qf ?_
  refine Qb (Qd (Qz ?_))
  refine Zd (α := Nat) [(6, 6), (14, 28)] (fun j => [(6, .int .i64 (j : Int))]) (fun j w' => (j ≤ M.length ∧ ∀ t, t < j → ¬ cmpO (l.getD k coz) (M.getD t coz) < 0) ∧ Ext False w5 w') (fun j => M.length - j) 0 ⟨rfl, trivial⟩ ⟨⟨Nat.zero_le _, fun t h => absurd h (Nat.not_lt_zero _)⟩, Bel.refl _ _⟩ ?_
  rintro j fb10 w9 ⟨⟨hj, hall⟩, hXL8⟩
  have z11 := Bel.size hXL8
  replace hX := hX.ex hXL8
  replace hXL1 := Bel.ex hXL1 hXL8
  replace hown := hown.ext hXL8
  replace hb5 := hb5.ext hXL8
  refine Qd (Qd ?_)
  apply W_draw (β := False) [peq _, peq _, peq _, peq _, peq _, peq _, peq _, peq _, peq _, peq _, peq _, peq _, peq _] 13 Zq (by kernel_rfl) rfl ⟨Qg _, Qg _, Qg _, Qg _, Qg _, Qg _, Qg _, Qg _, Qg _, Qg _, Qg _, Qg _, Qg _, trivial⟩ ?ob6 ?fin6
  case ob6 =>
   refine Qk (fun w12 x13 => ?_) ?_
   ·have z14 := x13.size
    refine Qi ?_
    exact QH rfl (mvI rfl)
   refine Qk (fun w15 x16 => ?_) ?_
   ·have z17 := x16.size
    refine Qi ?_
    exact QH rfl (mvS rfl)
   refine Qk (fun w18 x19 => ?_) ?_
   ·have z20 := x19.size
    refine Qc (Qi ?_)
    exact QH rfl (QM underlying27 rfl)
   refine Qk (fun w21 x22 => ?_) ?_
   ·have z23 := x22.size
    refine Qc (Qc (Qi ?_))
    exact QH rfl (QV rfl rfl)
   refine Qk (fun w24 x25 => ?_) ?_
   ·have z26 := x25.size
    refine Qc (Qi ?_)
    exact QH rfl (mvB rfl)
   refine Qk (fun w27 x28 => ?_) ?_
   ·have z29 := x28.size
    have hb5 := hb5.ext x28
    refine Qc (Qi ?_)
    exact QU 4 18 rfl rfl (fun hg => (QA isAgg44 sizeOf44 rfl hb5.at rfl))
   refine Qk (fun w30 x31 => ?_) ?_
   ·have z32 := x31.size
    refine Qc (Qi ?_)
    exact QU 4 18 rfl rfl (fun hg => (mvS rfl))
   refine Qk (fun w33 x34 => ?_) ?_
   ·have z35 := x34.size
    refine Qc (Qi ?_)
    exact QU 4 18 rfl rfl (fun hg => (mvI rfl))
   refine Qk (fun w36 x37 => ?_) ?_
   ·have z38 := x37.size
    have hown := hown.ext x37
    refine Qc (Qc (Qc (Qi ?_)))
    exact QU 4 18 rfl rfl (fun hg => (Ze underlying27 sizeOf44 (hown.slA QG) (QE (u := undef) hg) (QE (u := undef) hg) omg))
   refine Qk (fun w39 x40 => ?_) ?_
   ·have z41 := x40.size
    have hown := hown.ext x40
    refine Qc (Qc (Qi ?_))
    exact QU 4 18 rfl rfl (fun hg => (Zk isAgg44 sizeOf44 (hown.slA QG) (QE (u := undef) hg) (Zh coz (by simpa using hg))))
   refine Qk (fun w42 x43 => ?_) ?_
   ·have z44 := x43.size
    refine Qc (Qc (Qc (Qc (Qi ?_))))
    exact OpS_mayCall 4 18 rfl rfl (fun hg => ⟨(QI call110 (QE (u := undef) hg) (QE (u := undef) hg)), rless_ok (l.getD k coz) (M.getD j coz) hok1 (hmo _ (gm (z := coz) (show j < M.length by simpa using hg))) _⟩)
   refine Qk (fun w45 x46 => ?_) ?_
   ·have z47 := x46.size
    refine Qc (Qc (Qi ?_))
    exact QU 4 18 rfl rfl (fun hg => (QQ (QE (u := undef) hg)))
   refine Qk (fun w48 x49 => ?_) ?_
   ·have z50 := x49.size
    refine Qc (Qc (Qi ?_))
    exact QH rfl (Q9 (u := undef) rfl rfl)
   exact Zt
  case fin6 =>
   intro w51 x52
   have z53 := x52.size
   replace hX := hX.ex x52
   replace hXL1 := Bel.ex hXL1 x52
   replace hXL8 := Bel.ex hXL8 x52
   replace hown := hown.ext x52
   replace hb5 := hb5.ext x52
   refine Qc (Qc (Qc (Qc (Qc (Qc (Qc (Qc (Qc ?_))))))))
   refine Qc (Qc (Qc (Qc (Qi (Qb ?_)))))
   refine Qt rfl (fun hc2 => ?_) (fun hc2 => ?_)
   ·have hlt : j < M.length ∧ ¬ cmpO (l.getD k coz) (M.getD j coz) < 0 := by simpa using hc2
    refine Qs (Qz (Qa ?_))
    refine Rr (mvI rfl) ?_
    refine Rr (QN rfl rfl omg) ?_
    have hok1 := hok _ (gm (z := coz) (show k < l.length by omega))
    refine Rr (asI rfl) ?_
    refine Qb ?_
    refine ⟨j + 1, ⟨sT, trivial⟩, oT, ⟨?_, hXL8⟩, ?_⟩
    ·exact ⟨by omega, fun t ht => (Nat.lt_succ_iff_lt_or_eq.1 ht).elim (hall t) (fun e => e ▸ hlt.2)⟩
    ·omega
   have hge : j < M.length → cmpO (l.getD k coz) (M.getD j coz) < 0 := by simpa using hc2
   refine QS (QJ (Qd ?_))
   obtain ⟨n1, hn1⟩ : ∃ n, n = w51.heap.size := ⟨_, rfl⟩
   have hsM := hown.slA QG
   apply Zx (β := False) (fun _ => 0) [peqC _, (fun v w c => ∃ a, v = .slice a 1 1 ∧ postOwn encRo 8 44 1 ([(l.getD k coz)]) v w c), peqC _, peqC _, peqC _, (postOwn encRo 8 44 1 ([(l.getD k coz)] ++ M.drop j))] [0, 1, 0, 0, 0, 1] 6 Zq (by kernel_rfl) (by kernel_rfl) rfl ⟨Qm _ _, (Zr), Qm _ _, Qm _ _, Qm _ _, (QZ), trivial⟩ ?ob8 ?fin8
   case ob8 =>
    refine Ql (fun w54 c56 x55 hc057 hk58 => ?_) ?_
    ·replace x55 := RelG.ext0 x55
     have z59 := x55.size
     have hb5 := hb5.ext x55
     refine Qj ?_
     exact QF rfl (QA isAgg44 sizeOf44 rfl hb5.at rfl)
    refine Ql (fun w60 c62 x61 hc063 hk64 => ?_) ?_
    ·replace x61 := RelG.ext0 x61
     have z65 := x61.size
     refine Qe (Qj ?_)
     exact OpC_bs (vs := [.agg _]) [(l.getD k coz)] QG Zu rfl rfl ⟨rfl, trivial⟩ rfl rfl rfl rfl
    refine Ql (fun w66 c68 x67 hc069 hk70 => ?_) ?_
    ·replace x67 := RelG.ext0 x67
     have z71 := x67.size
     refine Qj ?_
     exact QF rfl (mvS rfl)
    refine Ql (fun w72 c74 x73 hc075 hk76 => ?_) ?_
    ·replace x73 := RelG.ext0 x73
     have z77 := x73.size
     refine Qj ?_
     exact QF rfl (mvI rfl)
    refine Ql (fun w78 c80 x79 hc081 hk82 => ?_) ?_
    ·replace x79 := RelG.ext0 x79
     have z83 := x79.size
     refine Qe (Qe (Qj ?_))
     exact QF rfl (o_slfrom2 (j := j) underlying27 sizeOf44 rfl rfl hj hsM.le)
    refine Ql (fun w84 c86 x85 hc087 hk88 => ?_) ?_
    ·replace x85 := RelG.ext0 x85
     have z89 := x85.size
     have hown := hown.ext x85
     refine Qp (fun v30 hv30 => ?_)
     refine Qe (Qj ?_)
     obtain ⟨a30, rfl, ho30⟩ := hv30
     exact OpC_app (by decide) QG Zu rfl rfl ho30 ((hown.slA QG).drop hj) (by simp) (by simp; omega)
    exact Zp
   case fin8 =>
    intro w90 c92 x91 hc093
    replace x91 := RelG.ext0 x91
    have z94 := x91.size
    replace hX := hX.ex x91
    replace hXL1 := Bel.ex hXL1 x91
    replace hown := hown.ext x91
    refine Qe ?_
    refine Qp (fun v30 _ => ?_)
    refine Qe (Qe (Qe ?_))
    refine Qp (fun v34 hv34 => ?_)
    refine Qj ?_
    change Own _ _ _ _ _ _ _ at hv34
    replace hv34 := Own.mono hv34 (D' := fun g => n1 ≤ g) (fun g h1 h2 => Nat.le_of_not_lt fun q => by have h := hc093 g (by omega); rw [h2] at h; simp at h)
    refine Rr (Qq (v := v34) rfl) ?_
    refine Qb (Qa ?_)
    obtain ⟨n2, hn2⟩ : ∃ n, n = w90.heap.size := ⟨_, rfl⟩
    replace hv34 := hv34.mono (D' := fun g => n1 ≤ g ∧ g < n2) (fun g h1 h2 => ⟨h2, by omega⟩)
    obtain ⟨a34, c34, hv34, -⟩ := hv34.sl QG
    subst hv34
    refine Q7 (vs := []) (([] : List COp)) rfl QG Zu rfl rfl trivial rfl rfl rfl rfl ?_
    intro a35 w95 x96 hown35
    have z97 := x96.size
    replace hX := hX.ex x96
    replace hXL1 := Bel.ex hXL1 x96
    replace hown := hown.ext x96
    replace hv34 := hv34.ext x96
    replace hown35 := hown35.mono (D' := fun g => n2 ≤ g) (fun g h1 h2 => by omega)
    refine Rr (mvS rfl) ?_
    refine Rr (mvI rfl) ?_
    refine Rr (o_slto (j := j) underlying27 sizeOf44 rfl rfl (by have := (hown.slA QG).le; omega)) ?_
    refine Q3 rfl QG Zu rfl rfl hown35 ((hown.slA QG).take j) (by rw [List.length_take]; omega) (by simp; omega) omU ?_
    intro v39 w98 x99 hown35
    have z100 := x99.size
    replace hX := Bel.out hX x99 om2
    replace hXL1 := Bel.out hXL1 x99 om2
    replace hv34 := hv34.keepD x99 om3
    refine Rr (Qh (v := .slice a34 ([(l.getD k coz)] ++ M.drop j).length c34) rfl) ?_
    refine Q3 rfl QG Zu rfl rfl hown35 (hv34.slA QG) rfl (by simp; omega) omU ?_
    intro v41 w101 x102 hown35
    have z103 := x102.size
    replace hX := Bel.out hX x102 om2
    replace hXL1 := Bel.out hXL1 x102 om2
    refine Rr (Qq (v := v41) rfl) ?_
    refine Qb (Qa ?_)
    refine Rr (QN rfl rfl omg) ?_
    refine Rr (mvI rfl) ?_
    refine Qb ?_
    obtain ⟨a41, c41, hv41e, -⟩ := hown35.sl QG
    subst hv41e
    refine ⟨(k + 1, [] ++ M.take j ++ ([(l.getD k coz)] ++ M.drop j), a41, c41), ⟨sT, sT, trivial⟩, oT, ⟨?_, hXL1, ?_⟩, ?_⟩
    ·exact ⟨by show k + 1 ≤ l.length; omega, by show _ = sortO (l.take (k + 1)); rw [sortO_succ (by omega), ← hM, insGo_atO hj hall hge]; rfl⟩
    ·exact hown35.mono (fun g h1 h2 => by omega)
    ·show l.length - (k + 1) < l.length - k; omega
 replace hc1 := of_decide_eq_false hc1
 refine QS (QJ (Qd (Qa ?_)))
 refine Rr (mvS rfl) ?_
 refine Rr (asS rfl) ?_
 refine Qb (Qx ?_)
 refine ⟨_, Qu rfl rfl, ?_⟩
 rw [List.take_of_length_le (by omega)] at hM
 subst hM
 exact ⟨hown.mono (fun g h1 h2 => by omega), hX⟩

set_option maxHeartbeats 2000000 in
theorem rof_ok (w : World) (vl : Value) (l : List COp) (hl : Rd encRo 8 (Lt w.heap.size) w vl l) (nl : l.length ≤ 100000) (hok : ∀ x ∈ l, x.p.ok) : Ok Tryz.prog 18 #[vl] w fun v w' => (∃ u, v = .tuple #[u, .int .i64 (ofO l).2] ∧ Own encRo 8 44 (Fsh w w') w' u (ofO l).1) ∧ Ext False w w' := by
 obtain ⟨al, cl, rfl, hl⟩ := hl; have ml := hl.len
 refine QD 66 func18 rfl rfl rfl ?_
 have hX : Ext False w w := Bel.refl _ _
 refine Qd (Qa ?_)
 refine Rr Qf ?_
 refine Rr Qf ?_
 refine Qb (Qd (Qd (Qa ?_)))
 refine Rr (mvS rfl) ?_
 refine Rr (QM underlying27 rfl) ?_
 refine Rr Zc ?_
 refine Qb (Qz ?_)
 refine Zd (α := Nat) [(2, 3), (5, 6), (13, 22)] (fun k => [(13, .int .i64 (k : Int))]) (fun k w' => (k ≤ l.length ∧ ∀ j, j < k → checkO (l.getD j coz) = 0) ∧ Ext False w w') (fun k => l.length - k) 0 ⟨rfl, trivial⟩ ⟨⟨Nat.zero_le _, fun j h => absurd h (Nat.not_lt_zero _)⟩, Bel.refl _ _⟩ ?_
 rintro k fb3 w2 ⟨⟨hk, hall⟩, hXL1⟩
 have z4 := Bel.size hXL1
 replace hX := hX.ex hXL1
 replace hl := hl.ext hXL1
 refine Qd (Qa ?_)
 refine Rr (QV rfl rfl) ?_
 refine Qb (Qd ?_)
 refine Qt rfl (fun hc1 => ?_) (fun hc1 => ?_)
 ·replace hc1 := of_decide_eq_true hc1
  refine Qs (Qd (Qz (Qd (Qa ?_))))
  refine Rr (Ze underlying27 sizeOf44 hl rfl rfl omg) ?_
  refine Rr (Zk isAgg44 sizeOf44 hl rfl (Zh coz (by omega))) ?_
  refine QR rfl rfl zeroValue44 rfl sizeOf44 (fun _ => rfl) rfl rfl ?_
  intro b5 w5 x6 hge5 hb5
  have hlt5 := hb5.lt
  change Box _ _ _ (encRo _) at hb5
  have z7 := x6.size
  replace hX := hX.ex x6
  replace hXL1 := Bel.ex hXL1 x6
  refine Qb (Qd (Qa ?_))
  refine Rr (QA isAgg44 sizeOf44 rfl hb5.at rfl) ?_
  refine Qn rfl (Qy call12 rfl) (Ok.mono (rcheckO_ok (l.getD k coz) (hok _ (gm (show k < l.length by omega))) _) ?_)
  rintro _ w8 ⟨rfl, x9⟩
  have z10 := x9.size
  replace hX := hX.ex x9
  replace hXL1 := Bel.ex hXL1 x9
  refine Rr (asI rfl) ?_
  refine Qb (Qd (Qa ?_))
  refine Rr (mvI rfl) ?_
  refine Rr (Zn rfl rfl) ?_
  refine Qb ?_
  refine Qt rfl (fun hc2 => ?_) (fun hc2 => ?_)
  ·have he : checkO (l.getD k coz) ≠ 0 := by simpa using hc2
   refine Qd (Qa ?_)
   refine Rr (mvI rfl) ?_
   refine Rr Qf ?_
   refine Rr (asI rfl) ?_
   refine Qb (Qx ?_)
   refine ⟨_, Q1 rfl rfl rfl, ?_⟩
   have e0 : ofO l = ([], checkO (l.getD k coz)) := by rw [ofO, errO_at (by omega) hall he, if_pos he]
   rw [e0]
   exact ⟨⟨_, rfl, Own.nil _ _⟩, hX⟩
  have he : checkO (l.getD k coz) = 0 := by simpa using hc2
  refine Qs (Qa ?_)
  refine Rr (QN rfl rfl omg) ?_
  refine Rr (mvI rfl) ?_
  refine Qb ?_
  refine ⟨k + 1, ⟨sT, trivial⟩, oT, ⟨?_, hXL1⟩, ?_⟩
  ·exact ⟨by omega, fun j hj => (Nat.lt_succ_iff_lt_or_eq.1 hj).elim (hall j) (fun e => e ▸ he)⟩
  ·omega
 replace hc1 := of_decide_eq_false hc1
 refine QS (QJ (Qd (Qd (Qa ?_))))
 have hv : ∀ x ∈ l, Vo x := fun x hx => by
  obtain ⟨j, hj, rfl⟩ := List.mem_iff_getElem.1 hx
  have h1 := hall j (by omega)
  have h2 : l.getD j coz = l[j] := by simp [List.getD, hj]
  rw [h2] at h1
  exact ⟨hok _ hx, h1⟩
 refine Rr (mvS rfl) ?_
 refine Rr (QM underlying27 rfl) ?_
 refine Rr Zc ?_
 refine Qb (Qz ?_)
 refine Zd (α := Nat) [(2, 3), (7, 8), (10, 10), (25, 63)] (fun i => [(25, .int .i64 (i : Int))]) (fun i w' => (i ≤ l.length ∧ CF (l.take i)) ∧ Ext False w2 w') (fun i => l.length - i) 0 ⟨rfl, trivial⟩ ⟨⟨Nat.zero_le _, List.Pairwise.nil⟩, Bel.refl _ _⟩ ?_
 rintro i fb13 w12 ⟨⟨hi, hcfi⟩, hXL11⟩
 have z14 := Bel.size hXL11
 replace hX := hX.ex hXL11
 replace hl := hl.ext hXL11
 refine Qd (Qa ?_)
 refine Rr (QV rfl rfl) ?_
 refine Qb (Qd ?_)
 refine Qt rfl (fun hc3 => ?_) (fun hc3 => ?_)
 ·have hil : i < l.length := by have := of_decide_eq_true hc3; omega
  refine Qs (Qd (Qz (Qd (Qa ?_))))
  refine Rr (mvI rfl) ?_
  refine Rr (Ze underlying27 sizeOf44 hl rfl rfl omg) ?_
  refine Rr (Zk isAgg44 sizeOf44 hl rfl (Zh coz (by omega))) ?_
  refine QT rfl (Zz zeroValue44) ?_
  intro b8 w15 x16 hge8 hb8
  have hlt8 := hb8.lt
  change Box _ _ _ ([.bool _, .int _ _, .int _ _, .int _ _, .int _ _, str _, str _, .bool _]) at hb8
  have z17 := x16.size
  replace hX := hX.ex x16
  replace hXL11 := Bel.ex hXL11 x16
  replace hl := hl.ext x16
  refine Rr (asI rfl) ?_
  refine QW (v := .agg _) rfl sizeOf44 rfl rfl hb8 rfl rfl rfl ?_
  intro w18 c19 hb8
  change Box _ _ _ (encRo _) at hb8
  have z20 := Bel.size c19
  replace hX := Bel.out hX c19 om2
  replace hXL11 := Bel.out hXL11 c19 om2
  replace hl := hl.keep c19 om3
  refine Qb (Qd (Qa ?_))
  refine Rr (mvS rfl) ?_
  refine Rr (mvI rfl) ?_
  refine Rr (o_slto (j := i) underlying27 sizeOf44 rfl rfl (by have := hl.le; omega)) ?_
  refine Rr (QM underlying27 rfl) ?_
  refine Rr Zc ?_
  refine Qb (Qz ?_)
  refine Zd (α := Nat) [(2, 3), (10, 10), (34, 62)] (fun j => [(34, .int .i64 (j : Int))]) (fun j w' => (j ≤ i ∧ ∀ t, t < j → confl (l.getD i coz) (l.getD t coz) = false) ∧ Ext False w18 w') (fun j => i - j) 0 ⟨rfl, trivial⟩ ⟨⟨Nat.zero_le _, fun t h => absurd h (Nat.not_lt_zero _)⟩, Bel.refl _ _⟩ ?_
  rintro j fb23 w22 ⟨⟨hj, hnj⟩, hXL21⟩
  have z24 := Bel.size hXL21
  replace hX := hX.ex hXL21
  replace hXL11 := Bel.ex hXL11 hXL21
  replace hl := hl.ext hXL21
  replace hb8 := hb8.ext hXL21
  refine Qd (Qa ?_)
  refine Rr (QV rfl rfl) ?_
  refine Qb (Qd ?_)
  refine Qt rfl (fun hc4 => ?_) (fun hc4 => ?_)
  ·have hj1 : j < i := by have := of_decide_eq_true hc4; omega
   refine Qs (Qd (Qz (Qd (Qa ?_))))
   refine Rr (Ze (i := j) underlying27 sizeOf44 (hl.take i) (show _ = Value.slice al (l.take i).length cl by rw [List.length_take, Nat.min_eq_left (by omega)]; rfl) rfl (by rw [List.length_take]; omega)) ?_
   refine Rr (Zk isAgg44 sizeOf44 (hl.take i) rfl (by rw [List.getElem?_take, if_pos hj1]; exact Zh coz (by omega))) ?_
   refine QR rfl rfl zeroValue44 rfl sizeOf44 (fun _ => rfl) rfl rfl ?_
   intro b10 w25 x26 hge10 hb10
   have hlt10 := hb10.lt
   change Box _ _ _ (encRo _) at hb10
   have z27 := x26.size
   replace hX := hX.ex x26
   replace hXL11 := Bel.ex hXL11 x26
   replace hXL21 := Bel.ex hXL21 x26
   replace hb8 := hb8.ext x26
   refine Qb (Qd ?_)
   apply W_draw (β := False) [peq _, peq _, peq _, peq _, peq _, peq _, peq _, peq _, peq _, peq _, peq _, peq _, peq _, peq _, peq _, peq _, peq _, peq _, peq _, peq _, peq _, peq _, peq _, peq _] 24 Zq (by kernel_rfl) rfl ⟨Qg _, Qg _, Qg _, Qg _, Qg _, Qg _, Qg _, Qg _, Qg _, Qg _, Qg _, Qg _, Qg _, Qg _, Qg _, Qg _, Qg _, Qg _, Qg _, Qg _, Qg _, Qg _, Qg _, Qg _, trivial⟩ ?ob14 ?fin14
   case ob14 =>
    refine Qk (fun w28 x29 => ?_) ?_
    ·have z30 := x29.size
     have hb8 := hb8.ext x29
     refine Qi ?_
     exact QH rfl (QA isAgg44 sizeOf44 rfl hb8.at rfl)
    refine Qk (fun w31 x32 => ?_) ?_
    ·have z33 := x32.size
     refine Qc (Qi ?_)
     exact OpS_call rfl (Qy call15 rfl) (rkey_ok (l.getD i coz) _)
    refine Qk (fun w34 x35 => ?_) ?_
    ·have z36 := x35.size
     have hb10 := hb10.ext x35
     refine Qi ?_
     exact QH rfl (QA isAgg44 sizeOf44 rfl hb10.at rfl)
    refine Qk (fun w37 x38 => ?_) ?_
    ·have z39 := x38.size
     refine Qc (Qc (Qi ?_))
     exact OpS_call rfl (Qy call15 rfl) (rkey_ok (l.getD j coz) _)
    refine Qk (fun w40 x41 => ?_) ?_
    ·have z42 := x41.size
     refine Qc (Qc (Qi ?_))
     exact QH rfl (o_teql eq_rk rfl rfl)
    refine Qk (fun w43 x44 => ?_) ?_
    ·have z45 := x44.size
     refine Qc (Qc (Qi ?_))
     exact QH rfl (mvB rfl)
    refine Qk (fun w46 x47 => ?_) ?_
    ·have z48 := x47.size
     refine Qc (Qi ?_)
     exact QU 5 43 rfl rfl (fun hg => (QB underlying44 rfl sizeOf3 rfl))
    refine Qk (fun w49 x50 => ?_) ?_
    ·have z51 := x50.size
     have hb8 := hb8.ext x50
     refine Qc (Qc (Qi ?_))
     exact QU 5 43 rfl rfl (fun hg => (Qo isAgg3 (QE (u := undef) hg) (hb8.at.get 1 rfl)))
    refine Qk (fun w52 x53 => ?_) ?_
    ·have z54 := x53.size
     refine Qc (Qc (Qi ?_))
     exact QU 5 43 rfl rfl (fun hg => (Zn (QE (u := undef) hg) rfl))
    refine Qk (fun w55 x56 => ?_) ?_
    ·have z57 := x56.size
     refine Qc (Qc (Qc (Qi ?_)))
     exact QU 5 43 rfl rfl (fun hg => (Qh (v := .bool _) (QE (u := undef) hg)))
    refine Qk (fun w58 x59 => ?_) ?_
    ·have z60 := x59.size
     refine Qc (Qi ?_)
     exact Q4 9 47 rfl rfl (fun hg => (QB underlying44 rfl sizeOf4 rfl))
    refine Qk (fun w61 x62 => ?_) ?_
    ·have z63 := x62.size
     have hb8 := hb8.ext x62
     refine Qc (Qc (Qi ?_))
     exact Q4 9 47 rfl rfl (fun hg => (Qo isAgg4 (QE (u := undef) hg) (hb8.at.get 0 rfl)))
    refine Qk (fun w64 x65 => ?_) ?_
    ·have z66 := x65.size
     refine Qc (Qi ?_)
     exact Q4 9 47 rfl rfl (fun hg => (QB underlying44 rfl sizeOf4 rfl))
    refine Qk (fun w67 x68 => ?_) ?_
    ·have z69 := x68.size
     have hb10 := hb10.ext x68
     refine Qc (Qc (Qi ?_))
     exact Q4 9 47 rfl rfl (fun hg => (Qo isAgg4 (QE (u := undef) hg) (hb10.at.get 0 rfl)))
    refine Qk (fun w70 x71 => ?_) ?_
    ·have z72 := x71.size
     refine Qc (Qc (Qc (Qi ?_)))
     exact Q4 9 47 rfl rfl (fun hg => (o_beql underlying4 (QE (u := undef) hg) (QE (u := undef) hg)))
    refine Qk (fun w73 x74 => ?_) ?_
    ·have z75 := x74.size
     refine Qc (Qc (Qc (Qi ?_)))
     exact QU 5 43 rfl rfl (fun hg => (o_or (u := undef) (QE (u := undef) hg) (gand (u := undef) hg)))
    refine Qk (fun w76 x77 => ?_) ?_
    ·have z78 := x77.size
     refine Qc (Qc (Qc (Qi ?_)))
     exact QU 5 43 rfl rfl (fun hg => (Qh (v := .bool _) (QE (u := undef) hg)))
    refine Qk (fun w79 x80 => ?_) ?_
    ·have z81 := x80.size
     refine Qc (Qi ?_)
     exact Q4 16 54 rfl rfl (fun hg => (QB underlying44 rfl sizeOf3 rfl))
    refine Qk (fun w82 x83 => ?_) ?_
    ·have z84 := x83.size
     have hb8 := hb8.ext x83
     refine Qc (Qc (Qi ?_))
     exact Q4 16 54 rfl rfl (fun hg => (Qo isAgg3 (QE (u := undef) hg) (hb8.at.get 4 rfl)))
    refine Qk (fun w85 x86 => ?_) ?_
    ·have z87 := x86.size
     refine Qc (Qi ?_)
     exact Q4 16 54 rfl rfl (fun hg => (QB underlying44 rfl sizeOf3 rfl))
    refine Qk (fun w88 x89 => ?_) ?_
    ·have z90 := x89.size
     have hb10 := hb10.ext x89
     refine Qc (Qc (Qi ?_))
     exact Q4 16 54 rfl rfl (fun hg => (Qo isAgg3 (QE (u := undef) hg) (hb10.at.get 4 rfl)))
    refine Qk (fun w91 x92 => ?_) ?_
    ·have z93 := x92.size
     refine Qc (Qc (Qc (Qi ?_)))
     exact Q4 16 54 rfl rfl (fun hg => (QO (QE (u := undef) hg) (QE (u := undef) hg)))
    refine Qk (fun w94 x95 => ?_) ?_
    ·have z96 := x95.size
     refine Qc (Qc (Qc (Qi ?_)))
     exact QU 5 43 rfl rfl (fun hg => (o_or (u := undef) (QE (u := undef) hg) (gand (u := undef) hg)))
    refine Qk (fun w97 x98 => ?_) ?_
    ·have z99 := x98.size
     refine Qc (Qc (Qi ?_))
     exact QH rfl (Q9 (u := undef) rfl rfl)
    exact Zt
   case fin14 =>
    intro w100 x101
    have z102 := x101.size
    replace hX := hX.ex x101
    replace hXL11 := Bel.ex hXL11 x101
    replace hXL21 := Bel.ex hXL21 x101
    refine Qc (Qc (Qc (Qc (Qc (Qc (Qc (Qc (Qc ?_))))))))
    refine Qc (Qc (Qc (Qc (Qc (Qc (Qc (Qc (Qc ?_))))))))
    refine Qc (Qc (Qc (Qc (Qc (Qc (Qi (Qb ?_)))))))
    refine Qt rfl (fun hc5 => ?_) (fun hc5 => ?_)
    ·have hcf : confl (l.getD i coz) (l.getD j coz) = true := hc5
     refine Qd (Qa ?_)
     refine Rr Qf ?_
     refine Rr Qf ?_
     refine Qb (Qx ?_)
     refine ⟨_, Q1 rfl rfl rfl, ?_⟩
     have e0 : ofO l = ([], 12) := by rw [ofO, if_neg (by rw [errO_none.2 fun o ho => (hv o ho).chk]; simp), if_neg (cf_no hil hj1 hcf)]
     rw [e0]
     exact ⟨⟨_, rfl, Own.nil _ _⟩, hX⟩
    have hcf : confl (l.getD i coz) (l.getD j coz) = false := hc5
    refine Qs (Qa ?_)
    refine Rr (QN rfl rfl omg) ?_
    refine Rr (mvI rfl) ?_
    refine Qb ?_
    refine ⟨j + 1, ⟨sT, trivial⟩, oT, ⟨?_, hXL21⟩, ?_⟩
    ·exact ⟨by omega, fun t ht => (Nat.lt_succ_iff_lt_or_eq.1 ht).elim (hnj t) (fun e => e ▸ hcf)⟩
    ·omega
  have hj1 : ¬ j < i := by have := of_decide_eq_false hc4; omega
  refine QS (QJ (Qa ?_))
  refine Rr (QN rfl rfl omg) ?_
  refine Rr (mvI rfl) ?_
  refine Qb ?_
  refine ⟨i + 1, ⟨sT, trivial⟩, oT, ⟨?_, hXL11⟩, ?_⟩
  ·exact ⟨by omega, cf_snoc hil hcfi (fun t ht => hnj t (by omega))⟩
  ·omega
 have hil : ¬ i < l.length := by have := of_decide_eq_false hc3; omega
 refine QS (QJ (Qd (Qa ?_)))
 refine Rr (mvS rfl) ?_
 refine Qn rfl (Qy call57 rfl) (Ok.mono (rsorted_ok _ _ l hl.trd (by omega) hok) ?_)
 rintro v65 w103 ⟨hown65, x104⟩
 have z105 := x104.size
 replace hX := hX.ex x104
 replace hown65 := hown65.mono (D' := fun g => w.heap.size ≤ g) (fun g h1 h2 => by omega)
 refine Rr (Qq (v := v65) rfl) ?_
 refine Rr Qf ?_
 refine Qb (Qx ?_)
 refine ⟨_, Q1 rfl rfl rfl, ?_⟩
 rw [List.take_of_length_le (by omega)] at hcfi
 rw [of_good hv hcfi]
 exact ⟨⟨_, rfl, hown65.mono (fun g h1 h2 => by omega)⟩, hX⟩

theorem rset5_ok (w : World) (vl : Value) (l : List COp) (hl : Rd encRo 8 (Lt w.heap.size) w vl l) (nl : l.length ≤ 100000) (hok : ∀ x ∈ l, x.p.ok) : Ok Tryz.prog 23 #[vl] w fun v w' => (∃ X, VS X ∧ X.length ≤ l.length ∧ Own encRo 8 44 (Fsh w w') w' v X) ∧ Ext False w w' := by
 obtain ⟨al, cl, rfl, hl⟩ := hl; have ml := hl.len
 refine QD 22 func23 rfl rfl rfl ?_
 have hX : Ext False w w := Bel.refl _ _
 refine Qd (Qa ?_)
 refine Rr Qf ?_
 refine Qb (Qd (Qd (Qa ?_)))
 refine Rr (mvS rfl) ?_
 refine Rr (QM underlying27 rfl) ?_
 refine Rr (asI rfl) ?_
 refine Qb (Qz ?_)
 refine Zd (α := Nat) [(2, 5), (8, 21)] (fun n => [(3, .int .i64 (n : Int))]) (fun n w' => (n ≤ l.length) ∧ Ext False w w') (fun n => n) l.length ⟨rfl, trivial⟩ ⟨Nat.le_refl _, Bel.refl _ _⟩ ?_
 rintro n fb3 w2 ⟨hn, hXL1⟩
 have z4 := Bel.size hXL1
 replace hX := hX.ex hXL1
 replace hl := hl.ext hXL1
 refine Qd (Qd (Qa ?_))
 refine Rr (mvI rfl) ?_
 refine Rr (Zy rfl rfl) ?_
 refine Qb ?_
 refine Qt rfl (fun hc1 => ?_) (fun hc1 => ?_)
 ·have hn1 : 1 ≤ n := by have := of_decide_eq_true hc1; omega
  refine Qs (Qd (Qz (Qd (Qa ?_))))
  refine Rr (mvS rfl) ?_
  refine Rr (mvI rfl) ?_
  refine Rr (o_slto (j := n) underlying27 sizeOf44 rfl rfl (by have := hl.le; omega)) ?_
  refine Qn rfl (Qy call18 rfl) (Ok.mono (rof_ok _ _ (l.take n) ⟨al, cl, by rw [List.length_take, Nat.min_eq_left hn]; rfl, (hl.take n).top⟩ (by rw [List.length_take]; omega) (fun x hx => hok x (List.mem_of_mem_take hx))) ?_)
  rintro _ w5 ⟨⟨u16, rfl, hown16⟩, x6⟩
  have z7 := x6.size
  replace hX := hX.ex x6
  replace hXL1 := Bel.ex hXL1 x6
  refine Rr (Qh (v := .tuple _) rfl) ?_
  refine Rr (QC rfl rfl) ?_
  refine Rr (QC rfl rfl) ?_
  refine Rr (Qq (v := u16) rfl) ?_
  refine Rr (asI rfl) ?_
  refine Qb (Qd (Qa ?_))
  refine Rr (mvI rfl) ?_
  refine Rr (QO rfl rfl) ?_
  refine Qb ?_
  refine Qt rfl (fun hc2 => ?_) (fun hc2 => ?_)
  ·have he : (ofO (l.take n)).2 = 0 := by simpa using hc2
   have hvs := vs_of (fun x hx => hok x (List.mem_of_mem_take hx)) he
   refine Qd (Qa ?_)
   refine Rr (Qh (v := u16) rfl) ?_
   refine Rr (Qq (v := u16) rfl) ?_
   refine Qb (Qx ?_)
   refine ⟨_, Qu rfl rfl, ?_⟩
   exact ⟨⟨_, hvs.1, by rw [hvs.2.length_eq, List.length_take]; omega, hown16.mono (fun g h1 h2 => by omega)⟩, hX⟩
  skip
  refine Qs (Qa ?_)
  refine Rr (mvI rfl) ?_
  refine Rr (o_subN (p := n) (b := 1) rfl rfl (by omega) (by omega)) ?_
  refine Rr (asI rfl) ?_
  refine Qb ?_
  refine ⟨n - 1, ⟨sT, trivial⟩, oT, ⟨?_, hXL1⟩, ?_⟩
  ·show n - 1 ≤ l.length; omega
  ·omega
 skip
 refine QS (QJ (Qd (Qa ?_)))
 refine Rr Qf ?_
 refine Qb (Qx ?_)
 refine ⟨_, Qu rfl rfl, ?_⟩
 exact ⟨⟨[], VS.nil, Nat.zero_le _, Own.nil _ _⟩, hX⟩

end Go.Proofs.YtdnkjdmfnmdpdaaGreatDoor
