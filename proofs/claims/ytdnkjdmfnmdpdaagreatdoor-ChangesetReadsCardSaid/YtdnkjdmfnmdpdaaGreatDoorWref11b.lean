/- Walks: what functions return. -/
import Derived.Test.YtdnkjdmfnmdpdaaGreatDoorWref11a
import Derived.Test.YtdnkjdmfnmdpdaaGreatDoorStr
import Derived.Test.YtdnkjdmfnmdpdaaGreatDoorMore
set_option linter.unusedVariables false
set_option linter.unusedSimpArgs false
set_option linter.unnecessarySimpa false
namespace Go.Proofs.YtdnkjdmfnmdpdaaGreatDoor
open Go Go.Lx Go.RowKit Tryz
set_option maxRecDepth 100000
theorem rcheck_ok (w : World) (x : Perm) (hx : x.ok) : Ok Tryz.prog 53 #[.agg (encP x).toArray] w fun v w' => v = .int .i64 (checkS x) ∧ Ext False w w' := by
 have hxa := hx.1; have hxp := hx.2
 refine QD 26 func53 rfl rfl rfl ?_
 have hX : Ext False w w := Bel.refl _ _
 refine Qd (Qa ?_)
 refine QT rfl (Zw (v := .agg _) rfl) ?_
 intro b1 w1 x2 hge1 hb1
 change Box _ _ _ (encP _) at hb1
 replace hX := hX.ex x2
 refine Rr Qf ?_
 refine Qb (Qd (Qd (Qa ?_)))
 refine Rr (QB underlying42 rfl sizeOf9 rfl) ?_
 refine Rr (Qo isAgg9 rfl (hb1.at.get 0 rfl)) ?_
 refine Qn rfl (Qy call106 rfl) (Ok.mono (rname_ok (False) _ (by omega) _) ?_)
 rintro _ w3 ⟨rfl, x4⟩
 replace hX := hX.ex x4
 replace hb1 := hb1.ext x4
 refine Rr (QQ rfl) ?_
 refine Qb ?_
 refine Qt rfl (fun hc1 => ?_) (fun hc1 => ?_)
 ·refine Qd (Qa ?_)
  refine Rr Qf ?_
  refine Qb (Qx ?_)
  refine ⟨_, Qu rfl rfl, ?_⟩
  refine ⟨congrArg (Value.int .i64) ?_, hX⟩
  all_goals (rw [checkS, if_pos hc1])
 refine Qs (Qd (Qa ?_))
 refine Rr (QB underlying42 rfl sizeOf9 rfl) ?_
 refine Rr (Qo isAgg9 rfl (hb1.at.get 1 rfl)) ?_
 refine Qn rfl (Qy call107 rfl) (Ok.mono (rsplit_ok _ _ (by first | assumption | omega | (simp; done) | (simp; omega) | (simp at *; omega))) ?_)
 rintro _ w5 ⟨a12, c12, l12, rfl, hs12, hl12, x6⟩
 replace hX := hX.ex x6
 replace hb1 := hb1.ext x6
 refine Rr (Qh (v := .tuple _) rfl) ?_
 refine Rr (QC rfl rfl) ?_
 refine Rr (QC rfl rfl) ?_
 refine Rr (asS rfl) ?_
 refine Rr (asB rfl) ?_
 refine Qb (Qd (Qd (Qa ?_)))
 refine Rr (mvB rfl) ?_
 refine Rr (QQ rfl) ?_
 refine Rr (mvB rfl) ?_
 refine Qr 2 17 rfl rfl rfl (fun hg => (QB underlying42 rfl sizeOf4 rfl)) ?_
 refine Qr 2 17 rfl rfl rfl (fun hg => (Qo isAgg4 (QE (u := undef) hg) (hb1.at.get 2 rfl))) ?_
 refine Qr 2 17 rfl rfl rfl (fun hg => (Qh (v := .bool _) (QE (u := undef) hg))) ?_
 refine Q8 5 20 rfl rfl rfl (fun hg => (mvS rfl)) ?_
 refine Q8 5 20 rfl rfl rfl (fun hg => (QM underlying29 (QE (u := undef) hg))) ?_
 refine Q8 5 20 rfl rfl rfl (fun hg => (QO (QE (u := undef) hg) rfl)) ?_
 refine Qr 2 17 rfl rfl rfl (fun hg => (Q9 (u := undef) (QE (u := undef) hg) (gand (u := undef) hg))) ?_
 refine Rr (o_or (u := undef) rfl rfl) ?_
 refine Qb ?_
 refine Qt rfl (fun hc2 => ?_) (fun hc2 => ?_)
 ·refine Qd (Qa ?_)
  refine Rr Qf ?_
  refine Qb (Qx ?_)
  refine ⟨_, Qu rfl rfl, ?_⟩
  refine ⟨congrArg (Value.int .i64) ?_, hX⟩
  all_goals (rw [checkS, if_neg (by rw [hc1]; simp), if_pos (chk_r hl12 ▸ hc2)])
 refine Qs (Qd (Qa ?_))
 refine Rr Qf ?_
 refine Qb (Qx ?_)
 refine ⟨_, Qu rfl rfl, ?_⟩
 refine ⟨congrArg (Value.int .i64) ?_, hX⟩
 all_goals (rw [checkS, if_neg (by rw [hc1]; simp), if_neg (by rw [chk_r hl12, hc2]; simp)])

theorem rcmpt_ok (β : Prop) (w : World) (a : Str) (ha : a.length ≤ 1000000) (b : Str) (hb : b.length ≤ 1000000) : Ok Tryz.prog 161 #[str a, str b] w fun v w' => v = .int .i64 (cmpS a b) ∧ Ext β w w' := by
 refine QD 11 func161 rfl rfl rfl ?_
 have hX : Ext β w w := Bel.refl _ _
 refine Qd (Qa ?_)
 refine Rr Qf ?_
 refine Qb (Qd (Qd (Qa ?_)))
 refine Rr (Qh (v := str _) rfl) ?_
 refine Rr (Qh (v := str _) rfl) ?_
 refine Rr (o_slss rfl rfl) ?_
 refine Qb ?_
 refine Qt rfl (fun hc1 => ?_) (fun hc1 => ?_)
 ·refine Qd (Qa ?_)
  refine Rr Qf ?_
  refine Qb (Qx ?_)
  refine ⟨_, Qu rfl rfl, ?_⟩
  refine ⟨congrArg (Value.int .i64) ?_, hX⟩
  all_goals (rw [cmpS, if_pos hc1])
 refine Qs (Qd (Qd (Qa ?_)))
 refine Rr (Qh (v := str _) rfl) ?_
 refine Rr (Qh (v := str _) rfl) ?_
 refine Rr (o_sgtr rfl rfl) ?_
 refine Qb ?_
 refine Qt rfl (fun hc2 => ?_) (fun hc2 => ?_)
 ·refine Qd (Qa ?_)
  refine Rr Qf ?_
  refine Qb (Qx ?_)
  refine ⟨_, Qu rfl rfl, ?_⟩
  refine ⟨congrArg (Value.int .i64) ?_, hX⟩
  all_goals (rw [cmpS, if_neg (by rw [hc1]; simp), if_pos hc2])
 refine Qs (Qd (Qa ?_))
 refine Rr Qf ?_
 refine Qb (Qx ?_)
 refine ⟨_, Qu rfl rfl, ?_⟩
 refine ⟨congrArg (Value.int .i64) ?_, hX⟩
 all_goals (rw [cmpS, if_neg (by rw [hc1]; simp), if_neg (by rw [hc2]; simp)])

theorem rcmpp_ok (β : Prop) (w : World) (va : Value) (a : List Str) (ha : Rd encS 1 (Lt w.heap.size) w va a) (na : a.length ≤ 1000000) (oa : ∀ p ∈ a, (fun p => p.length ≤ 1000000) p) (vb : Value) (b : List Str) (hb : Rd encS 1 (Lt w.heap.size) w vb b) (nb : b.length ≤ 1000000) (ob : ∀ p ∈ b, (fun p => p.length ≤ 1000000) p) : Ok Tryz.prog 162 #[va, vb] w fun v w' => v = .int .i64 (cmpL a b) ∧ Ext β w w' := by
 obtain ⟨aa, ca, rfl, ha⟩ := ha; have ma := ha.len
 obtain ⟨ab, cb, rfl, hb⟩ := hb; have mb := hb.len
 refine QD 41 func162 rfl rfl rfl ?_
 have hX : Ext β w w := Bel.refl _ _
 refine Qd (Qa ?_)
 refine Rr Qf ?_
 refine Qb (Qd (Qd (Qa ?_)))
 refine Rr Qf ?_
 refine Qb (Qz ?_)
 refine Zd (α := Nat) [(4, 30)] (fun k => [(5, .int .i64 (k : Int))]) (fun k w' => (k ≤ a.length ∧ k ≤ b.length ∧ cmpL a b = cmpL (a.drop k) (b.drop k)) ∧ Ext β w w') (fun k => a.length - k) 0 ⟨rfl, trivial⟩ ⟨⟨by omega, by omega, rfl⟩, Bel.refl _ _⟩ ?_
 rintro k fb3 w2 ⟨hk, hXL1⟩
 replace hX := hX.ex hXL1
 replace ha := ha.ext hXL1
 replace hb := hb.ext hXL1
 refine Qd (Qd (Qa ?_))
 refine Rr (mvI rfl) ?_
 refine Rr (mvS rfl) ?_
 refine Rr (QM underlying29 rfl) ?_
 refine Rr (QV rfl rfl) ?_
 refine Rr (mvB rfl) ?_
 refine Qr 4 11 rfl rfl rfl (fun hg => (mvI rfl)) ?_
 refine Qr 4 11 rfl rfl rfl (fun hg => (mvS rfl)) ?_
 refine Qr 4 11 rfl rfl rfl (fun hg => (QM underlying29 (QE (u := undef) hg))) ?_
 refine Qr 4 11 rfl rfl rfl (fun hg => (QV (QE (u := undef) hg) (QE (u := undef) hg))) ?_
 refine Rr (Q9 (u := undef) rfl rfl) ?_
 refine Qb ?_
 refine Qt rfl (fun hc1 => ?_) (fun hc1 => ?_)
 ·have hlt : k < a.length ∧ k < b.length := by simp at hc1; omega
  refine Qs (Qd (Qz (Qd ?_)))
  apply W_draw (β := β) [peq _, peq _, peq _, peq _, peq _, peq _, peq _, peq _, peq _, peq _] 10 Zq (by kernel_rfl) rfl ⟨Qg _, Qg _, Qg _, Qg _, Qg _, Qg _, Qg _, Qg _, Qg _, Qg _, trivial⟩ ?ob4 ?fin4
  case ob4 =>
   refine Qk (fun w4 x5 => ?_) ?_
   ·refine Qi ?_
    exact QH rfl (mvS rfl)
   refine Qk (fun w6 x7 => ?_) ?_
   ·refine Qi ?_
    exact QH rfl (mvI rfl)
   refine Qk (fun w8 x9 => ?_) ?_
   ·have ha := ha.ext x9
    refine Qc (Qc (Qi ?_))
    exact QH rfl (Ze underlying29 sizeOf9 ha rfl rfl omg)
   refine Qk (fun w10 x11 => ?_) ?_
   ·have ha := ha.ext x11
    refine Qc (Qi ?_)
    exact QH rfl (o_ldR isAgg9 ha rfl rfl (getElem?_of (by omega)) rfl)
   refine Qk (fun w12 x13 => ?_) ?_
   ·refine Qi ?_
    exact QH rfl (mvS rfl)
   refine Qk (fun w14 x15 => ?_) ?_
   ·refine Qi ?_
    exact QH rfl (mvI rfl)
   refine Qk (fun w16 x17 => ?_) ?_
   ·have hb := hb.ext x17
    refine Qc (Qc (Qi ?_))
    exact QH rfl (Ze underlying29 sizeOf9 hb rfl rfl omg)
   refine Qk (fun w18 x19 => ?_) ?_
   ·have hb := hb.ext x19
    refine Qc (Qi ?_)
    exact QH rfl (o_ldR isAgg9 hb rfl rfl (getElem?_of (by omega)) rfl)
   refine Qk (fun w20 x21 => ?_) ?_
   ·refine Qc (Qc (Qi ?_))
    exact OpS_call rfl (QI call161 rfl rfl) (rcmpt_ok (β) _ _ (oa _ (List.getElem_mem _)) _ (ob _ (List.getElem_mem _)))
   refine Qk (fun w22 x23 => ?_) ?_
   ·refine Qc (Qc (Qc (Qc (Qc (Qc (Qc (Qc (Qc ?_))))))))
    refine Qc (Qc (Qi ?_))
    exact QH rfl (asI rfl)
   exact Zt
  case fin4 =>
   intro w24 x25
   replace hX := hX.ex x25
   replace hXL1 := Bel.ex hXL1 x25
   refine Qc (Qc (Qc (Qc (Qc (Qc (Qc (Qc (Qc ?_))))))))
   refine Qc (Qi (Qb (Qd (Qa ?_))))
   refine Rr (mvI rfl) ?_
   refine Rr (Zn rfl rfl) ?_
   refine Qb ?_
   refine Qt rfl (fun hc2 => ?_) (fun hc2 => ?_)
   ·refine Qd (Qa ?_)
    refine Rr (mvI rfl) ?_
    refine Rr (asI rfl) ?_
    refine Qb (Qx ?_)
    refine ⟨_, Qu rfl rfl, ?_⟩
    refine ⟨congrArg (Value.int .i64) ?_, hX⟩
    all_goals (rw [hk.2.2, cmpL_ne (by omega) (by omega) (bnot_t hc2)])
   refine Qs (Qa ?_)
   refine Rr (mvI rfl) ?_
   refine Rr (QN rfl rfl (by unfold I64; omega)) ?_
   refine Rr (asI rfl) ?_
   refine Qb ?_
   refine ⟨k + 1, ⟨sT, trivial⟩, oT, ⟨?_, hXL1⟩, ?_⟩
   ·exact ⟨by omega, by omega, by rw [hk.2.2, cmpL_step (by omega) (by omega) (bnot_f hc2)]⟩
   ·omega
 have hge : ¬ (k < a.length ∧ k < b.length) := by simp at hc1; omega
 refine QS (QJ (Qd (Qd (Qa ?_))))
 refine Rr (mvS rfl) ?_
 refine Rr (QM underlying29 rfl) ?_
 refine Rr (mvS rfl) ?_
 refine Rr (QM underlying29 rfl) ?_
 refine Rr (QV rfl rfl) ?_
 refine Qb ?_
 refine Qt rfl (fun hc3 => ?_) (fun hc3 => ?_)
 ·refine Qd (Qa ?_)
  refine Rr Qf ?_
  refine Qb (Qx ?_)
  refine ⟨_, Qu rfl rfl, ?_⟩
  refine ⟨congrArg (Value.int .i64) ?_, hX⟩
  all_goals (rw [hk.2.2, cmpL_short (by simp at hc3; omega) (by simp at hc3; omega)])
 refine Qs (Qd (Qd (Qa ?_)))
 refine Rr (mvS rfl) ?_
 refine Rr (QM underlying29 rfl) ?_
 refine Rr (mvS rfl) ?_
 refine Rr (QM underlying29 rfl) ?_
 refine Rr (Zy rfl rfl) ?_
 refine Qb ?_
 refine Qt rfl (fun hc4 => ?_) (fun hc4 => ?_)
 ·refine Qd (Qa ?_)
  refine Rr Qf ?_
  refine Qb (Qx ?_)
  refine ⟨_, Qu rfl rfl, ?_⟩
  refine ⟨congrArg (Value.int .i64) ?_, hX⟩
  all_goals (rw [hk.2.2, cmpL_long (by simp at hc3 hc4; omega) (by simp at hc3 hc4; omega)])
 refine Qs (Qd (Qa ?_))
 refine Rr Qf ?_
 refine Qb (Qx ?_)
 refine ⟨_, Qu rfl rfl, ?_⟩
 refine ⟨congrArg (Value.int .i64) ?_, hX⟩
 all_goals (rw [hk.2.2, cmpL_both (by simp at hc3 hc4; omega) (by simp at hc3 hc4; omega)])

theorem rcompare_ok (w : World) (x : Perm) (hx : x.ok) (y : Perm) (hy : y.ok) : Ok Tryz.prog 127 #[.agg (encP x).toArray, .agg (encP y).toArray] w fun v w' => v = .int .i64 (cmpM x y) ∧ Ext False w w' := by
 have hxa := hx.1; have hxp := hx.2; have hya := hy.1; have hyp := hy.2
 refine QD 52 func127 rfl rfl rfl ?_
 have hX : Ext False w w := Bel.refl _ _
 refine Qd (Qa ?_)
 refine QT rfl (Zw (v := .agg _) rfl) ?_
 intro b2 w1 x2 hge2 hb2
 change Box _ _ _ (encP _) at hb2
 replace hX := hX.ex x2
 refine QT rfl (Zw (v := .agg _) rfl) ?_
 intro b3 w3 x4 hge3 hb3
 change Box _ _ _ (encP _) at hb3
 replace hX := hX.ex x4
 replace hb2 := hb2.ext x4
 refine Rr Qf ?_
 refine Qb (Qd (Qa ?_))
 refine Rr (QB underlying42 rfl sizeOf9 rfl) ?_
 refine Rr (Qo isAgg9 rfl (hb2.at.get 0 rfl)) ?_
 refine Rr (QB underlying42 rfl sizeOf9 rfl) ?_
 refine Rr (Qo isAgg9 rfl (hb3.at.get 0 rfl)) ?_
 refine Qn rfl (QI call161 rfl rfl) (Ok.mono (rcmpt_ok (False) _ _ (by first | assumption | omega | (simp; done) | (simp; omega) | (simp at *; omega)) _ (by first | assumption | omega | (simp; done) | (simp; omega) | (simp at *; omega))) ?_)
 rintro _ w5 ⟨rfl, x6⟩
 replace hX := hX.ex x6
 replace hb2 := hb2.ext x6
 replace hb3 := hb3.ext x6
 refine Rr (asI rfl) ?_
 refine Qb (Qd (Qd (Qa ?_)))
 refine Rr (mvI rfl) ?_
 refine Rr (Zn rfl rfl) ?_
 refine Qb ?_
 refine Qt rfl (fun hc1 => ?_) (fun hc1 => ?_)
 ·refine Qd (Qa ?_)
  refine Rr (mvI rfl) ?_
  refine Rr (asI rfl) ?_
  refine Qb (Qx ?_)
  refine ⟨_, Qu rfl rfl, ?_⟩
  refine ⟨congrArg (Value.int .i64) ?_, hX⟩
  all_goals (rw [cmpM_r1 hc1])
 refine Qs (Qd (Qa ?_))
 refine Rr (QB underlying42 rfl sizeOf9 rfl) ?_
 refine Rr (Qo isAgg9 rfl (hb2.at.get 1 rfl)) ?_
 refine Qn rfl (Qy call107 rfl) (Ok.mono (rsplit_ok _ _ (by first | assumption | omega | (simp; done) | (simp; omega) | (simp at *; omega))) ?_)
 rintro _ w7 ⟨a21, c21, l21, rfl, hs21, hl21, x8⟩
 replace hX := hX.ex x8
 replace hb2 := hb2.ext x8
 replace hb3 := hb3.ext x8
 refine Rr (Qh (v := .tuple _) rfl) ?_
 refine Rr (QC rfl rfl) ?_
 refine Rr (QC rfl rfl) ?_
 refine Rr (asS rfl) ?_
 refine Rr (asB rfl) ?_
 refine Qb (Qd (Qa ?_))
 refine Rr (QB underlying42 rfl sizeOf9 rfl) ?_
 refine Rr (Qo isAgg9 rfl (hb3.at.get 1 rfl)) ?_
 refine Qn rfl (Qy call107 rfl) (Ok.mono (rsplit_ok _ _ (by first | assumption | omega | (simp; done) | (simp; omega) | (simp at *; omega))) ?_)
 rintro _ w9 ⟨a27, c27, l27, rfl, hs27, hl27, x10⟩
 replace hX := hX.ex x10
 replace hb2 := hb2.ext x10
 replace hb3 := hb3.ext x10
 replace hs21 := hs21.ext x10
 refine Rr (Qh (v := .tuple _) rfl) ?_
 refine Rr (QC rfl rfl) ?_
 refine Rr (QC rfl rfl) ?_
 refine Rr (asS rfl) ?_
 refine Rr (asB rfl) ?_
 refine Qb (Qd (Qd (Qa ?_)))
 refine Rr (mvB rfl) ?_
 refine Rr (mvB rfl) ?_
 refine Qr 1 31 rfl rfl rfl (fun hg => (mvB rfl)) ?_
 refine Rr (Q9 (u := undef) rfl rfl) ?_
 refine Qb ?_
 refine Qt rfl (fun hc2 => ?_) (fun hc2 => ?_)
 ·obtain ⟨ho1, ho2⟩ := Bool.and_eq_true_iff.1 hc2; obtain rfl := hl21 ho1; obtain rfl := hl27 ho2; have hq := cmpQ_yes hc2
  refine Qa ?_
  refine Rr (mvS rfl) ?_
  refine Rr (mvS rfl) ?_
  refine Qn rfl (QI call162 rfl rfl) (Ok.mono (rcmpp_ok (False) _ _ _ hs21.trd (by have := splitL_len x.path; omega) (fun p hp => Nat.le_trans (splitL_mem hp) (by omega)) _ _ hs27.trd (by have := splitL_len y.path; omega) (fun p hp => Nat.le_trans (splitL_mem hp) (by omega))) ?_)
  rintro _ w11 ⟨rfl, x12⟩
  replace hX := hX.ex x12
  replace hb2 := hb2.ext x12
  replace hb3 := hb3.ext x12
  refine Rr (asI rfl) ?_
  refine Qb (Qd (Qd (Qa ?_)))
  refine Rr (mvI rfl) ?_
  refine Rr (Zn rfl rfl) ?_
  refine Qb ?_
  refine Qt rfl (fun hc3 => ?_) (fun hc3 => ?_)
  ·refine Qd (Qa ?_)
   refine Rr (mvI rfl) ?_
   refine Rr (asI rfl) ?_
   refine Qb (Qx ?_)
   refine ⟨_, Qu rfl rfl, ?_⟩
   refine ⟨congrArg (Value.int .i64) ?_, hX⟩
   all_goals (rw [cmpM_a hc1 hq hc3])
  refine Qs (Qd (Qd (Qa ?_)))
  refine Rr (QB underlying42 rfl sizeOf4 rfl) ?_
  refine Rr (Qo isAgg4 rfl (hb2.at.get 2 rfl)) ?_
  refine Rr (QB underlying42 rfl sizeOf4 rfl) ?_
  refine Rr (Qo isAgg4 rfl (hb3.at.get 2 rfl)) ?_
  refine Rr (o_beql underlying4 rfl rfl) ?_
  refine Qb ?_
  refine Qt rfl (fun hc4 => ?_) (fun hc4 => ?_)
  ·refine Qd (Qa ?_)
   refine Rr Qf ?_
   refine Qb (Qx ?_)
   refine ⟨_, Qu rfl rfl, ?_⟩
   refine ⟨congrArg (Value.int .i64) ?_, hX⟩
   all_goals (rw [cmpM_b hc1 hq hc3 hc4])
  refine Qs (Qd (Qd (Qa ?_)))
  refine Rr (QB underlying42 rfl sizeOf4 rfl) ?_
  refine Rr (Qo isAgg4 rfl (hb3.at.get 2 rfl)) ?_
  refine Qb ?_
  refine Qt rfl (fun hc5 => ?_) (fun hc5 => ?_)
  ·refine Qd (Qa ?_)
   refine Rr Qf ?_
   refine Qb (Qx ?_)
   refine ⟨_, Qu rfl rfl, ?_⟩
   refine ⟨congrArg (Value.int .i64) ?_, hX⟩
   all_goals (rw [cmpM_c hc1 hq hc3 hc4 hc5])
  refine Qs (Qd (Qa ?_))
  refine Rr Qf ?_
  refine Qb (Qx ?_)
  refine ⟨_, Qu rfl rfl, ?_⟩
  refine ⟨congrArg (Value.int .i64) ?_, hX⟩
  all_goals (rw [cmpM_d hc1 hq hc3 hc4 hc5])
 have hq := cmpQ_no hc2
 refine Qa ?_
 refine Rr (QB underlying42 rfl sizeOf9 rfl) ?_
 refine Rr (Qo isAgg9 rfl (hb2.at.get 1 rfl)) ?_
 refine Rr (QB underlying42 rfl sizeOf9 rfl) ?_
 refine Rr (Qo isAgg9 rfl (hb3.at.get 1 rfl)) ?_
 refine Qn rfl (QI call161 rfl rfl) (Ok.mono (rcmpt_ok (False) _ _ (by first | assumption | omega | (simp; done) | (simp; omega) | (simp at *; omega)) _ (by first | assumption | omega | (simp; done) | (simp; omega) | (simp at *; omega))) ?_)
 rintro _ w13 ⟨rfl, x14⟩
 replace hX := hX.ex x14
 replace hb2 := hb2.ext x14
 replace hb3 := hb3.ext x14
 refine Rr (asI rfl) ?_
 refine Qb (Qd (Qd (Qa ?_)))
 refine Rr (mvI rfl) ?_
 refine Rr (Zn rfl rfl) ?_
 refine Qb ?_
 refine Qt rfl (fun hc6 => ?_) (fun hc6 => ?_)
 ·refine Qd (Qa ?_)
  refine Rr (mvI rfl) ?_
  refine Rr (asI rfl) ?_
  refine Qb (Qx ?_)
  refine ⟨_, Qu rfl rfl, ?_⟩
  refine ⟨congrArg (Value.int .i64) ?_, hX⟩
  all_goals (rw [cmpM_a hc1 hq hc6])
 refine Qs (Qd (Qd (Qa ?_)))
 refine Rr (QB underlying42 rfl sizeOf4 rfl) ?_
 refine Rr (Qo isAgg4 rfl (hb2.at.get 2 rfl)) ?_
 refine Rr (QB underlying42 rfl sizeOf4 rfl) ?_
 refine Rr (Qo isAgg4 rfl (hb3.at.get 2 rfl)) ?_
 refine Rr (o_beql underlying4 rfl rfl) ?_
 refine Qb ?_
 refine Qt rfl (fun hc7 => ?_) (fun hc7 => ?_)
 ·refine Qd (Qa ?_)
  refine Rr Qf ?_
  refine Qb (Qx ?_)
  refine ⟨_, Qu rfl rfl, ?_⟩
  refine ⟨congrArg (Value.int .i64) ?_, hX⟩
  all_goals (rw [cmpM_b hc1 hq hc6 hc7])
 refine Qs (Qd (Qd (Qa ?_)))
 refine Rr (QB underlying42 rfl sizeOf4 rfl) ?_
 refine Rr (Qo isAgg4 rfl (hb3.at.get 2 rfl)) ?_
 refine Qb ?_
 refine Qt rfl (fun hc8 => ?_) (fun hc8 => ?_)
 ·refine Qd (Qa ?_)
  refine Rr Qf ?_
  refine Qb (Qx ?_)
  refine ⟨_, Qu rfl rfl, ?_⟩
  refine ⟨congrArg (Value.int .i64) ?_, hX⟩
  all_goals (rw [cmpM_c hc1 hq hc6 hc7 hc8])
 refine Qs (Qd (Qa ?_))
 refine Rr Qf ?_
 refine Qb (Qx ?_)
 refine ⟨_, Qu rfl rfl, ?_⟩
 refine ⟨congrArg (Value.int .i64) ?_, hX⟩
 all_goals (rw [cmpM_d hc1 hq hc6 hc7 hc8])

end Go.Proofs.YtdnkjdmfnmdpdaaGreatDoor
