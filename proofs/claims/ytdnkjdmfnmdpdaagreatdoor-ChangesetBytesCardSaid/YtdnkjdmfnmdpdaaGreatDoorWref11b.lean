/- Walks: what functions return. -/
import Derived.Test.YtdnkjdmfnmdpdaaGreatDoorWref11a
import Derived.Test.YtdnkjdmfnmdpdaaGreatDoorNorm
import Derived.Test.YtdnkjdmfnmdpdaaGreatDoorOwn3
set_option linter.unusedVariables false
set_option linter.unusedSimpArgs false
set_option linter.unnecessarySimpa false
namespace Go.Proofs.YtdnkjdmfnmdpdaaGreatDoor
open Go Go.Lx Go.RowKit Tryz
set_option maxRecDepth 100000
theorem rcheck_ok (w : World) (x : Perm) (hx : x.ok) : Ok Tryz.prog 53 #[.agg (encP x).toArray] w fun v w' => v = .int .i64 (checkS x) ∧ Ext False w w' := by
 have hxa := hx.1; have hxp := hx.2
 refine ZQ 26 func53 rfl rfl rfl ?_
 have hX := xRf w
 refine QH (Qc ?_)
 refine Z2 rfl (JB (v := .agg _) rfl) ?_
 intro b1 w1 x2 hge1 hb1
 change Box _ _ _ (encP _) at hb1
 replace hX := hX.ex x2
 refine Rr Zi ?_
 refine Qg (QH (QH (Qc ?_)))
 refine Rr (ZN underlying42 rfl sizeOf9 rfl) ?_
 refine Rr (ZB isAgg9 rfl (hb1.at.get 0 rfl)) ?_
 refine ZC rfl (ZK call106 rfl) (Ok.mono (rname_ok (False) _ (by omega) _) ?_)
 rintro _ w3 ⟨rfl, x4⟩
 replace hX := hX.ex x4
 replace hb1 := hb1.ext x4
 refine Rr (Jf rfl) ?_
 refine Qg ?_
 refine ZG rfl (fun hc1 => ?_) (fun hc1 => ?_)
 ·refine QH (Qc ?_)
  refine Rr Zi ?_
  refine Qg (ZJ ?_)
  refine ⟨_, ZF rfl rfl, ?_⟩
  refine ⟨congrArg (Value.int .i64) ?_, hX⟩
  all_goals (rw [checkS, if_pos hc1])
 refine ZH (QH (Qc ?_))
 refine Rr (ZN underlying42 rfl sizeOf9 rfl) ?_
 refine Rr (ZB isAgg9 rfl (hb1.at.get 1 rfl)) ?_
 refine ZC rfl (ZK call107 rfl) (Ok.mono (rsplit_ok _ _ (by first | assumption | omega | (simp; done) | (simp; omega) | (simp at *; omega))) ?_)
 rintro _ w5 ⟨a12, c12, l12, rfl, hs12, hl12, x6⟩
 replace hX := hX.ex x6
 replace hb1 := hb1.ext x6
 refine Rr (Zt (v := .tuple _) rfl) ?_
 refine Rr (ZS rfl rfl) ?_
 refine Rr (ZS rfl rfl) ?_
 refine Rr (asS rfl) ?_
 refine Rr (asB rfl) ?_
 refine Qg (QH (QH (Qc ?_)))
 refine Rr (mvB rfl) ?_
 refine Rr (Jf rfl) ?_
 refine Rr (mvB rfl) ?_
 refine ZI 2 17 rfl rfl rfl (fun hg => (ZN underlying42 rfl sizeOf4 rfl)) ?_
 refine ZI 2 17 rfl rfl rfl (fun hg => (ZB isAgg4 (ZU (u := undef) hg) (hb1.at.get 2 rfl))) ?_
 refine ZI 2 17 rfl rfl rfl (fun hg => (Zt (v := .bool _) (ZU (u := undef) hg))) ?_
 refine JU 5 20 rfl rfl rfl (fun hg => (mvS rfl)) ?_
 refine JU 5 20 rfl rfl rfl (fun hg => (Z0 underlying29 (ZU (u := undef) hg))) ?_
 refine JU 5 20 rfl rfl rfl (fun hg => (ZZ (ZU (u := undef) hg) rfl)) ?_
 refine ZI 2 17 rfl rfl rfl (fun hg => (Jq (u := undef) (ZU (u := undef) hg) (gand (u := undef) hg))) ?_
 refine Rr (JP (u := undef) rfl rfl) ?_
 refine Qg ?_
 refine ZG rfl (fun hc2 => ?_) (fun hc2 => ?_)
 ·refine QH (Qc ?_)
  refine Rr Zi ?_
  refine Qg (ZJ ?_)
  refine ⟨_, ZF rfl rfl, ?_⟩
  refine ⟨congrArg (Value.int .i64) ?_, hX⟩
  all_goals (rw [checkS, if_neg (by rw [hc1]; simp), if_pos (chk_r hl12 ▸ hc2)])
 refine ZH (QH (Qc ?_))
 refine Rr Zi ?_
 refine Qg (ZJ ?_)
 refine ⟨_, ZF rfl rfl, ?_⟩
 refine ⟨congrArg (Value.int .i64) ?_, hX⟩
 all_goals (rw [checkS, if_neg (by rw [hc1]; simp), if_neg (by rw [chk_r hl12, hc2]; simp)])

theorem rcmpt_ok (β : Prop) (w : World) (a : Str) (ha : a.length ≤ 1000000) (b : Str) (hb : b.length ≤ 1000000) : Ok Tryz.prog 161 #[str a, str b] w fun v w' => v = .int .i64 (cmpS a b) ∧ Ext β w w' := by
 refine ZQ 11 func161 rfl rfl rfl ?_
 have hX : Ext β w w := Bel.refl _ _
 refine QH (Qc ?_)
 refine Rr Zi ?_
 refine Qg (QH (QH (Qc ?_)))
 refine Rr (Zt (v := str _) rfl) ?_
 refine Rr (Zt (v := str _) rfl) ?_
 refine Rr (o_slss rfl rfl) ?_
 refine Qg ?_
 refine ZG rfl (fun hc1 => ?_) (fun hc1 => ?_)
 ·refine QH (Qc ?_)
  refine Rr Zi ?_
  refine Qg (ZJ ?_)
  refine ⟨_, ZF rfl rfl, ?_⟩
  refine ⟨congrArg (Value.int .i64) ?_, hX⟩
  all_goals (rw [cmpS, if_pos hc1])
 refine ZH (QH (QH (Qc ?_)))
 refine Rr (Zt (v := str _) rfl) ?_
 refine Rr (Zt (v := str _) rfl) ?_
 refine Rr (o_sgtr rfl rfl) ?_
 refine Qg ?_
 refine ZG rfl (fun hc2 => ?_) (fun hc2 => ?_)
 ·refine QH (Qc ?_)
  refine Rr Zi ?_
  refine Qg (ZJ ?_)
  refine ⟨_, ZF rfl rfl, ?_⟩
  refine ⟨congrArg (Value.int .i64) ?_, hX⟩
  all_goals (rw [cmpS, if_neg (by rw [hc1]; simp), if_pos hc2])
 refine ZH (QH (Qc ?_))
 refine Rr Zi ?_
 refine Qg (ZJ ?_)
 refine ⟨_, ZF rfl rfl, ?_⟩
 refine ⟨congrArg (Value.int .i64) ?_, hX⟩
 all_goals (rw [cmpS, if_neg (by rw [hc1]; simp), if_neg (by rw [hc2]; simp)])

theorem rcmpp_ok (β : Prop) (w : World) (va : Value) (a : List Str) (ha : Rd encS 1 (Lt w.heap.size) w va a) (na : a.length ≤ 1000000) (oa : ∀ p ∈ a, (fun p => p.length ≤ 1000000) p) (vb : Value) (b : List Str) (hb : Rd encS 1 (Lt w.heap.size) w vb b) (nb : b.length ≤ 1000000) (ob : ∀ p ∈ b, (fun p => p.length ≤ 1000000) p) : Ok Tryz.prog 162 #[va, vb] w fun v w' => v = .int .i64 (cmpL a b) ∧ Ext β w w' := by
 obtain ⟨aa, ca, rfl, ha⟩ := ha; have ma := ha.len
 obtain ⟨ab, cb, rfl, hb⟩ := hb; have mb := hb.len
 refine ZQ 41 func162 rfl rfl rfl ?_
 have hX : Ext β w w := Bel.refl _ _
 refine QH (Qc ?_)
 refine Rr Zi ?_
 refine Qg (QH (QH (Qc ?_)))
 refine Rr Zi ?_
 refine Qg (ZM ?_)
 refine Jk (α := Nat) [(4, 30)] (fun k => [(5, .int .i64 (k : Int))]) (fun k w' => (k ≤ a.length ∧ k ≤ b.length ∧ cmpL a b = cmpL (a.drop k) (b.drop k)) ∧ Ext β w w') (fun k => a.length - k) 0 ⟨rfl, trivial⟩ ⟨⟨by omega, by omega, rfl⟩, Bel.refl _ _⟩ ?_
 rintro k fb3 w2 ⟨hk, hXL1⟩
 replace hX := hX.ex hXL1
 replace ha := ha.ext hXL1
 replace hb := hb.ext hXL1
 refine QH (QH (Qc ?_))
 refine Rr (mvI rfl) ?_
 refine Rr (mvS rfl) ?_
 refine Rr (Z0 underlying29 rfl) ?_
 refine Rr (Z5 rfl rfl) ?_
 refine Rr (mvB rfl) ?_
 refine ZI 4 11 rfl rfl rfl (fun hg => (mvI rfl)) ?_
 refine ZI 4 11 rfl rfl rfl (fun hg => (mvS rfl)) ?_
 refine ZI 4 11 rfl rfl rfl (fun hg => (Z0 underlying29 (ZU (u := undef) hg))) ?_
 refine ZI 4 11 rfl rfl rfl (fun hg => (Z5 (ZU (u := undef) hg) (ZU (u := undef) hg))) ?_
 refine Rr (Jq (u := undef) rfl rfl) ?_
 refine Qg ?_
 refine ZG rfl (fun hc1 => ?_) (fun hc1 => ?_)
 ·have hlt : k < a.length ∧ k < b.length := by simp at hc1; omega
  refine ZH (QH (ZM (QH ?_)))
  apply J3 (β := β) [peq _, peq _, peq _, peq _, peq _, peq _, peq _, peq _, peq _, peq _] 10 Jz (by kernel_rfl) rfl ⟨Zs _, Zs _, Zs _, Zs _, Zs _, Zs _, Zs _, Zs _, Zs _, Zs _, trivial⟩ ?ob4 ?fin4
  case ob4 =>
   refine ZA (fun w4 x5 => ?_) ?_
   ·refine Zv ?_
    exact ZT rfl (mvS rfl)
   refine ZA (fun w6 x7 => ?_) ?_
   ·refine Zv ?_
    exact ZT rfl (mvI rfl)
   refine ZA (fun w8 x9 => ?_) ?_
   ·have ha := ha.ext x9
    refine Qi (Qi (Zv ?_))
    exact ZT rfl (Js underlying29 sizeOf9 ha rfl rfl omg)
   refine ZA (fun w10 x11 => ?_) ?_
   ·have ha := ha.ext x11
    refine Qi (Zv ?_)
    exact ZT rfl (Yf isAgg9 ha rfl rfl (getElem?_of (by omega)) rfl)
   refine ZA (fun w12 x13 => ?_) ?_
   ·refine Zv ?_
    exact ZT rfl (mvS rfl)
   refine ZA (fun w14 x15 => ?_) ?_
   ·refine Zv ?_
    exact ZT rfl (mvI rfl)
   refine ZA (fun w16 x17 => ?_) ?_
   ·have hb := hb.ext x17
    refine Qi (Qi (Zv ?_))
    exact ZT rfl (Js underlying29 sizeOf9 hb rfl rfl omg)
   refine ZA (fun w18 x19 => ?_) ?_
   ·have hb := hb.ext x19
    refine Qi (Zv ?_)
    exact ZT rfl (Yf isAgg9 hb rfl rfl (getElem?_of (by omega)) rfl)
   refine ZA (fun w20 x21 => ?_) ?_
   ·refine Qi (Qi (Zv ?_))
    exact OpS_call rfl (ZW call161 rfl rfl) (rcmpt_ok (β) _ _ (oa _ (List.getElem_mem _)) _ (ob _ (List.getElem_mem _)))
   refine ZA (fun w22 x23 => ?_) ?_
   ·refine Qi (Qi (Qi (Qi (Qi (Qi (Qi (Qi (Qi ?_))))))))
    refine Qi (Qi (Zv ?_))
    exact ZT rfl (asI rfl)
   exact JG
  case fin4 =>
   intro w24 x25
   replace hX := hX.ex x25
   replace hXL1 := Bel.ex hXL1 x25
   refine Qi (Qi (Qi (Qi (Qi (Qi (Qi (Qi (Qi ?_))))))))
   refine Qi (Zv (Qg (QH (Qc ?_))))
   refine Rr (mvI rfl) ?_
   refine Rr (JD rfl rfl) ?_
   refine Qg ?_
   refine ZG rfl (fun hc2 => ?_) (fun hc2 => ?_)
   ·refine QH (Qc ?_)
    refine Rr (mvI rfl) ?_
    refine Rr (asI rfl) ?_
    refine Qg (ZJ ?_)
    refine ⟨_, ZF rfl rfl, ?_⟩
    refine ⟨congrArg (Value.int .i64) ?_, hX⟩
    all_goals (rw [hk.2.2, cmpL_ne (by omega) (by omega) (JN hc2)])
   refine ZH (Qc ?_)
   refine Rr (mvI rfl) ?_
   refine Rr (Z1 rfl rfl (by unfold I64; omega)) ?_
   refine Rr (asI rfl) ?_
   refine Qg ?_
   refine ⟨k + 1, ⟨sT, trivial⟩, oT, ⟨?_, hXL1⟩, ?_⟩
   ·exact ⟨by omega, by omega, by rw [hk.2.2, cmpL_step (by omega) (by omega) (JO hc2)]⟩
   ·omega
 have hge : ¬ (k < a.length ∧ k < b.length) := by simp at hc1; omega
 refine Z4 (ZX (QH (QH (Qc ?_))))
 refine Rr (mvS rfl) ?_
 refine Rr (Z0 underlying29 rfl) ?_
 refine Rr (mvS rfl) ?_
 refine Rr (Z0 underlying29 rfl) ?_
 refine Rr (Z5 rfl rfl) ?_
 refine Qg ?_
 refine ZG rfl (fun hc3 => ?_) (fun hc3 => ?_)
 ·refine QH (Qc ?_)
  refine Rr Zi ?_
  refine Qg (ZJ ?_)
  refine ⟨_, ZF rfl rfl, ?_⟩
  refine ⟨congrArg (Value.int .i64) ?_, hX⟩
  all_goals (rw [hk.2.2, cmpL_short (by simp at hc3; omega) (by simp at hc3; omega)])
 refine ZH (QH (QH (Qc ?_)))
 refine Rr (mvS rfl) ?_
 refine Rr (Z0 underlying29 rfl) ?_
 refine Rr (mvS rfl) ?_
 refine Rr (Z0 underlying29 rfl) ?_
 refine Rr (JY rfl rfl) ?_
 refine Qg ?_
 refine ZG rfl (fun hc4 => ?_) (fun hc4 => ?_)
 ·refine QH (Qc ?_)
  refine Rr Zi ?_
  refine Qg (ZJ ?_)
  refine ⟨_, ZF rfl rfl, ?_⟩
  refine ⟨congrArg (Value.int .i64) ?_, hX⟩
  all_goals (rw [hk.2.2, cmpL_long (by simp at hc3 hc4; omega) (by simp at hc3 hc4; omega)])
 refine ZH (QH (Qc ?_))
 refine Rr Zi ?_
 refine Qg (ZJ ?_)
 refine ⟨_, ZF rfl rfl, ?_⟩
 refine ⟨congrArg (Value.int .i64) ?_, hX⟩
 all_goals (rw [hk.2.2, cmpL_both (by simp at hc3 hc4; omega) (by simp at hc3 hc4; omega)])

theorem rcompare_ok (w : World) (x : Perm) (hx : x.ok) (y : Perm) (hy : y.ok) : Ok Tryz.prog 127 #[.agg (encP x).toArray, .agg (encP y).toArray] w fun v w' => v = .int .i64 (cmpM x y) ∧ Ext False w w' := by
 have hxa := hx.1; have hxp := hx.2; have hya := hy.1; have hyp := hy.2
 refine ZQ 52 func127 rfl rfl rfl ?_
 have hX := xRf w
 refine QH (Qc ?_)
 refine Z2 rfl (JB (v := .agg _) rfl) ?_
 intro b2 w1 x2 hge2 hb2
 change Box _ _ _ (encP _) at hb2
 replace hX := hX.ex x2
 refine Z2 rfl (JB (v := .agg _) rfl) ?_
 intro b3 w3 x4 hge3 hb3
 change Box _ _ _ (encP _) at hb3
 replace hX := hX.ex x4
 replace hb2 := hb2.ext x4
 refine Rr Zi ?_
 refine Qg (QH (Qc ?_))
 refine Rr (ZN underlying42 rfl sizeOf9 rfl) ?_
 refine Rr (ZB isAgg9 rfl (hb2.at.get 0 rfl)) ?_
 refine Rr (ZN underlying42 rfl sizeOf9 rfl) ?_
 refine Rr (ZB isAgg9 rfl (hb3.at.get 0 rfl)) ?_
 refine ZC rfl (ZW call161 rfl rfl) (Ok.mono (rcmpt_ok (False) _ _ (by first | assumption | omega | (simp; done) | (simp; omega) | (simp at *; omega)) _ (by first | assumption | omega | (simp; done) | (simp; omega) | (simp at *; omega))) ?_)
 rintro _ w5 ⟨rfl, x6⟩
 replace hX := hX.ex x6
 replace hb2 := hb2.ext x6
 replace hb3 := hb3.ext x6
 refine Rr (asI rfl) ?_
 refine Qg (QH (QH (Qc ?_)))
 refine Rr (mvI rfl) ?_
 refine Rr (JD rfl rfl) ?_
 refine Qg ?_
 refine ZG rfl (fun hc1 => ?_) (fun hc1 => ?_)
 ·refine QH (Qc ?_)
  refine Rr (mvI rfl) ?_
  refine Rr (asI rfl) ?_
  refine Qg (ZJ ?_)
  refine ⟨_, ZF rfl rfl, ?_⟩
  refine ⟨congrArg (Value.int .i64) ?_, hX⟩
  all_goals (rw [cmpM_r1 hc1])
 refine ZH (QH (Qc ?_))
 refine Rr (ZN underlying42 rfl sizeOf9 rfl) ?_
 refine Rr (ZB isAgg9 rfl (hb2.at.get 1 rfl)) ?_
 refine ZC rfl (ZK call107 rfl) (Ok.mono (rsplit_ok _ _ (by first | assumption | omega | (simp; done) | (simp; omega) | (simp at *; omega))) ?_)
 rintro _ w7 ⟨a21, c21, l21, rfl, hs21, hl21, x8⟩
 replace hX := hX.ex x8
 replace hb2 := hb2.ext x8
 replace hb3 := hb3.ext x8
 refine Rr (Zt (v := .tuple _) rfl) ?_
 refine Rr (ZS rfl rfl) ?_
 refine Rr (ZS rfl rfl) ?_
 refine Rr (asS rfl) ?_
 refine Rr (asB rfl) ?_
 refine Qg (QH (Qc ?_))
 refine Rr (ZN underlying42 rfl sizeOf9 rfl) ?_
 refine Rr (ZB isAgg9 rfl (hb3.at.get 1 rfl)) ?_
 refine ZC rfl (ZK call107 rfl) (Ok.mono (rsplit_ok _ _ (by first | assumption | omega | (simp; done) | (simp; omega) | (simp at *; omega))) ?_)
 rintro _ w9 ⟨a27, c27, l27, rfl, hs27, hl27, x10⟩
 replace hX := hX.ex x10
 replace hb2 := hb2.ext x10
 replace hb3 := hb3.ext x10
 replace hs21 := hs21.ext x10
 refine Rr (Zt (v := .tuple _) rfl) ?_
 refine Rr (ZS rfl rfl) ?_
 refine Rr (ZS rfl rfl) ?_
 refine Rr (asS rfl) ?_
 refine Rr (asB rfl) ?_
 refine Qg (QH (QH (Qc ?_)))
 refine Rr (mvB rfl) ?_
 refine Rr (mvB rfl) ?_
 refine ZI 1 31 rfl rfl rfl (fun hg => (mvB rfl)) ?_
 refine Rr (Jq (u := undef) rfl rfl) ?_
 refine Qg ?_
 refine ZG rfl (fun hc2 => ?_) (fun hc2 => ?_)
 ·obtain ⟨ho1, ho2⟩ := Bool.and_eq_true_iff.1 hc2; obtain rfl := hl21 ho1; obtain rfl := hl27 ho2; have hq := cmpQ_yes hc2
  refine Qc ?_
  refine Rr (mvS rfl) ?_
  refine Rr (mvS rfl) ?_
  refine ZC rfl (ZW call162 rfl rfl) (Ok.mono (rcmpp_ok (False) _ _ _ hs21.trd (by have := splitL_len x.path; omega) (fun p hp => Nat.le_trans (splitL_mem hp) (by omega)) _ _ hs27.trd (by have := splitL_len y.path; omega) (fun p hp => Nat.le_trans (splitL_mem hp) (by omega))) ?_)
  rintro _ w11 ⟨rfl, x12⟩
  replace hX := hX.ex x12
  replace hb2 := hb2.ext x12
  replace hb3 := hb3.ext x12
  refine Rr (asI rfl) ?_
  refine Qg (QH (QH (Qc ?_)))
  refine Rr (mvI rfl) ?_
  refine Rr (JD rfl rfl) ?_
  refine Qg ?_
  refine ZG rfl (fun hc3 => ?_) (fun hc3 => ?_)
  ·refine QH (Qc ?_)
   refine Rr (mvI rfl) ?_
   refine Rr (asI rfl) ?_
   refine Qg (ZJ ?_)
   refine ⟨_, ZF rfl rfl, ?_⟩
   refine ⟨congrArg (Value.int .i64) ?_, hX⟩
   all_goals (rw [cmpM_a hc1 hq hc3])
  refine ZH (QH (QH (Qc ?_)))
  refine Rr (ZN underlying42 rfl sizeOf4 rfl) ?_
  refine Rr (ZB isAgg4 rfl (hb2.at.get 2 rfl)) ?_
  refine Rr (ZN underlying42 rfl sizeOf4 rfl) ?_
  refine Rr (ZB isAgg4 rfl (hb3.at.get 2 rfl)) ?_
  refine Rr (o_beql underlying4 rfl rfl) ?_
  refine Qg ?_
  refine ZG rfl (fun hc4 => ?_) (fun hc4 => ?_)
  ·refine QH (Qc ?_)
   refine Rr Zi ?_
   refine Qg (ZJ ?_)
   refine ⟨_, ZF rfl rfl, ?_⟩
   refine ⟨congrArg (Value.int .i64) ?_, hX⟩
   all_goals (rw [cmpM_b hc1 hq hc3 hc4])
  refine ZH (QH (QH (Qc ?_)))
  refine Rr (ZN underlying42 rfl sizeOf4 rfl) ?_
  refine Rr (ZB isAgg4 rfl (hb3.at.get 2 rfl)) ?_
  refine Qg ?_
  refine ZG rfl (fun hc5 => ?_) (fun hc5 => ?_)
  ·refine QH (Qc ?_)
   refine Rr Zi ?_
   refine Qg (ZJ ?_)
   refine ⟨_, ZF rfl rfl, ?_⟩
   refine ⟨congrArg (Value.int .i64) ?_, hX⟩
   all_goals (rw [cmpM_c hc1 hq hc3 hc4 hc5])
  refine ZH (QH (Qc ?_))
  refine Rr Zi ?_
  refine Qg (ZJ ?_)
  refine ⟨_, ZF rfl rfl, ?_⟩
  refine ⟨congrArg (Value.int .i64) ?_, hX⟩
  all_goals (rw [cmpM_d hc1 hq hc3 hc4 hc5])
 have hq := cmpQ_no hc2
 refine Qc ?_
 refine Rr (ZN underlying42 rfl sizeOf9 rfl) ?_
 refine Rr (ZB isAgg9 rfl (hb2.at.get 1 rfl)) ?_
 refine Rr (ZN underlying42 rfl sizeOf9 rfl) ?_
 refine Rr (ZB isAgg9 rfl (hb3.at.get 1 rfl)) ?_
 refine ZC rfl (ZW call161 rfl rfl) (Ok.mono (rcmpt_ok (False) _ _ (by first | assumption | omega | (simp; done) | (simp; omega) | (simp at *; omega)) _ (by first | assumption | omega | (simp; done) | (simp; omega) | (simp at *; omega))) ?_)
 rintro _ w13 ⟨rfl, x14⟩
 replace hX := hX.ex x14
 replace hb2 := hb2.ext x14
 replace hb3 := hb3.ext x14
 refine Rr (asI rfl) ?_
 refine Qg (QH (QH (Qc ?_)))
 refine Rr (mvI rfl) ?_
 refine Rr (JD rfl rfl) ?_
 refine Qg ?_
 refine ZG rfl (fun hc6 => ?_) (fun hc6 => ?_)
 ·refine QH (Qc ?_)
  refine Rr (mvI rfl) ?_
  refine Rr (asI rfl) ?_
  refine Qg (ZJ ?_)
  refine ⟨_, ZF rfl rfl, ?_⟩
  refine ⟨congrArg (Value.int .i64) ?_, hX⟩
  all_goals (rw [cmpM_a hc1 hq hc6])
 refine ZH (QH (QH (Qc ?_)))
 refine Rr (ZN underlying42 rfl sizeOf4 rfl) ?_
 refine Rr (ZB isAgg4 rfl (hb2.at.get 2 rfl)) ?_
 refine Rr (ZN underlying42 rfl sizeOf4 rfl) ?_
 refine Rr (ZB isAgg4 rfl (hb3.at.get 2 rfl)) ?_
 refine Rr (o_beql underlying4 rfl rfl) ?_
 refine Qg ?_
 refine ZG rfl (fun hc7 => ?_) (fun hc7 => ?_)
 ·refine QH (Qc ?_)
  refine Rr Zi ?_
  refine Qg (ZJ ?_)
  refine ⟨_, ZF rfl rfl, ?_⟩
  refine ⟨congrArg (Value.int .i64) ?_, hX⟩
  all_goals (rw [cmpM_b hc1 hq hc6 hc7])
 refine ZH (QH (QH (Qc ?_)))
 refine Rr (ZN underlying42 rfl sizeOf4 rfl) ?_
 refine Rr (ZB isAgg4 rfl (hb3.at.get 2 rfl)) ?_
 refine Qg ?_
 refine ZG rfl (fun hc8 => ?_) (fun hc8 => ?_)
 ·refine QH (Qc ?_)
  refine Rr Zi ?_
  refine Qg (ZJ ?_)
  refine ⟨_, ZF rfl rfl, ?_⟩
  refine ⟨congrArg (Value.int .i64) ?_, hX⟩
  all_goals (rw [cmpM_c hc1 hq hc6 hc7 hc8])
 refine ZH (QH (Qc ?_))
 refine Rr Zi ?_
 refine Qg (ZJ ?_)
 refine ⟨_, ZF rfl rfl, ?_⟩
 refine ⟨congrArg (Value.int .i64) ?_, hX⟩
 all_goals (rw [cmpM_d hc1 hq hc6 hc7 hc8])

