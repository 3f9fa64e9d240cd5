/- Walks: what functions return. -/
import Derived.Test.YtgmpgfokblehdaaGreatDoorWref11a
import Derived.Test.YtgmpgfokblehdaaGreatDoorOwn3
set_option linter.unusedVariables false
set_option linter.unusedSimpArgs false
set_option linter.unnecessarySimpa false
namespace Go.Proofs.YtgmpgfokblehdaaGreatDoor
open Go Go.Lx Go.RowKit Tryz
set_option maxRecDepth 100000
theorem rcheck_ok (w : World) (x : Perm) (hx : x.ok) : Ok Tryz.prog 83 #[.agg (encP x).toArray] w fun v w' => v = .int .i64 (checkS x) ∧ Ext False w w' := by
 have hxa := hx.1; have hxp := hx.2
 refine Qv 26 func83 rfl rfl rfl ?_
 have hX := xRf w
 refine Qf (Qb (QH rfl (QX (v := .agg _) rfl) ?_))
 intro b1 w1 x2 hge1 hb1
 replace hX := hX.ex x2
 refine Rr Qj (Qc (Qf (Qf (Qb (Rr (Qy underlying78 rfl sizeOf9 rfl) (Rr (Qm isAgg9 rfl (hb1.at.get 0 rfl)) (Qo rfl (QD call141 rfl) (Ok.mono (rname_ok (False) _ (by omega) _) ?_))))))))
 rintro _ w3 ⟨rfl, x4⟩
 replace hX := hX.ex x4
 replace hb1 := hb1.ext x4
 refine Rr (Zp rfl) (Qc (Qw rfl (fun hc1 => ?_) (fun hc1 => ?_)))
 ·refine Qf (Qb (Rr Qj (Qc (Qu ⟨_, Qr rfl rfl, ⟨congrArg (Value.int .i64) ?_, hX⟩⟩))))
  all_goals (rw [checkS, if_pos hc1])
 refine Qp (Qf (Qb (Rr (Qy underlying78 rfl sizeOf9 rfl) (Rr (Qm isAgg9 rfl (hb1.at.get 1 rfl)) ?_))))
 refine Qo rfl (QD call142 rfl) (Ok.mono (rsplit_ok _ _ (by first | assumption | omega | (simp; done) | (simp; omega) | (simp at *; omega))) ?_)
 rintro _ w5 ⟨a12, c12, l12, rfl, hs12, hl12, x6⟩
 replace hX := hX.ex x6
 replace hb1 := hb1.ext x6
 refine Rr (QG (v := .tuple _) rfl) (Rr (QE rfl rfl) (Rr (QE rfl rfl) (Rr (asS rfl) (Rr (asB rfl) (Qc (Qf (Qf (Qb (Rr (mvB rfl) (Rr (Zp rfl) (Rr (mvB rfl) (Qs 2 17 rfl rfl rfl (fun hg => Qy underlying78 rfl sizeOf4 rfl) (Qs 2 17 rfl rfl rfl (fun hg => Qm isAgg4 (QK (u := undef) hg) (hb1.at.get 2 rfl)) (Qs 2 17 rfl rfl rfl (fun hg => QG (v := .bool _) (QK (u := undef) hg)) (ZR 5 20 rfl rfl rfl (fun hg => mvS rfl) (ZR 5 20 rfl rfl rfl (fun hg => QC underlying23 (QK (u := undef) hg)) (ZR 5 20 rfl rfl rfl (fun hg => Zu (QK (u := undef) hg) rfl) (Qs 2 17 rfl rfl rfl (fun hg => Zt (u := undef) (QK (u := undef) hg) (gand (u := undef) hg)) (Rr (ZS (u := undef) rfl rfl) (Qc (Qw rfl (fun hc2 => ?_) (fun hc2 => ?_))))))))))))))))))))))
 ·refine Qf (Qb (Rr Qj (Qc (Qu ⟨_, Qr rfl rfl, ⟨congrArg (Value.int .i64) ?_, hX⟩⟩))))
  all_goals (rw [checkS, if_neg (by rw [hc1]; simp), if_pos (chk_r hl12 ▸ hc2)])
 refine Qp (Qf (Qb (Rr Qj (Qc (Qu ⟨_, Qr rfl rfl, ⟨congrArg (Value.int .i64) ?_, hX⟩⟩)))))
 all_goals (rw [checkS, if_neg (by rw [hc1]; simp), if_neg (by rw [chk_r hl12, hc2]; simp)])
theorem rcmpt_ok (β : Prop) (w : World) (a : Str) (ha : a.length ≤ 1100000) (b : Str) (hb : b.length ≤ 1100000) : Ok Tryz.prog 196 #[str a, str b] w fun v w' => v = .int .i64 (cmpS a b) ∧ Ext β w w' := by
 refine Qv 11 func196 rfl rfl rfl ?_
 have hX : Ext β w w := Bel.refl _ _
 refine Qf (Qb (Rr Qj (Qc (Qf (Qf (Qb (Rr (mvT rfl) (Rr (mvT rfl) (Rr (o_slss rfl rfl) (Qc (Qw rfl (fun hc1 => ?_) (fun hc1 => ?_))))))))))))
 ·refine Qf (Qb (Rr Qj (Qc (Qu ⟨_, Qr rfl rfl, ⟨congrArg (Value.int .i64) ?_, hX⟩⟩))))
  all_goals (rw [cmpS, if_pos hc1])
 refine Qp (Qf (Qf (Qb (Rr (mvT rfl) (Rr (mvT rfl) (Rr (o_sgtr rfl rfl) (Qc (Qw rfl (fun hc2 => ?_) (fun hc2 => ?_)))))))))
 ·refine Qf (Qb (Rr Qj (Qc (Qu ⟨_, Qr rfl rfl, ⟨congrArg (Value.int .i64) ?_, hX⟩⟩))))
  all_goals (rw [cmpS, if_neg (by rw [hc1]; simp), if_pos hc2])
 refine Qp (Qf (Qb (Rr Qj (Qc (Qu ⟨_, Qr rfl rfl, ⟨congrArg (Value.int .i64) ?_, hX⟩⟩)))))
 all_goals (rw [cmpS, if_neg (by rw [hc1]; simp), if_neg (by rw [hc2]; simp)])
theorem rcmpp_ok (β : Prop) (w : World) (va : Value) (a : List Str) (ha : Rd encS 1 (Lt w.heap.size) w va a) (na : a.length ≤ 1100000) (oa : ∀ p ∈ a, (fun p => p.length ≤ 1100000) p) (vb : Value) (b : List Str) (hb : Rd encS 1 (Lt w.heap.size) w vb b) (nb : b.length ≤ 1100000) (ob : ∀ p ∈ b, (fun p => p.length ≤ 1100000) p) : Ok Tryz.prog 197 #[va, vb] w fun v w' => v = .int .i64 (cmpL a b) ∧ Ext β w w' := by
 obtain ⟨aa, ca, rfl, ha⟩ := ha; have ma := ha.len
 obtain ⟨ab, cb, rfl, hb⟩ := hb; have mb := hb.len
 refine Qv 41 func197 rfl rfl rfl ?_
 have hX : Ext β w w := Bel.refl _ _
 refine Qf (Qb (Rr Qj (Qc (Qf (Qf (Qb (Rr Qj (Qc (Qt ?_)))))))))
 refine QU (α := Nat) [(4, 30)] (fun k => [(5, .int .i64 (k : Int))]) (fun k w' => (k ≤ a.length ∧ k ≤ b.length ∧ cmpL a b = cmpL (a.drop k) (b.drop k)) ∧ Ext β w w') (fun k => a.length - k) 0 ⟨rfl, trivial⟩ ⟨⟨by omega, by omega, rfl⟩, Bel.refl _ _⟩ ?_
 rintro k fb3 w2 ⟨hk, hXL1⟩
 replace hX := hX.ex hXL1
 replace ha := ha.ext hXL1
 replace hb := hb.ext hXL1
 refine Qf (Qf (Qb (Rr (mvI rfl) (Rr (mvS rfl) (Rr (QC underlying23 rfl) (Rr (QM rfl rfl) (Rr (mvB rfl) (Qs 4 11 rfl rfl rfl (fun hg => mvI rfl) (Qs 4 11 rfl rfl rfl (fun hg => mvS rfl) (Qs 4 11 rfl rfl rfl (fun hg => QC underlying23 (QK (u := undef) hg)) (Qs 4 11 rfl rfl rfl (fun hg => QM (QK (u := undef) hg) (QK (u := undef) hg)) (Rr (Zt (u := undef) rfl rfl) (Qc (Qw rfl (fun hc1 => ?_) (fun hc1 => ?_)))))))))))))))
 ·have hlt : k < a.length ∧ k < b.length := by simp at hc1; omega
  refine Qp (Qf (Qt (Qf ?_)))
  apply Q3 (β := β) [peq _, peq _, peq _, peq _, peq _, peq _, peq _, peq _, peq _, peq _] 10 QV (by kernel_rfl) rfl ⟨Qd _, Qd _, Qd _, Qd _, Qd _, Qd _, Qd _, Qd _, Qd _, Qd _, trivial⟩ ?ob4 ?fin4
  case ob4 =>
   refine Qg (fun _ _ => Qe (Qn rfl (mvS rfl))) (Qg (fun _ _ => Qe (Qn rfl (mvI rfl))) (Qg (fun w8 x9 => ?_) ?_))
   ·have ha := ha.ext x9
    exact Qa (Qa (Qe (Qn rfl (QW underlying23 sizeOf9 ha rfl rfl omg))))
   refine Qg (fun w10 x11 => ?_) ?_
   ·have ha := ha.ext x11
    exact Qa (Qe (Qn rfl (Zx isAgg9 ha rfl rfl (getElem?_of (by omega)) rfl)))
   refine Qg (fun _ _ => Qe (Qn rfl (mvS rfl))) (Qg (fun _ _ => Qe (Qn rfl (mvI rfl))) (Qg (fun w16 x17 => ?_) ?_))
   ·have hb := hb.ext x17
    exact Qa (Qa (Qe (Qn rfl (QW underlying23 sizeOf9 hb rfl rfl omg))))
   refine Qg (fun w18 x19 => ?_) ?_
   ·have hb := hb.ext x19
    exact Qa (Qe (Qn rfl (Zx isAgg9 hb rfl rfl (getElem?_of (by omega)) rfl)))
   exact Qg (fun _ _ => Qa (Qa (Qe (Zj rfl (QB call196 rfl rfl) (rcmpt_ok (β) _ _ (oa _ (List.getElem_mem _)) _ (ob _ (List.getElem_mem _))))))) (Qg (fun _ _ => Qa (Qa (Qa (Qa (Qa (Qa (Qa (Qa (Qa (Qa (Qa (Qe (Qn rfl (asI rfl)))))))))))))) QR)
  case fin4 =>
   intro w24 x25
   replace hX := hX.ex x25
   replace hXL1 := Bel.ex hXL1 x25
   refine Qa (Qa (Qa (Qa (Qa (Qa (Qa (Qa (Qa (Qa (Qe (Qc (Qf (Qb (Rr (mvI rfl) (Rr (Zv rfl rfl) (Qc (Qw rfl (fun hc2 => ?_) (fun hc2 => ?_))))))))))))))))))
   ·refine Qf (Qb (Rr (mvI rfl) (Rr (asI rfl) (Qc (Qu ⟨_, Qr rfl rfl, ⟨congrArg (Value.int .i64) ?_, hX⟩⟩)))))
    all_goals (rw [hk.2.2, cmpL_ne (by omega) (by omega) (Zm hc2)])
   refine Qp (Qb (Rr (mvI rfl) ?_))
   refine Rr (QO rfl rfl (by unfold I64; omega)) ?_
   refine Rr (asI rfl) (Qc ⟨k + 1, ⟨sT, trivial⟩, oT, ⟨?_, hXL1⟩, ?_⟩)
   ·exact ⟨by omega, by omega, by rw [hk.2.2, cmpL_step (by omega) (by omega) (Zo hc2)]⟩
   ·omega
 have hge : ¬ (k < a.length ∧ k < b.length) := by simp at hc1; omega
 refine QN (QI (Qf (Qf (Qb (Rr (mvS rfl) (Rr (QC underlying23 rfl) (Rr (mvS rfl) (Rr (QC underlying23 rfl) (Rr (QM rfl rfl) (Qc (Qw rfl (fun hc3 => ?_) (fun hc3 => ?_))))))))))))
 ·refine Qf (Qb (Rr Qj (Qc (Qu ⟨_, Qr rfl rfl, ⟨congrArg (Value.int .i64) ?_, hX⟩⟩))))
  all_goals (rw [hk.2.2, cmpL_short (by simp at hc3; omega) (by simp at hc3; omega)])
 refine Qp (Qf (Qf (Qb (Rr (mvS rfl) (Rr (QC underlying23 rfl) (Rr (mvS rfl) (Rr (QC underlying23 rfl) (Rr (ZM rfl rfl) (Qc (Qw rfl (fun hc4 => ?_) (fun hc4 => ?_)))))))))))
 ·refine Qf (Qb (Rr Qj (Qc (Qu ⟨_, Qr rfl rfl, ⟨congrArg (Value.int .i64) ?_, hX⟩⟩))))
  all_goals (rw [hk.2.2, cmpL_long (by simp at hc3 hc4; omega) (by simp at hc3 hc4; omega)])
 refine Qp (Qf (Qb (Rr Qj (Qc (Qu ⟨_, Qr rfl rfl, ⟨congrArg (Value.int .i64) ?_, hX⟩⟩)))))
 all_goals (rw [hk.2.2, cmpL_both (by simp at hc3 hc4; omega) (by simp at hc3 hc4; omega)])
theorem rcompare_ok (w : World) (x : Perm) (hx : x.ok) (y : Perm) (hy : y.ok) : Ok Tryz.prog 143 #[.agg (encP x).toArray, .agg (encP y).toArray] w fun v w' => v = .int .i64 (cmpM x y) ∧ Ext False w w' := by
 have hxa := hx.1; have hxp := hx.2; have hya := hy.1; have hyp := hy.2
 refine Qv 52 func143 rfl rfl rfl ?_
 have hX := xRf w
 refine Qf (Qb (QH rfl (QX (v := .agg _) rfl) ?_))
 intro b2 w1 x2 hge2 hb2
 replace hX := hX.ex x2
 refine QH rfl (QX (v := .agg _) rfl) ?_
 intro b3 w3 x4 hge3 hb3
 replace hX := hX.ex x4
 replace hb2 := hb2.ext x4
 refine Rr Qj (Qc (Qf (Qb (Rr (Qy underlying78 rfl sizeOf9 rfl) (Rr (Qm isAgg9 rfl (hb2.at.get 0 rfl)) (Rr (Qy underlying78 rfl sizeOf9 rfl) (Rr (Qm isAgg9 rfl (hb3.at.get 0 rfl)) ?_)))))))
 refine Qo rfl (QB call196 rfl rfl) (Ok.mono (rcmpt_ok (False) _ _ (by first | assumption | omega | (simp; done) | (simp; omega) | (simp at *; omega)) _ (by first | assumption | omega | (simp; done) | (simp; omega) | (simp at *; omega))) ?_)
 rintro _ w5 ⟨rfl, x6⟩
 replace hX := hX.ex x6
 replace hb2 := hb2.ext x6
 replace hb3 := hb3.ext x6
 refine Rr (asI rfl) (Qc (Qf (Qf (Qb (Rr (mvI rfl) (Rr (Zv rfl rfl) (Qc (Qw rfl (fun hc1 => ?_) (fun hc1 => ?_)))))))))
 ·refine Qf (Qb (Rr (mvI rfl) (Rr (asI rfl) (Qc (Qu ⟨_, Qr rfl rfl, ⟨congrArg (Value.int .i64) ?_, hX⟩⟩)))))
  all_goals (rw [cmpM_r1 hc1])
 refine Qp (Qf (Qb (Rr (Qy underlying78 rfl sizeOf9 rfl) (Rr (Qm isAgg9 rfl (hb2.at.get 1 rfl)) ?_))))
 refine Qo rfl (QD call142 rfl) (Ok.mono (rsplit_ok _ _ (by first | assumption | omega | (simp; done) | (simp; omega) | (simp at *; omega))) ?_)
 rintro _ w7 ⟨a21, c21, l21, rfl, hs21, hl21, x8⟩
 replace hX := hX.ex x8
 replace hb2 := hb2.ext x8
 replace hb3 := hb3.ext x8
 refine Rr (QG (v := .tuple _) rfl) (Rr (QE rfl rfl) (Rr (QE rfl rfl) (Rr (asS rfl) (Rr (asB rfl) (Qc (Qf (Qb (Rr (Qy underlying78 rfl sizeOf9 rfl) (Rr (Qm isAgg9 rfl (hb3.at.get 1 rfl)) ?_)))))))))
 refine Qo rfl (QD call142 rfl) (Ok.mono (rsplit_ok _ _ (by first | assumption | omega | (simp; done) | (simp; omega) | (simp at *; omega))) ?_)
 rintro _ w9 ⟨a27, c27, l27, rfl, hs27, hl27, x10⟩
 replace hX := hX.ex x10
 replace hb2 := hb2.ext x10
 replace hb3 := hb3.ext x10
 replace hs21 := hs21.ext x10
 refine Rr (QG (v := .tuple _) rfl) (Rr (QE rfl rfl) (Rr (QE rfl rfl) (Rr (asS rfl) (Rr (asB rfl) (Qc (Qf (Qf (Qb (Rr (mvB rfl) (Rr (mvB rfl) (Qs 1 31 rfl rfl rfl (fun hg => mvB rfl) (Rr (Zt (u := undef) rfl rfl) (Qc (Qw rfl (fun hc2 => ?_) (fun hc2 => ?_)))))))))))))))
 ·obtain ⟨ho1, ho2⟩ := Bool.and_eq_true_iff.1 hc2; obtain rfl := hl21 ho1; obtain rfl := hl27 ho2; have hq := cmpQ_yes hc2
  refine Qb (Rr (mvS rfl) (Rr (mvS rfl) ?_))
  refine Qo rfl (QB call197 rfl rfl) (Ok.mono (rcmpp_ok (False) _ _ _ hs21.trd (by have := JK x.path; omega) (fun p hp => Nat.le_trans (splitL_mem hp) (by omega)) _ _ hs27.trd (by have := JK y.path; omega) (fun p hp => Nat.le_trans (splitL_mem hp) (by omega))) ?_)
  rintro _ w11 ⟨rfl, x12⟩
  replace hX := hX.ex x12
  replace hb2 := hb2.ext x12
  replace hb3 := hb3.ext x12
  refine Rr (asI rfl) (Qc (Qf (Qf (Qb (Rr (mvI rfl) (Rr (Zv rfl rfl) (Qc (Qw rfl (fun hc3 => ?_) (fun hc3 => ?_)))))))))
  ·refine Qf (Qb (Rr (mvI rfl) (Rr (asI rfl) (Qc (Qu ⟨_, Qr rfl rfl, ⟨congrArg (Value.int .i64) ?_, hX⟩⟩)))))
   all_goals (rw [cmpM_a hc1 hq hc3])
  refine Qp (Qf (Qf (Qb (Rr (Qy underlying78 rfl sizeOf4 rfl) (Rr (Qm isAgg4 rfl (hb2.at.get 2 rfl)) (Rr (Qy underlying78 rfl sizeOf4 rfl) (Rr (Qm isAgg4 rfl (hb3.at.get 2 rfl)) (Rr (o_beql underlying4 rfl rfl) (Qc (Qw rfl (fun hc4 => ?_) (fun hc4 => ?_)))))))))))
  ·refine Qf (Qb (Rr Qj (Qc (Qu ⟨_, Qr rfl rfl, ⟨congrArg (Value.int .i64) ?_, hX⟩⟩))))
   all_goals (rw [cmpM_b hc1 hq hc3 hc4])
  refine Qp (Qf (Qf (Qb (Rr (Qy underlying78 rfl sizeOf4 rfl) (Rr (Qm isAgg4 rfl (hb3.at.get 2 rfl)) (Qc (Qw rfl (fun hc5 => ?_) (fun hc5 => ?_))))))))
  ·refine Qf (Qb (Rr Qj (Qc (Qu ⟨_, Qr rfl rfl, ⟨congrArg (Value.int .i64) ?_, hX⟩⟩))))
   all_goals (rw [cmpM_c hc1 hq hc3 hc4 hc5])
  refine Qp (Qf (Qb (Rr Qj (Qc (Qu ⟨_, Qr rfl rfl, ⟨congrArg (Value.int .i64) ?_, hX⟩⟩)))))
  all_goals (rw [cmpM_d hc1 hq hc3 hc4 hc5])
 have hq := cmpQ_no hc2
 refine Qb (Rr (Qy underlying78 rfl sizeOf9 rfl) (Rr (Qm isAgg9 rfl (hb2.at.get 1 rfl)) (Rr (Qy underlying78 rfl sizeOf9 rfl) (Rr (Qm isAgg9 rfl (hb3.at.get 1 rfl)) ?_))))
 refine Qo rfl (QB call196 rfl rfl) (Ok.mono (rcmpt_ok (False) _ _ (by first | assumption | omega | (simp; done) | (simp; omega) | (simp at *; omega)) _ (by first | assumption | omega | (simp; done) | (simp; omega) | (simp at *; omega))) ?_)
 rintro _ w13 ⟨rfl, x14⟩
 replace hX := hX.ex x14
 replace hb2 := hb2.ext x14
 replace hb3 := hb3.ext x14
 refine Rr (asI rfl) (Qc (Qf (Qf (Qb (Rr (mvI rfl) (Rr (Zv rfl rfl) (Qc (Qw rfl (fun hc6 => ?_) (fun hc6 => ?_)))))))))
 ·refine Qf (Qb (Rr (mvI rfl) (Rr (asI rfl) (Qc (Qu ⟨_, Qr rfl rfl, ⟨congrArg (Value.int .i64) ?_, hX⟩⟩)))))
  all_goals (rw [cmpM_a hc1 hq hc6])
 refine Qp (Qf (Qf (Qb (Rr (Qy underlying78 rfl sizeOf4 rfl) (Rr (Qm isAgg4 rfl (hb2.at.get 2 rfl)) (Rr (Qy underlying78 rfl sizeOf4 rfl) (Rr (Qm isAgg4 rfl (hb3.at.get 2 rfl)) (Rr (o_beql underlying4 rfl rfl) (Qc (Qw rfl (fun hc7 => ?_) (fun hc7 => ?_)))))))))))
 ·refine Qf (Qb (Rr Qj (Qc (Qu ⟨_, Qr rfl rfl, ⟨congrArg (Value.int .i64) ?_, hX⟩⟩))))
  all_goals (rw [cmpM_b hc1 hq hc6 hc7])
 refine Qp (Qf (Qf (Qb (Rr (Qy underlying78 rfl sizeOf4 rfl) (Rr (Qm isAgg4 rfl (hb3.at.get 2 rfl)) (Qc (Qw rfl (fun hc8 => ?_) (fun hc8 => ?_))))))))
 ·refine Qf (Qb (Rr Qj (Qc (Qu ⟨_, Qr rfl rfl, ⟨congrArg (Value.int .i64) ?_, hX⟩⟩))))
  all_goals (rw [cmpM_c hc1 hq hc6 hc7 hc8])
 refine Qp (Qf (Qb (Rr Qj (Qc (Qu ⟨_, Qr rfl rfl, ⟨congrArg (Value.int .i64) ?_, hX⟩⟩)))))
 all_goals (rw [cmpM_d hc1 hq hc6 hc7 hc8])
