/- Walks: what functions return. -/
import Derived.Test.YtjnjalalkbamkaaGreatDoorWst6
set_option linter.unusedVariables false
set_option linter.unusedSimpArgs false
set_option linter.unnecessarySimpa false
namespace Go.Proofs.YtjnjalalkbamkaaGreatDoor
open Go Go.Lx Go.RowKit Tryz
set_option maxRecDepth 100000
def encFn (f : FuncId) : List Value := [.func (.func f) #[] #[]]
theorem encFn_ok : EncOk encFn 1 := ⟨by decide, fun _ => rfl, fun x u hu => by
 simp [encFn] at hu
 subst hu; rfl⟩
theorem el_fn : ElT Tryz.prog 195 194 1 8 .nilFunc := ⟨underlying195, ⟨Tryz.t194, by kernel_rfl, rfl, rfl, rfl⟩, rfl, by decide, by decide⟩
theorem fn_enter (k : Nat) (hk : k < 3) : ∀ args w, (callFunc (([108, 109, 110] : List FuncId).getD k 0) args).run Tryz.prog w = .ok (.enter (([108, 109, 110] : List FuncId).getD k 0) args) w := by
 match k, hk with
 | 0, _ => exact call108
 | 1, _ => exact call109
 | 2, _ => exact call110
theorem fn_ok (k : Nat) (hk : k < 3) (p : PtV) (n : Nat) (L : List Men) (w : World) (hp : PtIs w p n 2 L) (hm : OkN L) (hok : ∀ x ∈ L, x.u ≤ n ∧ hasW 6 x.r = true) : Ok Tryz.prog (([108, 109, 110] : List FuncId).getD k 0) #[.agg (ptC p).toArray] w fun v w' => v = .int .i64 0 ∧ Ext False w w' := by
 match k, hk with
 | 0, _ => exact ppeople_ok p n L w hp hm hok
 | 1, _ => exact pkinds_ok p n L w hp hm
 | 2, _ => exact plaws_ok p n L w hp hm
set_option maxHeartbeats 2000000 in
theorem pcheck_ok (p : PtV) (n : Nat) (L : List Men) (w : World) (hp : PtIs w p n 2 L) (hm : OkN L) (hok : ∀ x ∈ L, x.u ≤ n ∧ hasW 6 x.r = true) (hd : 0 ≤ p.day ∧ p.day ≤ 30000) : Ok Tryz.prog 77 #[.agg (ptC p).toArray] w fun v w' => v = .int .i64 0 ∧ Ext False w w' := by
 refine Qz 81 func77 rfl rfl rfl ?_
 have hX := xRf w
 refine Qe (Qc ?_)
 refine QJ rfl (Q4 (v := .agg _) rfl) ?_
 intro b1 w1 x2 hge1 hb1
 change Box _ _ _ (id _) at hb1
 replace hX := hX.ex x2
 replace hp := hp.ext x2
 refine Rr Qm ?_
 refine Qd (Qe (QB (Qe (Qc ?_))))
 refine Rr (Qx underlying91 rfl sizeOf83 rfl) ?_
 refine Rr (Qn isAgg83 rfl (hb1.at.get 1 rfl)) ?_
 refine Rr (o_peq underlying83 rfl rfl) ?_
 refine Rr (mvB rfl) ?_
 refine QF 3 10 rfl rfl ?_
 refine Rr (Qx underlying91 rfl sizeOf83 rfl) ?_
 refine QF 3 10 rfl rfl ?_
 refine Rr (Qn isAgg83 rfl (hb1.at.get 2 rfl)) ?_
 refine QF 3 10 rfl rfl ?_
 refine Rr (o_peq underlying83 rfl rfl) ?_
 refine Rr (Q3 (v := .bool _) rfl rfl) ?_
 refine Rr (mvB rfl) ?_
 refine QF 8 15 rfl rfl ?_
 refine Rr (Qx underlying91 rfl sizeOf84 rfl) ?_
 refine QF 8 15 rfl rfl ?_
 refine Rr (Qn isAgg84 rfl (hb1.at.get 4 rfl)) ?_
 refine QF 8 15 rfl rfl ?_
 refine Rr (o_peq underlying84 rfl rfl) ?_
 refine Rr (Q3 (v := .bool _) rfl rfl) ?_
 refine Rr (mvB rfl) ?_
 refine QF 13 20 rfl rfl ?_
 refine Rr (Qx underlying91 rfl sizeOf85 rfl) ?_
 refine QF 13 20 rfl rfl ?_
 refine Rr (Qn isAgg85 rfl (hb1.at.get 5 rfl)) ?_
 refine QF 13 20 rfl rfl ?_
 refine Rr (o_peq underlying85 rfl rfl) ?_
 refine Rr (Q3 (v := .bool _) rfl rfl) ?_
 refine Rr (mvB rfl) ?_
 refine QF 18 25 rfl rfl ?_
 refine Rr (Qx underlying91 rfl sizeOf86 rfl) ?_
 refine QF 18 25 rfl rfl ?_
 refine Rr (Qn isAgg86 rfl (hb1.at.get 6 rfl)) ?_
 refine QF 18 25 rfl rfl ?_
 refine Rr (o_peq underlying86 rfl rfl) ?_
 refine Rr (Q3 (v := .bool _) rfl rfl) ?_
 refine Rr (mvB rfl) ?_
 refine QF 23 30 rfl rfl ?_
 refine Rr (Qx underlying91 rfl sizeOf89 rfl) ?_
 refine QF 23 30 rfl rfl ?_
 refine Rr (Qn isAgg89 rfl (hb1.at.get 9 rfl)) ?_
 refine QF 23 30 rfl rfl ?_
 refine Rr (o_peq underlying89 rfl rfl) ?_
 refine Rr (Q3 (v := .bool _) rfl rfl) ?_
 refine Rr (asB rfl) ?_
 refine Qd ?_
 refine Qr rfl ?_
 refine Qe (Qc ?_)
 refine Rr (Qx underlying91 rfl sizeOf3 rfl) ?_
 refine Rr (Qn isAgg3 rfl (hb1.at.get 0 rfl)) ?_
 refine Rr (QQ rfl rfl) ?_
 refine Rr (mvB rfl) ?_
 refine QF 3 39 rfl (cvB (decide_eq_false (by omega))) ?_
 refine Rr (Qx underlying91 rfl sizeOf3 rfl) ?_
 refine QF 3 39 rfl (cvB (decide_eq_false (by omega))) ?_
 refine Rr (Qn isAgg3 rfl (hb1.at.get 0 rfl)) ?_
 refine QF 3 39 rfl (cvB (decide_eq_false (by omega))) ?_
 refine Rr (o_gtr rfl rfl) ?_
 refine Rr (Q3 (v := .bool _) (cvB (decide_eq_false (by omega))) rfl) ?_
 refine Rr (asB rfl) ?_
 refine Qd ?_
 refine Qr (cvB (decide_eq_false (by omega))) ?_
 refine Qe (Qc ?_)
 refine Rr (Qx underlying91 rfl sizeOf83 rfl) ?_
 refine Rr (Qn isAgg83 rfl (hb1.at.get 2 rfl)) ?_
 refine Qo rfl (QA call86 rfl) (Ok.mono (nlen_ok _ 2 _ hp.rs) ?_)
 rintro _ w3 ⟨rfl, x4⟩
 replace hX := hX.ex x4
 replace hp := hp.ext x4
 replace hb1 := hb1.ext x4
 refine Rr (o_gtr rfl rfl) ?_
 refine Rr (mvB rfl) ?_
 refine QF 4 49 rfl rfl ?_
 refine Rr (Qx underlying91 rfl sizeOf87 rfl) ?_
 refine QF 4 49 rfl rfl ?_
 refine Rr (Qn isAgg87 rfl (hb1.at.get 7 rfl)) ?_
 refine QF 4 49 rfl rfl ?_
 refine Rr (QK underlying87 rfl) ?_
 refine QF 4 49 rfl rfl ?_
 refine Rr (o_gtr rfl rfl) ?_
 refine Rr (Q3 (v := .bool _) rfl rfl) ?_
 refine Rr (mvB rfl) ?_
 refine QF 10 55 rfl rfl ?_
 refine Rr (Qx underlying91 rfl sizeOf88 rfl) ?_
 refine QF 10 55 rfl rfl ?_
 refine Rr (Qn isAgg88 rfl (hb1.at.get 8 rfl)) ?_
 refine QF 10 55 rfl rfl ?_
 refine Rr (QK underlying88 rfl) ?_
 refine QF 10 55 rfl rfl ?_
 refine Rr (o_gtr rfl rfl) ?_
 refine Rr (Q3 (v := .bool _) rfl rfl) ?_
 refine Rr (asB rfl) ?_
 refine Qd ?_
 refine Qr rfl ?_
 refine Qe ?_
 apply W_draw (β := False) [peq _, peq _, peq _, (postSV (fun _ => True) 6), peq _, peq _, peq _] 7 Q9 (by kernel_rfl) rfl ⟨Qf _, Qf _, Qf _, (postSV_stable _ _), Qf _, Qf _, Qf _, trivial⟩ ?ob7 ?fin7
 case ob7 =>
  refine Qh (fun w5 x6 => ?_) ?_
  ·refine Qg ?_
   exact Qt rfl (Qx underlying91 rfl sizeOf45 rfl)
  refine Qh (fun w7 x8 => ?_) ?_
  ·have hb1 := hb1.ext x8
   refine Qa (Qg ?_)
   exact Qt rfl (QO isAgg45 sizeOf45 rfl (hb1.at.sub 3 1) rfl)
  refine Qh (fun w9 x10 => ?_) ?_
  ·have hb1 := hb1.ext x10
   refine Qg ?_
   exact Qt rfl (QO isAgg91 sizeOf91 rfl hb1.at rfl)
  refine Qh (fun w11 x12 => ?_) ?_
  ·have hp := hp.ext x12
   refine Qa (Qg ?_)
   exact OpS_mem rfl (QA call107 rfl) ((proles_ok p _ hp.rs).mono (fun v w2 ⟨a, c, e, h, x⟩ => ⟨x, a, c, e, h.mono (fun _ _ _ => trivial)⟩))
  refine Qh (fun w13 x14 => ?_) ?_
  ·have hp := hp.ext x14
   refine Qa ?_
   refine bindP_mem (fun v65 hv65 => ?_)
   obtain ⟨a65, c65, rfl, hq65⟩ := hv65
   refine bindP_mem (fun v65 hv65 => ?_)
   obtain ⟨a65, c65, rfl, hq65⟩ := hv65
   refine Qg ?_
   exact OpS_call rfl (QM call82 rfl rfl) (show Ok _ _ _ _ (fun v w' => v = .bool (subW 0 6) ∧ Ext False _ w') from bwithin_ok _ ⟨p.aa, p.ca, 0⟩ (fun _ => True) hp.oa.set ⟨a65, c65, 6⟩ _ hq65)
  refine Qh (fun w15 x16 => ?_) ?_
  ·refine Qa (Qg ?_)
   exact Qt rfl (Q5 rfl)
  refine Qh (fun w17 x18 => ?_) ?_
  ·refine Qa (Qa (Qg ?_))
   exact Qt rfl (asB rfl)
  exact Q7
 case fin7 =>
  intro w19 x20
  replace hX := hX.ex x20
  replace hp := hp.ext x20
  replace hb1 := hb1.ext x20
  refine Qa (Qa (Qa ?_))
  refine bindP_mem (fun v65 hv65 => ?_)
  obtain ⟨a65, c65, rfl, hq65⟩ := hv65
  refine Qa (Qa (Qa (Qg (Qd ?_))))
  refine Qr (cvB (by decide)) ?_
  refine Qu (Qe (Qe (Qc ?_)))
  refine Rg_bs (vs := [.func _ _ _, .func _ _ _, .func _ _ _]) (([108, 109, 110] : List FuncId)) rfl encFn_ok el_fn rfl rfl ⟨rfl, ⟨rfl, ⟨rfl, trivial⟩⟩⟩ rfl rfl rfl rfl ?_
  intro a68 w21 x22 hown68
  replace hX := hX.ex x22
  replace hp := hp.ext x22
  replace hb1 := hb1.ext x22
  refine Rr (QK underlying195 rfl) ?_
  refine Rr QT ?_
  refine Qd (QB ?_)
  refine Za (α := Nat) [(2, 2), (4, 5), (70, 80)] (fun k => [(70, .int .i64 (k : Int))]) (fun k w' => (k ≤ 3) ∧ Ext False w21 w') (fun k => 3 - k) 0 ⟨rfl, trivial⟩ ⟨Nat.zero_le _, Bel.refl _ _⟩ ?_
  rintro k fb25 w24 ⟨hk, hXL23⟩
  replace hX := hX.ex hXL23
  replace hp := hp.ext hXL23
  replace hb1 := hb1.ext hXL23
  replace hown68 := hown68.ext hXL23
  refine Qe (Qc ?_)
  refine Rr (QQ rfl rfl) ?_
  refine Qd (Qe ?_)
  refine QD rfl (fun hc5 => ?_) (fun hc5 => ?_)
  ·have hk1 : k < 3 := by have h : (k : Int) < (([108, 109, 110] : List FuncId).length : Int) := dcT hc5; simp at h; omega
   refine Qu (Qe (QB (Qe (Qc ?_))))
   refine Rr (Zg underlying195 sizeOf194 (hown68.slA encFn_ok) rfl rfl omg) ?_
   refine Rr (o_ldR isAgg194 (hown68.slA encFn_ok) rfl rfl (getE 0 hk1) rfl) ?_
   refine Rr (Qv (v := .func _ _ _) rfl) ?_
   refine Qd (Qe (Qc ?_))
   refine Rr (Ql (v := .func _ _ _) rfl) ?_
   refine Rr (QO isAgg91 sizeOf91 rfl hb1.at rfl) ?_
   refine Qo rfl (o_clo1 (fn_enter k hk1) rfl rfl) (Ok.mono (fn_ok k hk1 p n L _ hp hm hok) ?_)
   rintro _ w26 ⟨rfl, x27⟩
   replace hX := hX.ex x27
   replace hXL23 := Bel.ex hXL23 x27
   refine Rr (asI rfl) ?_
   refine Qd (Qe (Qc ?_))
   refine Rr (mvI rfl) ?_
   refine Rr (o_neq rfl rfl) ?_
   refine Qd ?_
   refine Qr rfl ?_
   refine Qu (Qc ?_)
   refine Rr (Q6 rfl rfl omg) ?_
   refine Rr (mvI rfl) ?_
   refine Qd ?_
   refine ⟨k + 1, ⟨sT, trivial⟩, oT, ⟨?_, hXL23⟩, ?_⟩
   ·show k + 1 ≤ 3; omega
   ·omega
  skip
  refine QS (QL (Qe (Qc ?_)))
  refine Rr Qm ?_
  refine Qd (Qy ?_)
  refine ⟨_, Qp rfl rfl, ?_⟩
  exact ⟨rfl, hX⟩

theorem sof52_ok (p : PtV) (n : Nat) (L : List Men) (w : World) (hp : PtIs w p n 2 L) (hm : OkN L) (hok : ∀ x ∈ L, x.u ≤ n ∧ hasW 6 x.r = true) (hd : 0 ≤ p.day ∧ p.day ≤ 30000) : Ok Tryz.prog 41 #[.agg (ptC p).toArray] w fun v w' => (∃ b p', v = .tuple #[pB b, .int .i64 0] ∧ At w' b 0 (ptC p') ∧ PtIs w' p' n 2 L ∧ p'.day = p.day) ∧ Ext False w w' := by
 refine Qz 14 func41 rfl rfl rfl ?_
 have hX := xRf w
 refine Qe (Qc ?_)
 refine QJ rfl (Q4 (v := .agg _) rfl) ?_
 intro b1 w1 x2 hge1 hb1
 have hlt1 := hb1.lt
 change Box _ _ _ (id _) at hb1
 have z3 := x2.size
 replace hX := hX.ex x2
 replace hp := hp.ext x2
 refine Rr Qm ?_
 refine Rr Qm ?_
 refine Qd (Qe (Qe (Qc ?_)))
 refine Rr (QO isAgg91 sizeOf91 rfl hb1.at rfl) ?_
 refine Qo rfl (QA call77 rfl) (Ok.mono (pcheck_ok p n L _ hp hm hok hd) ?_)
 rintro _ w4 ⟨rfl, x5⟩
 have z6 := x5.size
 replace hX := hX.ex x5
 replace hp := hp.ext x5
 replace hb1 := hb1.ext x5
 refine Rr (asI rfl) ?_
 refine Qd (Qe (Qc ?_))
 refine Rr (mvI rfl) ?_
 refine Rr (o_neq rfl rfl) ?_
 refine Qd ?_
 refine Qr rfl ?_
 refine Qu (Qe (Qc ?_))
 refine Rr (QO isAgg91 sizeOf91 rfl hb1.at rfl) ?_
 refine Qo rfl (QA call72 rfl) (Ok.mono (plists_ok p _ hp.orl) ?_)
 rintro _ w7 ⟨⟨a11, rfl⟩, x8⟩
 have z9 := x8.size
 replace hX := hX.ex x8
 replace hp := hp.ext x8
 refine Rr (QZ (cells := ptC { p with ar := a11, cr := 0, ac := none, cc := 0 }) (vs := [(0, .agg _)]) rfl (by kernel_rfl)) ?_
 refine QJ rfl (Q4 (v := .agg _) rfl) ?_
 intro b13 w10 x11 hge13 hb13
 have hlt13 := hb13.lt
 change Box _ _ _ (id _) at hb13
 have z12 := x11.size
 replace hX := hX.ex x11
 replace hp := hp.ext x11
 refine Rr (Qv (v := .pointer _) rfl) ?_
 refine Rr Qm ?_
 refine Qd (Qy ?_)
 refine ⟨_, res_tmp2 rfl rfl rfl, ?_⟩
 exact ⟨⟨b13, { p with ar := a11, cr := 0, ac := none, cc := 0 }, rfl, hb13.at, hp.lists, rfl⟩, hX⟩

theorem ntnewB_ok (w : World) : Ok Tryz.prog 68 #[] w fun v w' => (∃ b, v = pB b ∧ NtIs w' (pB b) 0) ∧ Ext False w w' := (ntnew_ok _).mono fun v w2 ⟨h, x⟩ => ⟨h.is.blk, x⟩
theorem hnewB_ok (w : World) (hT : Tb w) : Ok Tryz.prog 69 #[] w fun v w' => (∃ b, v = pB b ∧ HyIs w' (pB b) []) ∧ Ext False w w' := (hnew_ok _ hT).mono fun v w2 ⟨h, x⟩ => ⟨h.blk, x⟩
theorem mbnewB_ok (w : World) : Ok Tryz.prog 39 #[] w fun v w' => (∃ b, v = pB b ∧ MbIs w' (pB b) []) ∧ Ext False w w' := (mbnew_ok _).mono fun v w2 ⟨h, x⟩ => ⟨h.is.blk, x⟩
theorem snewB_ok (w : World) : Ok Tryz.prog 71 #[] w fun v w' => (∃ b, v = pB b ∧ BkIs w' (pB b) []) ∧ Ext False w w' := (snew_ok _).mono fun v w2 ⟨h, x⟩ => ⟨h.blk, x⟩
theorem gnewB_ok (w : World) : Ok Tryz.prog 70 #[] w fun v w' => (∃ b, v = pB b ∧ GbIs w' (pB b) []) ∧ Ext False w w' := (gnew_ok _).mono fun v w2 ⟨b, h1, h2, x⟩ => ⟨⟨b, h1, h2⟩, x⟩
set_option maxHeartbeats 1000000 in
theorem snew52_ok (w : World) (hT : Tb w) : Ok Tryz.prog 36 #[] w fun v w' => (∃ b p, v = pB b ∧ At w' b 0 (ptC p) ∧ HyIs w' (pB p.lk) [] ∧ GbIs w' (pB p.gr) [] ∧ BkIs w' (pB p.ss) [] ∧ OkS p.aa p.ca ∧ OkS p.ar p.cr) ∧ Ext False w w' := by
 refine Qz 10 func36 rfl rfl rfl ?_
 have hX := xRf w
 refine Qe (Qc ?_)
 refine Rr Qm ?_
 refine Qd (Qe (Qc ?_))
 refine Qo rfl (o_call0 call68) (Ok.mono (ntnewB_ok _) ?_)
 rintro _ w1 ⟨⟨u1, rfl, hu1⟩, x2⟩
 have z3 := x2.size
 replace hX := hX.ex x2
 replace hT := hT.ext x2
 refine Qo rfl (o_call0 call68) (Ok.mono (ntnewB_ok _) ?_)
 rintro _ w4 ⟨⟨u2, rfl, hu2⟩, x5⟩
 have z6 := x5.size
 replace hX := hX.ex x5
 replace hT := hT.ext x5
 refine Qo rfl (o_call0 call69) (Ok.mono (hnewB_ok _ hT) ?_)
 rintro _ w7 ⟨⟨u3, rfl, hu3⟩, x8⟩
 have z9 := x8.size
 replace hX := hX.ex x8
 refine Qo rfl (o_call0 call39) (Ok.mono (mbnewB_ok _) ?_)
 rintro _ w10 ⟨⟨u4, rfl, hu4⟩, x11⟩
 have z12 := x11.size
 replace hX := hX.ex x11
 replace hu3 := hu3.ext x11
 refine Qo rfl (o_call0 call70) (Ok.mono (gnewB_ok _) ?_)
 rintro _ w13 ⟨⟨u5, rfl, hu5⟩, x14⟩
 have z15 := x14.size
 replace hX := hX.ex x14
 replace hu3 := hu3.ext x14
 refine Qo rfl (o_call0 call71) (Ok.mono (snewB_ok _) ?_)
 rintro _ w16 ⟨⟨u6, rfl, hu6⟩, x17⟩
 have z18 := x17.size
 replace hX := hX.ex x17
 replace hu3 := hu3.ext x17
 replace hu5 := hu5.ext x17
 refine Rr (QZ (cells := ptC ⟨0, u1, u2, none, 0, u3, u4, u5, none, 0, none, 0, u6⟩) (vs := [(1, .pointer _), (2, .pointer _), (4, .pointer _), (5, .pointer _), (6, .pointer _), (9, .pointer _)]) rfl (by kernel_rfl)) ?_
 refine Rr (QZ (cells := ptC ⟨0, u1, u2, none, 0, u3, u4, u5, none, 0, none, 0, u6⟩) (vs := [(0, .agg _)]) rfl (by kernel_rfl)) ?_
 refine QJ rfl (Q4 (v := .agg _) rfl) ?_
 intro b9 w19 x20 hge9 hb9
 have hlt9 := hb9.lt
 change Box _ _ _ (id _) at hb9
 have z21 := x20.size
 replace hX := hX.ex x20
 replace hu3 := hu3.ext x20
 replace hu5 := hu5.ext x20
 replace hu6 := hu6.ext x20
 refine Rr (Qv (v := .pointer _) rfl) ?_
 refine Qd (Qy ?_)
 refine ⟨_, Qp rfl rfl, ?_⟩
 exact ⟨⟨b9, ⟨0, u1, u2, none, 0, u3, u4, u5, none, 0, none, 0, u6⟩, rfl, hb9.at, hu3, hu5, hu6, ⟨Nat.zero_le _, fun _ => rfl⟩, ⟨Nat.zero_le _, fun _ => rfl⟩⟩, hX⟩

