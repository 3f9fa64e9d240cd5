/- Walks: what functions return. -/
import Derived.Test.YtgmpgfokblehdaaGreatDoorWsg2
set_option linter.unusedVariables false
set_option linter.unusedSimpArgs false
set_option linter.unnecessarySimpa false
namespace Go.Proofs.YtgmpgfokblehdaaGreatDoor
open Go Go.Lx Go.RowKit Tryz
set_option maxRecDepth 100000
def encFn (f : FuncId) : List Value := [.func (.func f) #[] #[]]
theorem encFn_ok : EncOk encFn 1 := ⟨by decide, fun _ => rfl, fun x u hu => by
 simp [encFn] at hu
 subst hu; rfl⟩
theorem el_fn : ElT Tryz.prog 194 193 1 8 .nilFunc := ⟨underlying194, ⟨Tryz.t193, by kernel_rfl, rfl, rfl, rfl⟩, rfl, by decide, by decide⟩
theorem fn_enter (k : Nat) (hk : k < 3) : ∀ args w, (callFunc (([102, 103, 104] : List FuncId).getD k 0) args).run Tryz.prog w = .ok (.enter (([102, 103, 104] : List FuncId).getD k 0) args) w := by
 match k, hk with
 | 0, _ => exact call102
 | 1, _ => exact call103
 | 2, _ => exact call104
theorem fn_ok (k : Nat) (hk : k < 3) (p : PtV) (s : StV) (w : World) (hp : PsIs w p s) (hs : StOk s) : Ok Tryz.prog (([102, 103, 104] : List FuncId).getD k 0) #[.agg (ptC p).toArray] w fun v w' => v = .int .i64 0 ∧ Ext False w w' := by
 match k, hk with
 | 0, _ => exact ppeople_ok p s w hp hs
 | 1, _ => exact pkinds_ok p s w hp hs
 | 2, _ => exact plaws_ok p s w hp hs
set_option maxHeartbeats 2000000 in
theorem pcheck_ok (p : PtV) (s : StV) (w : World) (hp : PsIs w p s) (hs : StOk s) (hd : 0 ≤ p.day ∧ p.day ≤ 30000) : Ok Tryz.prog 49 #[.agg (ptC p).toArray] w fun v w' => v = .int .i64 0 ∧ Ext False w w' := by
 have hm := hs.m
 refine Qv 81 func49 rfl rfl rfl ?_
 have hX := xRf w
 refine Qf (Qb (QH rfl (QX (v := .agg _) rfl) ?_))
 intro b1 w1 x2 hge1 hb1
 replace hX := hX.ex x2
 replace hp := hp.ext x2
 refine Rr Qj (Qc (Qf (Qt (Qf (Qb (Rr (Qy underlying39 rfl sizeOf29 rfl) (Rr (Qm isAgg29 rfl (hb1.at.get 1 rfl)) (Rr (Zi underlying29 rfl rfl) (Rr (mvB rfl) (QA 3 10 rfl rfl (Rr (Qy underlying39 rfl sizeOf29 rfl) (QA 3 10 rfl rfl (Rr (Qm isAgg29 rfl (hb1.at.get 2 rfl)) (QA 3 10 rfl rfl (Rr (Zi underlying29 rfl rfl) (Rr (Q0 (v := .bool _) rfl rfl) (Rr (mvB rfl) (QA 8 15 rfl rfl (Rr (Qy underlying39 rfl sizeOf33 rfl) (QA 8 15 rfl rfl (Rr (Qm isAgg33 rfl (hb1.at.get 4 rfl)) (QA 8 15 rfl rfl (Rr (Zi underlying33 rfl rfl) (Rr (Q0 (v := .bool _) rfl rfl) (Rr (mvB rfl) (QA 13 20 rfl rfl (Rr (Qy underlying39 rfl sizeOf34 rfl) (QA 13 20 rfl rfl (Rr (Qm isAgg34 rfl (hb1.at.get 5 rfl)) (QA 13 20 rfl rfl (Rr (Zi underlying34 rfl rfl) (Rr (Q0 (v := .bool _) rfl rfl) (Rr (mvB rfl) (QA 18 25 rfl rfl (Rr (Qy underlying39 rfl sizeOf25 rfl) (QA 18 25 rfl rfl (Rr (Qm isAgg25 rfl (hb1.at.get 6 rfl)) (QA 18 25 rfl rfl (Rr (Zi underlying25 rfl rfl) (Rr (Q0 (v := .bool _) rfl rfl) (Rr (mvB rfl) (QA 23 30 rfl rfl (Rr (Qy underlying39 rfl sizeOf37 rfl) (QA 23 30 rfl rfl (Rr (Qm isAgg37 rfl (hb1.at.get 9 rfl)) (QA 23 30 rfl rfl (Rr (Zi underlying37 rfl rfl) (Rr (Q0 (v := .bool _) rfl rfl) (Rr (asB rfl) (Qc (Qq rfl (Qf (Qb (Rr (Qy underlying39 rfl sizeOf3 rfl) (Rr (Qm isAgg3 rfl (hb1.at.get 0 rfl)) (Rr (QM rfl rfl) (Rr (mvB rfl) (QA 3 39 rfl (cvB (decide_eq_false (by omega))) (Rr (Qy underlying39 rfl sizeOf3 rfl) (QA 3 39 rfl (cvB (decide_eq_false (by omega))) (Rr (Qm isAgg3 rfl (hb1.at.get 0 rfl)) (QA 3 39 rfl (cvB (decide_eq_false (by omega))) (Rr (ZM rfl rfl) (Rr (Q0 (v := .bool _) (cvB (decide_eq_false (by omega))) rfl) (Rr (asB rfl) (Qc (Qq (cvB (decide_eq_false (by omega))) (Qf (Qb (Rr (Qy underlying39 rfl sizeOf29 rfl) (Rr (Qm isAgg29 rfl (hb1.at.get 2 rfl)) (Qo rfl (QD call99 rfl) (Ok.mono (Yc _ _ _ hp.rs.is) ?_)))))))))))))))))))))))))))))))))))))))))))))))))))))))))))))))))))))))))
 rintro _ w3 ⟨rfl, x4⟩
 replace hX := hX.ex x4
 replace hp := hp.ext x4
 replace hb1 := hb1.ext x4
 refine Rr (ZM rfl rfl) (Rr (mvB rfl) (QA 4 49 rfl (cvB (decide_eq_false (by omega))) (Rr (Qy underlying39 rfl sizeOf35 rfl) (QA 4 49 rfl (cvB (decide_eq_false (by omega))) (Rr (Qm isAgg35 rfl (hb1.at.get 7 rfl)) (QA 4 49 rfl (cvB (decide_eq_false (by omega))) (Rr (QC underlying35 rfl) (QA 4 49 rfl (cvB (decide_eq_false (by omega))) (Rr (ZM rfl rfl) (Rr (Q0 (v := .bool _) (cvB (decide_eq_false (by omega))) rfl) (Rr (mvB rfl) (QA 10 55 rfl rfl (Rr (Qy underlying39 rfl sizeOf36 rfl) (QA 10 55 rfl rfl (Rr (Qm isAgg36 rfl (hb1.at.get 8 rfl)) (QA 10 55 rfl rfl (Rr (QC underlying36 rfl) (QA 10 55 rfl rfl (Rr (ZM rfl rfl) (Rr (Q0 (v := .bool _) rfl rfl) (Rr (asB rfl) (Qc (Qq rfl (Qf ?_))))))))))))))))))))))))
 apply Q3 (β := False) [peq _, peq _, peq _, (postSV (fun _ => True) (allW s.rs.length)), peq _, peq _, peq _] 7 QV (by kernel_rfl) rfl ⟨Qd _, Qd _, Qd _, (Zf _ _), Qd _, Qd _, Qd _, trivial⟩ ?ob7 ?fin7
 case ob7 =>
  refine Qg (fun _ _ => Qe (Qn rfl (Qy underlying39 rfl sizeOf32 rfl))) (Qg (fun w7 x8 => ?_) ?_)
  ·have hb1 := hb1.ext x8
   exact Qa (Qe (Qn rfl (QF isAgg32 sizeOf32 rfl (hb1.at.sub 3 1) rfl)))
  refine Qg (fun w9 x10 => ?_) ?_
  ·have hb1 := hb1.ext x10
   exact Qe (Qn rfl (QF isAgg39 sizeOf39 rfl hb1.at rfl))
  refine Qg (fun w11 x12 => ?_) ?_
  ·have hp := hp.ext x12
   exact Qa (Qe (ZK rfl (QD call101 rfl) ((proles_ok p s _ hp.rs hm).mono (fun v w2 ⟨a, c, e, h, x⟩ => ⟨x, a, c, e, h.mono (fun _ _ _ => trivial)⟩))))
  refine Qg (fun w13 x14 => ?_) ?_
  ·have hp := hp.ext x14
   refine Qa (QQ (fun v65 hv65 => ?_))
   obtain ⟨a65, c65, rfl, hq65⟩ := hv65
   refine QQ (fun v65 hv65 => ?_)
   obtain ⟨a65, c65, rfl, hq65⟩ := hv65
   exact Qe (Zj rfl (QB call100 rfl rfl) (show Ok _ _ _ _ (fun v w' => v = .bool (subW 0 (allW s.rs.length)) ∧ Ext False _ w') from bwithin_ok _ ⟨p.aa, p.ca, 0⟩ (fun _ => True) hp.oa.set ⟨a65, c65, allW s.rs.length⟩ _ hq65))
  exact Qg (fun _ _ => Qa (Qe (Qn rfl (Zp rfl)))) (Qg (fun _ _ => Qa (Qa (Qe (Qn rfl (asB rfl))))) QR)
 case fin7 =>
  intro w19 x20
  replace hX := hX.ex x20
  replace hp := hp.ext x20
  replace hb1 := hb1.ext x20
  refine Qa (Qa (Qa (QQ (fun v65 hv65 => ?_))))
  obtain ⟨a65, c65, rfl, hq65⟩ := hv65
  refine Qa (Qa (Qa (Qe (Qc ?_))))
  refine Qq (cvB (by rw [sub0 hm]; rfl)) ?_
  refine Qp (Qf (Qf (Qb (ZP (vs := [.func _ _ _, .func _ _ _, .func _ _ _]) (([102, 103, 104] : List FuncId)) rfl encFn_ok el_fn rfl rfl ⟨rfl, ⟨rfl, ⟨rfl, trivial⟩⟩⟩ rfl rfl rfl rfl ?_))))
  intro a68 w21 x22 hown68
  replace hX := hX.ex x22
  replace hp := hp.ext x22
  replace hb1 := hb1.ext x22
  refine Rr (QC underlying194 rfl) (Rr QP (Qc (Qt (QU (α := Nat) [(2, 2), (4, 5), (70, 80)] (fun k => [(70, .int .i64 (k : Int))]) (fun k w' => (k ≤ 3) ∧ Ext False w21 w') (fun k => 3 - k) 0 ⟨rfl, trivial⟩ ⟨Nat.zero_le _, Bel.refl _ _⟩ ?_))))
  rintro k fb25 w24 ⟨hk, hXL23⟩
  replace hX := hX.ex hXL23
  replace hp := hp.ext hXL23
  replace hb1 := hb1.ext hXL23
  replace hown68 := hown68.ext hXL23
  refine Qf (Qb (Rr (QM rfl rfl) (Qc (Qf (Qw rfl (fun hc5 => ?_) (fun hc5 => ?_))))))
  ·have hk1 : k < 3 := by have h : (k : Int) < (([102, 103, 104] : List FuncId).length : Int) := dcT hc5; simp at h; omega
   refine Qp (Qf (Qt (Qf (Qb (Rr (QW underlying194 sizeOf193 (hown68.slA encFn_ok) rfl rfl omg) (Rr (Zx isAgg193 (hown68.slA encFn_ok) rfl rfl (Ze 0 hk1) rfl) (Rr (QL (v := .func _ _ _) rfl) (Qc (Qf (Qb (Rr (QG (v := .func _ _ _) rfl) (Rr (QF isAgg39 sizeOf39 rfl hb1.at rfl) (Qo rfl (o_clo1 (fn_enter k hk1) rfl rfl) (Ok.mono (fn_ok k hk1 p s _ hp hs) ?_))))))))))))))
   rintro _ w26 ⟨rfl, x27⟩
   replace hXL23 := Bel.ex hXL23 x27
   refine Rr (asI rfl) (Qc (Qf (Qb (Rr (mvI rfl) (Rr (Zv rfl rfl) (Qc (Qq rfl (Qp (Qb (Rr (QO rfl rfl omg) (Rr (mvI rfl) (Qc ⟨k + 1, ⟨sT, trivial⟩, oT, ⟨?_, hXL23⟩, ?_⟩))))))))))))
   ·show k + 1 ≤ 3; omega
   ·omega
  skip
  exact QN (QI (Qf (Qb (Rr Qj (Qc (Qu ⟨_, Qr rfl rfl, ⟨rfl, hX⟩⟩))))))
theorem sofG_ok (p : PtV) (s : StV) (w : World) (hp : PsIs w p s) (hs : StOk s) (hd : 0 ≤ p.day ∧ p.day ≤ 30000) : Ok Tryz.prog 12 #[.agg (ptC p).toArray] w fun v w' => (∃ b a, v = .tuple #[pB b, .int .i64 0] ∧ w.heap.size ≤ b ∧ At w' b 0 (ptC (ptL p a)) ∧ PsIs w' (ptL p a) s) ∧ Ext False w w' := by
 refine Qv 14 func12 rfl rfl rfl ?_
 have hX := xRf w
 refine Qf (Qb (QH rfl (QX (v := .agg _) rfl) ?_))
 intro b1 w1 x2 hge1 hb1
 have hlt1 := hb1.lt
 have z3 := x2.size
 replace hX := hX.ex x2
 replace hp := hp.ext x2
 refine Rr Qj (Rr Qj (Qc (Qf (Qf (Qb (Rr (QF isAgg39 sizeOf39 rfl hb1.at rfl) (Qo rfl (QD call49 rfl) (Ok.mono (pcheck_ok p s _ hp hs hd) ?_))))))))
 rintro _ w4 ⟨rfl, x5⟩
 have z6 := x5.size
 replace hX := hX.ex x5
 replace hp := hp.ext x5
 replace hb1 := hb1.ext x5
 refine Rr (asI rfl) (Qc (Qf (Qb (Rr (mvI rfl) (Rr (Zv rfl rfl) (Qc (Qq rfl (Qp (Qf (Qb (Rr (QF isAgg39 sizeOf39 rfl hb1.at rfl) (Qo rfl (QD call39 rfl) (Ok.mono (plists_ok p _ hp.orl) ?_)))))))))))))
 rintro _ w7 ⟨⟨a11, rfl⟩, x8⟩
 have z9 := x8.size
 replace hX := hX.ex x8
 replace hp := hp.ext x8
 refine Rr (Q2 (cells := ptC (ptL p a11)) (vs := [(0, .agg _)]) rfl (by kernel_rfl)) (QH rfl (QX (v := .agg _) rfl) ?_)
 intro b13 w10 x11 hge13 hb13
 have hlt13 := hb13.lt
 have z12 := x11.size
 replace hX := hX.ex x11
 replace hp := hp.ext x11
 refine Rr (asP rfl) (Rr Qj (Qc (Qu ⟨_, QT rfl rfl rfl, ?_⟩)))
 exact ⟨⟨b13, a11, rfl, by omega, hb13.at, hp.lists⟩, hX⟩
theorem ntnewB_ok (w : World) : Ok Tryz.prog 35 #[] w fun v w' => (∃ b, v = pB b ∧ NtM w' (pB b) []) ∧ Ext False w w' := (ntnew_ok _).mono fun v w2 ⟨h, x⟩ => ⟨h.blk, x⟩
theorem hnewB_ok (w : World) (hT : Tb w) : Ok Tryz.prog 36 #[] w fun v w' => (∃ b, v = pB b ∧ HyIs w' (pB b) []) ∧ Ext False w w' := (hnew_ok _ hT).mono fun v w2 ⟨h, x⟩ => ⟨h.blk, x⟩
theorem mbnewB_ok (w : World) : Ok Tryz.prog 37 #[] w fun v w' => (∃ b, v = pB b ∧ MbIs w' (pB b) []) ∧ Ext False w w' := (mbnew_ok _).mono fun v w2 ⟨h, x⟩ => ⟨h.is.blk, x⟩
theorem snewB_ok (w : World) : Ok Tryz.prog 38 #[] w fun v w' => (∃ b, v = pB b ∧ BkIs w' (pB b) []) ∧ Ext False w w' := (snew_ok _).mono fun v w2 ⟨h, x⟩ => ⟨h.blk, x⟩
theorem gnewB_ok (w : World) : Ok Tryz.prog 9 #[] w fun v w' => (∃ b, v = pB b ∧ GbIs w' (pB b) []) ∧ Ext False w w' := (gnew_ok _).mono fun v w2 ⟨b, h1, h2, x⟩ => ⟨⟨b, h1, h2⟩, x⟩
set_option maxHeartbeats 1100000 in
theorem snewG_ok (w : World) (hT : Tb w) : Ok Tryz.prog 6 #[] w fun v w' => (∃ b p, v = pB b ∧ At w' b 0 (ptC p) ∧ PsIs w' p ⟨[], [], [], [], [], []⟩ ∧ p.day = 0) ∧ Ext False w w' := by
 refine Qv 10 func6 rfl rfl rfl ?_
 have hX := xRf w
 refine Qf (Qb (Rr Qj (Qc (Qf (Qb (Qo rfl (Z1 call35) (Ok.mono (ntnewB_ok _) ?_)))))))
 rintro _ w1 ⟨⟨u1, rfl, hu1⟩, x2⟩
 replace hX := hX.ex x2
 replace hT := hT.ext x2
 refine Qo rfl (Z1 call35) (Ok.mono (ntnewB_ok _) ?_)
 rintro _ w4 ⟨⟨u2, rfl, hu2⟩, x5⟩
 replace hX := hX.ex x5
 replace hT := hT.ext x5
 replace hu1 := hu1.ext x5
 refine Qo rfl (Z1 call36) (Ok.mono (hnewB_ok _ hT) ?_)
 rintro _ w7 ⟨⟨u3, rfl, hu3⟩, x8⟩
 replace hX := hX.ex x8
 replace hu1 := hu1.ext x8
 replace hu2 := hu2.ext x8
 refine Qo rfl (Z1 call37) (Ok.mono (mbnewB_ok _) ?_)
 rintro _ w10 ⟨⟨u4, rfl, hu4⟩, x11⟩
 replace hX := hX.ex x11
 replace hu1 := hu1.ext x11
 replace hu2 := hu2.ext x11
 replace hu3 := hu3.ext x11
 refine Qo rfl (Z1 call9) (Ok.mono (gnewB_ok _) ?_)
 rintro _ w13 ⟨⟨u5, rfl, hu5⟩, x14⟩
 replace hX := hX.ex x14
 replace hu1 := hu1.ext x14
 replace hu2 := hu2.ext x14
 replace hu3 := hu3.ext x14
 replace hu4 := hu4.ext x14
 refine Qo rfl (Z1 call38) (Ok.mono (snewB_ok _) ?_)
 rintro _ w16 ⟨⟨u6, rfl, hu6⟩, x17⟩
 replace hX := hX.ex x17
 replace hu1 := hu1.ext x17
 replace hu2 := hu2.ext x17
 replace hu3 := hu3.ext x17
 replace hu4 := hu4.ext x17
 replace hu5 := hu5.ext x17
 refine Rr (Q2 (cells := ptC ⟨0, u1, u2, none, 0, u3, u4, u5, none, 0, none, 0, u6⟩) (vs := [(1, .pointer _), (2, .pointer _), (4, .pointer _), (5, .pointer _), (6, .pointer _), (9, .pointer _)]) rfl (by kernel_rfl)) (Rr (Q2 (cells := ptC ⟨0, u1, u2, none, 0, u3, u4, u5, none, 0, none, 0, u6⟩) (vs := [(0, .agg _)]) rfl (by kernel_rfl)) (QH rfl (QX (v := .agg _) rfl) ?_))
 intro b9 w19 x20 hge9 hb9
 replace hX := hX.ex x20
 replace hu1 := hu1.ext x20
 replace hu2 := hu2.ext x20
 replace hu3 := hu3.ext x20
 replace hu4 := hu4.ext x20
 replace hu5 := hu5.ext x20
 replace hu6 := hu6.ext x20
 exact Rr (asP rfl) (Qc (Qu ⟨_, Qr rfl rfl, ⟨⟨b9, ⟨0, u1, u2, none, 0, u3, u4, u5, none, 0, none, 0, u6⟩, rfl, hb9.at, ⟨hu1, hu2, hu3, hu4, hu5, hu6, ⟨Nat.zero_le _, fun _ => rfl⟩, ⟨Nat.zero_le _, fun _ => rfl⟩⟩, rfl⟩, hX⟩⟩))
