/- Walks: what functions return. -/
import Derived.Test.YtjnjalalkbamkaaGreatDoorWcg6
import Derived.Test.YtjnjalalkbamkaaGreatDoorWc52
set_option linter.unusedVariables false
set_option linter.unusedSimpArgs false
set_option linter.unnecessarySimpa false
namespace Go.Proofs.YtjnjalalkbamkaaGreatDoor
open Go Go.Lx Go.RowKit Tryz
set_option maxRecDepth 100000
theorem ccopy_ok (v0 : Value) (c : Cpg) (D : Nat → Prop) (w : World) (hc : CpIs 73 D w v0 c) (hn : c.l.length ≤ 100000) : Ok Tryz.prog 52 #[v0] w fun v w' => (∃ b u, v = pB b ∧ w.heap.size ≤ b ∧ Box w' b 73 (cgC c u) ∧ Own encIp 4 56 (fun g => w.heap.size ≤ g ∧ g ≠ b) w' u c.l) ∧ Ext False w w' := by
 obtain ⟨b, u, rfl, hDb, hb, a1, c1, rfl, hp⟩ := hc
 have hbl := hb.lt
 replace hp := hp.mono (F' := fun g => g < w.heap.size ∧ g ≠ b) (fun g h1 h2 => ⟨h1, h2.2⟩)
 refine Qz 13 func52 rfl rfl rfl ?_
 have hX := xRf w
 refine Qe (Qc ?_)
 refine Rr Qm ?_
 refine Qd (Qe (Qc ?_))
 refine Rr (Ql (v := pB b) rfl) ?_
 refine Rr (QG rfl) ?_
 refine Rr (QO isAgg73 sizeOf73 rfl hb.at rfl) ?_
 refine Rg_alst rfl rfl zeroValue73 rfl sizeOf73 (fun _ => rfl) rfl rfl ?_
 intro b3 w1 x2 hge3 hb3
 have hlt3 := hb3.lt
 change Box _ _ _ (id _) at hb3
 have z3 := x2.size
 replace hX := hX.ex x2
 replace hb := hb.ext x2
 replace hp := hp.ext x2
 refine Qd (Qe (Qc ?_))
 refine Rr (Ql (v := pB b) rfl) ?_
 refine Rr (QG rfl) ?_
 refine Rr (Qx underlying73 rfl sizeOf53 rfl) ?_
 refine Rr (Qn isAgg53 rfl (hb.at.get 5 rfl)) ?_
 refine Qo rfl (QA call50 rfl) (Ok.mono (itclone_ok _ _ c.l hp.trd (by omega)) ?_)
 rintro v11 w4 ⟨hown11, x5⟩
 have z6 := x5.size
 replace hX := hX.ex x5
 replace hb3 := hb3.ext x5
 replace hown11 := hown11.mono (D' := fun g => w.heap.size ≤ g ∧ g ≠ b3) (fun g h1 h2 => by omega)
 obtain ⟨a11, c11, hv11, -⟩ := hown11.sl Zc
 subst hv11
 refine Rr (Qx underlying73 rfl sizeOf53 rfl) ?_
 refine QY (v := .slice _ _ _) rfl sizeOf53 rfl rfl hb3 rfl rfl rfl ?_
 intro w7 c8 hb3
 change Box _ _ _ ([.int _ _, .int _ _, .int _ _, .int _ _, .bool _, .slice _ _ _]) at hb3
 have z9 := Bel.size c8
 replace hX := Bel.out hX c8 om2
 replace hown11 := hown11.keepD c8 om3
 refine Qd (Qe (Qc ?_))
 refine Rr (Qv (v := .pointer _) rfl) ?_
 refine Qd (Qy ?_)
 refine ⟨_, Qp rfl rfl, ?_⟩
 exact ⟨⟨b3, _, rfl, by omega, hb3, hown11.mono (fun g h1 h2 => by omega)⟩, hX⟩

theorem cverd_ok (k : Bool) (w : World) : Ok Tryz.prog 53 #[.bool k] w fun v w' => v = .int .u8 (if k then 3 else 4) ∧ Ext False w w' := by
 refine Qz 4 func53 rfl rfl rfl ?_
 have hX := xRf w
 refine Qe (Qc ?_)
 refine Rr Qm ?_
 refine Qd (Qe (Qe (Qc ?_)))
 refine Rr (mvB rfl) ?_
 refine Qd ?_
 refine QD rfl (fun hc1 => ?_) (fun hc1 => ?_)
 ·refine Qe (Qc ?_)
  refine Rr Qm ?_
  refine Qd (Qy ?_)
  refine ⟨_, Qp rfl rfl, ?_⟩
  refine ⟨congrArg (Value.int .u8) ?_, hX⟩
  all_goals (rw [if_pos hc1])
 refine Qu (Qe (Qc ?_))
 refine Rr Qm ?_
 refine Qd (Qy ?_)
 refine ⟨_, Qp rfl rfl, ?_⟩
 refine ⟨congrArg (Value.int .u8) ?_, hX⟩
 all_goals (rw [if_neg (by rw [hc1]; simp)])

set_option maxHeartbeats 2000000 in
theorem cdecide_ok (v0 : Value) (c : Cpg) (D : Nat → Prop) (w : World) (hc : CpIs 73 D w v0 c) (hn : c.l.length ≤ 100000) (who : Int) (k : Nat) (kp : Bool) (hk : k < c.l.length) (hd : (c.l.getD k itz).d = 1) (hw : (c.l.getD k itz).v = who) : Ok Tryz.prog 15 #[v0, .int .i64 who, .int .i64 (k : Int), .bool kp] w fun v w' => (∃ x, v = .tuple #[x, .int .i64 0] ∧ CpIs 73 (Fsh w w') w' x { c with l := c.l.set k (⟨(c.l.getD k itz).u, (c.l.getD k itz).r, (c.l.getD k itz).v, if kp then 3 else 4⟩ : Itm) }) ∧ Ext False w w' := by
 obtain ⟨b, u, rfl, hDb, hb, a1, c1, rfl, hp⟩ := hc
 have hbl := hb.lt
 replace hp := hp.mono (F' := fun g => g < w.heap.size ∧ g ≠ b) (fun g h1 h2 => ⟨h1, h2.2⟩)
 refine Qz 58 func15 rfl rfl rfl ?_
 have hX := xRf w
 refine Qe (Qc ?_)
 refine Rr Qm ?_
 refine Rr Qm ?_
 refine Qd (Qe (QB (Qe (Qc ?_))))
 refine Rr (Ql (v := pB b) rfl) ?_
 refine Rr (o_peq underlying32 rfl rfl) ?_
 refine Rr (asB rfl) ?_
 refine Qd ?_
 refine Qr rfl ?_
 refine Qe (Qc ?_)
 refine Rr (mvI rfl) ?_
 refine Rr (QQ rfl rfl) ?_
 refine Rr (mvB rfl) ?_
 refine QF 2 17 rfl (cvB (decide_eq_false (by omega))) ?_
 refine Rr (mvI rfl) ?_
 refine QF 2 17 rfl (cvB (decide_eq_false (by omega))) ?_
 refine Rr (Ql (v := pB b) rfl) ?_
 refine QF 2 17 rfl (cvB (decide_eq_false (by omega))) ?_
 refine Rr (QG rfl) ?_
 refine QF 2 17 rfl (cvB (decide_eq_false (by omega))) ?_
 refine Rr (Qx underlying73 rfl sizeOf53 rfl) ?_
 refine QF 2 17 rfl (cvB (decide_eq_false (by omega))) ?_
 refine Rr (Qn isAgg53 rfl (hb.at.get 5 rfl)) ?_
 refine QF 2 17 rfl (cvB (decide_eq_false (by omega))) ?_
 refine Rr (QK underlying53 rfl) ?_
 refine QF 2 17 rfl (cvB (decide_eq_false (by omega))) ?_
 refine Rr (o_geq rfl rfl) ?_
 refine Rr (Q3 (v := .bool _) (cvB (decide_eq_false (by omega))) rfl) ?_
 refine Rr (asB rfl) ?_
 refine Qd ?_
 refine Qr (cvB (by simp; omega)) ?_
 refine Qe (Qc ?_)
 refine Rr (Ql (v := pB b) rfl) ?_
 refine Rr (QG rfl) ?_
 refine Rr (Qx underlying73 rfl sizeOf53 rfl) ?_
 refine Rr (Qn isAgg53 rfl (hb.at.get 5 rfl)) ?_
 refine Rr (mvI rfl) ?_
 refine Rr (Zg underlying53 sizeOf56 hp rfl rfl omg) ?_
 refine Rr (o_ldRS isAgg56 sizeOf56 hp rfl (getE itz hk)) ?_
 refine Qo rfl (QA call51 rfl) (Ok.mono (cdec_ok (c.l.getD k itz) _) ?_)
 rintro _ w1 ⟨rfl, x2⟩
 have z3 := x2.size
 replace hX := hX.ex x2
 replace hb := hb.ext x2
 replace hp := hp.ext x2
 refine Rr (asB rfl) ?_
 refine Qd ?_
 refine Qr (cvB (by rw [hd]; decide)) ?_
 refine Qe (Qc ?_)
 refine Rr (Ql (v := pB b) rfl) ?_
 refine Rr (QG rfl) ?_
 refine Rr (Qx underlying73 rfl sizeOf53 rfl) ?_
 refine Rr (Qn isAgg53 rfl (hb.at.get 5 rfl)) ?_
 refine Rr (mvI rfl) ?_
 refine Rr (Zg underlying53 sizeOf56 hp rfl rfl omg) ?_
 refine Rr (o_faE underlying56 rfl sizeOf3 hp rfl (getE itz hk)) ?_
 refine Rr (o_ldE (j := 2) isAgg3 hp rfl (getE itz hk) rfl) ?_
 refine Rr (mvI rfl) ?_
 refine Rr (o_neq rfl rfl) ?_
 refine Rr (asB rfl) ?_
 refine Qd ?_
 refine Qr (cvB (by rw [hw]; simp)) ?_
 refine Qu (Qe (Qc ?_))
 refine Rr (Ql (v := pB b) rfl) ?_
 refine Qo rfl (QA call52 rfl) (Ok.mono (ccopy_ok (pB b) c _ _ (⟨b, _, rfl, trivial, hb, a1, c1, rfl, hp.mono (fun g h1 h2 => ⟨trivial, h2.2⟩)⟩ : CpIs _ (fun _ => True) _ _ _) hn) ?_)
 rintro _ w4 ⟨⟨b47, u47, rfl, hge47, hbx47, hown47⟩, x5⟩
 have z6 := x5.size
 replace hX := hX.ex x5
 obtain ⟨a47, c47, hv47, -⟩ := hown47.sl Zc
 subst hv47
 replace hown47 := hown47.mono (D' := fun g => w.heap.size ≤ g ∧ g ≠ b47) (fun g h1 h2 => ⟨by omega, h2.2⟩)
 have hlb47 := hbx47.lt
 refine Rr (Qv (v := .pointer _) rfl) ?_
 refine Qd (Qe ?_)
 apply Ze (β := False) (fun _ => 0) [peqC _, peqC _, peqC _, peqC _, peqC _, peqC _, peqC _] [0, 0, 0, 0, 0, 0, 0] 7 Q9 (by kernel_rfl) (by kernel_rfl) rfl ⟨Qi _ _, Qi _ _, Qi _ _, Qi _ _, Qi _ _, Qi _ _, Qi _ _, trivial⟩ ?ob10 ?fin10
 case ob10 =>
  refine Qk (fun w7 c9 x8 hc010 hk11 => ?_) ?_
  ·replace x8 := RelG.ext0 x8
   have z12 := x8.size
   refine Qj ?_
   exact Qs rfl (Ql (v := .pointer _) rfl)
  refine Qk (fun w13 c15 x14 hc016 hk17 => ?_) ?_
  ·replace x14 := RelG.ext0 x14
   have z18 := x14.size
   refine Qb (Qj ?_)
   exact Qs rfl (QG rfl)
  refine Qk (fun w19 c21 x20 hc022 hk23 => ?_) ?_
  ·replace x20 := RelG.ext0 x20
   have z24 := x20.size
   refine Qb (Qj ?_)
   exact Qs rfl (Qx underlying73 rfl sizeOf53 rfl)
  refine Qk (fun w25 c27 x26 hc028 hk29 => ?_) ?_
  ·replace x26 := RelG.ext0 x26
   have z30 := x26.size
   have hbx47 := hbx47.ext x26
   refine Qb (Qj ?_)
   exact Qs rfl (Qn isAgg53 rfl (hbx47.at.get 5 rfl))
  refine Qk (fun w31 c33 x32 hc034 hk35 => ?_) ?_
  ·replace x32 := RelG.ext0 x32
   have z36 := x32.size
   refine Qj ?_
   exact Qs rfl (mvI rfl)
  refine Qk (fun w37 c39 x38 hc040 hk41 => ?_) ?_
  ·replace x38 := RelG.ext0 x38
   have z42 := x38.size
   refine Qj ?_
   exact Qs rfl (mvB rfl)
  refine Qk (fun w43 c45 x44 hc046 hk47 => ?_) ?_
  ·replace x44 := RelG.ext0 x44
   have z48 := x44.size
   refine Qb (Qj ?_)
   exact OpC_call rfl (QA call53 rfl) (cverd_ok kp _)
  exact Q8
 case fin10 =>
  intro w49 c51 x50 hc052
  replace x50 := RelG.ext0 x50
  have z53 := x50.size
  replace hX := hX.ex x50
  replace hbx47 := hbx47.ext x50
  replace hown47 := hown47.ext x50
  refine Qb (Qb (Qb (Qb (Qb (Qb (Qb (Qj ?_)))))))
  refine Rr (Zf (i := k) underlying53 sizeOf56 hown47 rfl rfl hk) ?_
  refine Rr (o_faE underlying56 rfl sizeOf54 (hown47.slA Zc) rfl (getE itz hk)) ?_
  refine Rg_elstF (i := k) (j := 3) ((⟨(c.l.getD k itz).u, (c.l.getD k itz).r, (c.l.getD k itz).v, if kp then 3 else 4⟩ : Itm)) ((c.l.getD k itz)) rfl Zc sizeOf54 rfl rfl rfl rfl hown47 (getE itz hk) rfl (by decide) ?_
  intro w54 x55 hown47
  have z56 := x55.size
  replace hX := Bel.out hX x55 om2
  replace hbx47 := hbx47.keep x55 om1
  refine Qd (Qe (Qc ?_))
  refine Rr (Ql (v := .pointer _) rfl) ?_
  refine Rr (Qv (v := .pointer _) rfl) ?_
  refine Rr Qm ?_
  refine Qd (Qy ?_)
  refine ⟨_, res_tmp2 rfl rfl rfl, ?_⟩
  exact ⟨⟨_, rfl, b47, _, rfl, ⟨by omega, hbx47.lt⟩, hbx47, a47, c47, (by rw [List.length_set]), (hown47.slA Zc).mono (fun g h1 h2 => ⟨⟨h2.1, h1⟩, h2.2⟩)⟩, hX⟩

