/- Walks: what functions return. -/
import Derived.Test.YtjnjalalkbamkaaGreatDoorWsp5
set_option linter.unusedVariables false
set_option linter.unusedSimpArgs false
set_option linter.unnecessarySimpa false
namespace Go.Proofs.YtjnjalalkbamkaaGreatDoor
open Go Go.Lx Go.RowKit Tryz
set_option maxRecDepth 100000
theorem nlen_ok (v0 : Value) (n : Nat) (w : World) (hn : NtIs w v0 n) : Ok Tryz.prog 86 #[v0] w fun v w' => v = .int .i64 (n : Int) ∧ Ext False w w' := by
 obtain ⟨pb, a, c, m, rfl, hb, hle⟩ := hn
 refine Qz 10 func86 rfl rfl rfl ?_
 have hX := xRf w
 refine Qe (Qc ?_)
 refine Rr Qm ?_
 refine Qd (Qe (Qe (Qc ?_)))
 refine Rr (Ql (v := .pointer _) rfl) ?_
 refine Rr (o_peq underlying83 rfl rfl) ?_
 refine Qd ?_
 refine Qr rfl ?_
 refine Qu (Qe (Qc ?_))
 refine Rr (Ql (v := .pointer _) rfl) ?_
 refine Rr (QG rfl) ?_
 refine Rr (Qx underlying167 rfl sizeOf96 rfl) ?_
 refine Rr (Qn isAgg96 rfl (hb.get 0 rfl)) ?_
 refine Rr (QK underlying96 rfl) ?_
 refine Rr (asI rfl) ?_
 refine Qd (Qy ?_)
 refine ⟨_, Qp rfl rfl, ?_⟩
 refine ⟨congrArg (Value.int .i64) ?_, hX⟩
 all_goals (rfl)

theorem proles_ok (p : PtV) (w : World) (hr : NtIs w (pB p.rs) 2) : Ok Tryz.prog 107 #[.agg (ptC p).toArray] w fun v w' => ∃ a c, v = .agg (encSV ⟨a, c, 6⟩).toArray ∧ Sl encU 1 (Fsh w w') w' a c (wl 6) ∧ Ext False w w' := by
 refine Qz 9 func107 rfl rfl rfl ?_
 have hX := xRf w
 refine Qe (Qc ?_)
 refine QJ rfl (Q4 (v := .agg _) rfl) ?_
 intro b1 w1 x2 hge1 hb1
 have hlt1 := hb1.lt
 change Box _ _ _ (id _) at hb1
 have z3 := x2.size
 replace hX := hX.ex x2
 replace hr := hr.ext x2
 refine QJ rfl (Zh zeroValue45) ?_
 intro b2 w4 x5 hge2 hb2
 have hlt2 := hb2.lt
 change Box _ _ _ ([.slice _ _ _]) at hb2
 have z6 := x5.size
 replace hX := hX.ex x5
 replace hr := hr.ext x5
 replace hb1 := hb1.ext x5
 refine Qd (Qe (Qc ?_))
 refine Rr (Qx underlying91 rfl sizeOf83 rfl) ?_
 refine Rr (Qn isAgg83 rfl (hb1.at.get 2 rfl)) ?_
 refine Qo rfl (QA call86 rfl) (Ok.mono (nlen_ok _ 2 _ hr) ?_)
 rintro _ w7 ⟨rfl, x8⟩
 have z9 := x8.size
 replace hX := hX.ex x8
 replace hb2 := hb2.ext x8
 refine Rr (o_addN (p := 2) (b := 1) rfl rfl (by decide)) ?_
 refine Qo rfl (QA call134 rfl) (Ok.mono (bbelow3_ok _) ?_)
 rintro _ w10 ⟨a7, c7, rfl, hq7, x11⟩
 have z12 := x11.size
 replace hX := hX.ex x11
 replace hb2 := hb2.ext x11
 refine Qo rfl (QM call135 rfl rfl) (Ok.mono (bwithout_ok _ ⟨a7, c7, 7⟩ _ hq7 0 (by decide) b7_0) ?_)
 rintro _ w13 ⟨a8, c8, rfl, hq8, x14⟩
 have z15 := x14.size
 replace hX := hX.ex x14
 replace hb2 := hb2.ext x14
 refine QX (v := .agg _) rfl sizeOf45 rfl rfl hb2 rfl rfl rfl ?_
 intro w16 c17 hb2
 change Box _ _ _ (encSV _) at hb2
 have z18 := Bel.size c17
 replace hX := Bel.out hX c17 om2
 replace hq8 := hq8.keep c17 om3
 refine Qd (Qy ?_)
 refine ⟨_, res_1 (v := .agg _) rfl (rv_cellS isAgg45 sizeOf45 rfl hb2.at rfl), ?_⟩
 rw [show (7 : W64) &&& ~~~(oneW 0) = 6 by decide] at hq8 ⊢
 exact ⟨_, _, rfl, hq8.mono (fun g h1 h2 => ⟨by omega, by omega⟩), hX⟩

theorem plists_ok (p : PtV) (w : World) (ho : OkS p.ar p.cr) : Ok Tryz.prog 72 #[.agg (ptC p).toArray] w fun v w' => (∃ a, v = .agg (ptC { p with ar := a, cr := 0, ac := none, cc := 0 }).toArray) ∧ Ext False w w' := by
 refine Qz 46 func72 rfl rfl rfl ?_
 have hX := xRf w
 refine Qe (Qc ?_)
 refine QJ rfl (Q4 (v := .agg _) rfl) ?_
 intro b1 w1 x2 hge1 hb1
 have hlt1 := hb1.lt
 change Box _ _ _ (id _) at hb1
 have z3 := x2.size
 replace hX := hX.ex x2
 refine QJ rfl (Zh zeroValue91) ?_
 intro b2 w4 x5 hge2 hb2
 have hlt2 := hb2.lt
 change Box _ _ _ ([.int _ _, .pointer _, .pointer _, .slice _ _ _, .pointer _, .pointer _, .pointer _, .slice _ _ _, .slice _ _ _, .pointer _]) at hb2
 have z6 := x5.size
 replace hX := hX.ex x5
 replace hb1 := hb1.ext x5
 refine Qd (Qe (Qc ?_))
 obtain ⟨n0, hn0⟩ : ∃ n, n = w4.heap.size := ⟨_, rfl⟩
 refine Rr (Qx underlying91 rfl sizeOf87 rfl) ?_
 refine Rr (Qn isAgg87 rfl (hb1.at.get 7 rfl)) ?_
 refine Rr (QK underlying87 rfl) ?_
 refine Rg_make (m := 0) () rfl encRul_ok el_rul rfl rfl rfl (by decide) ?_
 intro a10 w7 x8 hown10
 have z9 := x8.size
 replace hX := hX.ex x8
 replace hb1 := hb1.ext x8
 replace hb2 := hb2.ext x8
 replace hown10 := hown10.mono (D' := fun g => n0 ≤ g) (fun g h1 h2 => by omega)
 refine Rr (asS rfl) ?_
 refine Qd (Qe (Qc ?_))
 refine Rr (mvS rfl) ?_
 refine Rr (Qx underlying91 rfl sizeOf87 rfl) ?_
 refine Rr (Qn isAgg87 rfl (hb1.at.get 7 rfl)) ?_
 refine Rg_cpy (o := 0) (m2 := 0) (([] : List Unit)) rfl encRul_ok el_rul rfl rfl hown10 (ho.sl (enc := encRul) (k := 7) (F := fun _ => True)) (by simp; done) (by simp; done) (by simp; done) (by simp; done) ?_
 intro w10 x11 hown10
 have z12 := x11.size
 replace hX := Bel.out hX x11 om2
 replace hb1 := hb1.keep x11 om1
 replace hb2 := hb2.keep x11 om1
 refine Qd (Qe (Qc ?_))
 refine Rr (mvS rfl) ?_
 refine Rr (mvS rfl) ?_
 refine Rr (QK underlying87 rfl) ?_
 refine Rr (mvS rfl) ?_
 refine Rr (QK underlying87 rfl) ?_
 refine Rr (o_sl3 (j := 0) (m := 0) underlying87 sizeOf228 rfl rfl rfl (Nat.le_refl _) (Nat.le_refl _)) ?_
 refine Rr (Qx underlying91 rfl sizeOf87 rfl) ?_
 refine QY (v := .slice _ _ _) rfl sizeOf87 rfl rfl hb1 rfl rfl rfl ?_
 intro w13 c14 hb1
 change Box _ _ _ ([.int _ _, .pointer _, .pointer _, .slice _ _ _, .pointer _, .pointer _, .pointer _, .slice _ _ _, .slice _ _ _, .pointer _]) at hb1
 have z15 := Bel.size c14
 replace hX := Bel.out hX c14 om2
 replace hb2 := hb2.keep c14 om1
 refine Qd (Qe (Qc ?_))
 refine Rr Qm ?_
 refine Qd (Qe (Qe (Qc ?_)))
 refine Rr (Qx underlying91 rfl sizeOf88 rfl) ?_
 refine Rr (Qn isAgg88 rfl (hb1.at.get 8 rfl)) ?_
 refine Rr (QK underlying88 rfl) ?_
 refine Rr QT ?_
 refine Qd (QB ?_)
 refine Za (α := Nat) [(4, 4), (6, 6), (25, 37)] (fun k => [(25, .int .i64 (k : Int)), (4, .slice none 0 0)]) (fun k w' => (True) ∧ Ext False w13 w') (fun k => k) 0 ⟨rfl, rfl, trivial⟩ ⟨trivial, Bel.refl _ _⟩ ?_
 rintro k fb18 w17 ⟨-, hXL16⟩
 have z19 := Bel.size hXL16
 replace hX := hX.ex hXL16
 replace hb1 := hb1.ext hXL16
 replace hb2 := hb2.ext hXL16
 refine Qe (Qc ?_)
 refine Rr (QQ rfl rfl) ?_
 refine Qd (Qe ?_)
 refine Qr (cvB (decide_eq_false (by omega))) ?_
 refine QS (QL (Qe (Qc ?_)))
 refine Rr (mvS rfl) ?_
 refine Rr (mvS rfl) ?_
 refine Rr (QK underlying88 rfl) ?_
 refine Rr (mvS rfl) ?_
 refine Rr (QK underlying88 rfl) ?_
 refine Rr (o_sl3 (j := 0) (m := 0) underlying88 sizeOf185 rfl rfl rfl (Nat.le_refl _) (Nat.le_refl _)) ?_
 refine Rr (Qx underlying91 rfl sizeOf88 rfl) ?_
 refine QY (v := .slice _ _ _) rfl sizeOf88 rfl rfl hb1 rfl rfl rfl ?_
 intro w20 c21 hb1
 change Box _ _ _ ([.int _ _, .pointer _, .pointer _, .slice _ _ _, .pointer _, .pointer _, .pointer _, .slice _ _ _, .slice _ _ _, .pointer _]) at hb1
 have z22 := Bel.size c21
 replace hX := Bel.out hX c21 om2
 replace hb2 := hb2.keep c21 om1
 refine Qd (Qe (Qc ?_))
 refine Rr (QO isAgg91 sizeOf91 rfl hb1.at rfl) ?_
 refine QX (v := .agg _) rfl sizeOf91 rfl rfl hb2 rfl rfl rfl ?_
 intro w23 c24 hb2
 change Box _ _ _ (id _) at hb2
 have z25 := Bel.size c24
 replace hX := Bel.out hX c24 om2
 refine Qd (Qy ?_)
 refine ⟨_, res_1 (v := .agg _) rfl (rv_cellS isAgg91 sizeOf91 rfl hb2.at rfl), ?_⟩
 exact ⟨⟨a10, rfl⟩, hX⟩

theorem sparts_ok (b : Nat) (p : PtV) (w : World) (hb : At w b 0 (ptC p)) (ho : OkS p.ar p.cr) : Ok Tryz.prog 37 #[pB b] w fun v w' => (∃ a, v = .agg (ptC { p with ar := a, cr := 0, ac := none, cc := 0 }).toArray) ∧ Ext False w w' := by
 have hbl := hb.lt
 refine Qz 11 func37 rfl rfl rfl ?_
 have hX := xRf w
 refine Qe (Qc ?_)
 refine QJ rfl (Zh zeroValue91) ?_
 intro b2 w1 x2 hge2 hb2
 have hlt2 := hb2.lt
 change Box _ _ _ ([.int _ _, .pointer _, .pointer _, .slice _ _ _, .pointer _, .pointer _, .pointer _, .slice _ _ _, .slice _ _ _, .pointer _]) at hb2
 have z3 := x2.size
 replace hX := hX.ex x2
 replace hb := hb.ext x2
 refine Qd (Qe (Qe (Qc ?_)))
 refine Rr (Ql (v := .pointer _) rfl) ?_
 refine Rr (o_peq underlying40 rfl rfl) ?_
 refine Qd ?_
 refine Qr rfl ?_
 refine Qu (Qe (Qc ?_))
 refine Rr (Ql (v := .pointer _) rfl) ?_
 refine Rr (QG rfl) ?_
 refine Rr (Qx underlying141 rfl sizeOf91 rfl) ?_
 refine Rr (QO isAgg91 sizeOf91 rfl hb rfl) ?_
 refine Qo rfl (QA call72 rfl) (Ok.mono (plists_ok p _ ho) ?_)
 rintro _ w4 ⟨⟨a10, rfl⟩, x5⟩
 have z6 := x5.size
 replace hX := hX.ex x5
 replace hb2 := hb2.ext x5
 refine QX (v := .agg _) rfl sizeOf91 rfl rfl hb2 rfl rfl rfl ?_
 intro w7 c8 hb2
 change Box _ _ _ (id _) at hb2
 have z9 := Bel.size c8
 replace hX := Bel.out hX c8 om2
 refine Qd (Qy ?_)
 refine ⟨_, res_1 (v := .agg _) rfl (rv_cellS isAgg91 sizeOf91 rfl hb2.at rfl), ?_⟩
 exact ⟨⟨a10, rfl⟩, hX⟩

theorem sday_ok (b : Nat) (p : PtV) (n : Nat) (L : List Men) (w : World) (hb : At w b 0 (ptC p)) (hp : PtIs w p n 2 L) : Ok Tryz.prog 44 #[pB b] w fun v w' => v = .int .i64 p.day ∧ Ext False w w' := by
 have hbl := hb.lt
 refine Qz 10 func44 rfl rfl rfl ?_
 have hX := xRf w
 refine Qe (Qc ?_)
 refine Rr Qm ?_
 refine Qd (Qe (Qe (Qc ?_)))
 refine Rr (Ql (v := .pointer _) rfl) ?_
 refine Rr (o_peq underlying40 rfl rfl) ?_
 refine Qd ?_
 refine Qr rfl ?_
 refine Qu (Qe (Qc ?_))
 refine Rr (Ql (v := .pointer _) rfl) ?_
 refine Rr (QG rfl) ?_
 refine Rr (Qx underlying141 rfl sizeOf91 rfl) ?_
 refine Rr (Qx underlying91 rfl sizeOf3 rfl) ?_
 refine Rr (Qn isAgg3 rfl (hb.get 0 rfl)) ?_
 refine Rr (asI rfl) ?_
 refine Qd (Qy ?_)
 refine ⟨_, Qp rfl rfl, ?_⟩
 refine ⟨congrArg (Value.int .i64) ?_, hX⟩
 all_goals (rfl)

theorem susers_ok (b : Nat) (p : PtV) (n : Nat) (L : List Men) (w : World) (hb : At w b 0 (ptC p)) (hp : PtIs w p n 2 L) : Ok Tryz.prog 45 #[pB b] w fun v w' => v = .int .i64 (n : Int) ∧ Ext False w w' := by
 have hbl := hb.lt
 refine Qz 11 func45 rfl rfl rfl ?_
 have hX := xRf w
 refine Qe (Qc ?_)
 refine Rr Qm ?_
 refine Qd (Qe (Qe (Qc ?_)))
 refine Rr (Ql (v := .pointer _) rfl) ?_
 refine Rr (o_peq underlying40 rfl rfl) ?_
 refine Qd ?_
 refine Qr rfl ?_
 refine Qu (Qe (Qc ?_))
 refine Rr (Ql (v := .pointer _) rfl) ?_
 refine Rr (QG rfl) ?_
 refine Rr (Qx underlying141 rfl sizeOf91 rfl) ?_
 refine Rr (Qx underlying91 rfl sizeOf83 rfl) ?_
 refine Rr (Qn isAgg83 rfl (hb.get 1 rfl)) ?_
 refine Qo rfl (QA call86 rfl) (Ok.mono (nlen_ok _ n _ hp.us) ?_)
 rintro _ w1 ⟨rfl, x2⟩
 replace hX := hX.ex x2
 refine Rr (asI rfl) ?_
 refine Qd (Qy ?_)
 refine ⟨_, Qp rfl rfl, ?_⟩
 refine ⟨congrArg (Value.int .i64) ?_, hX⟩
 all_goals (rfl)

theorem sadmin_ok (b : Nat) (p : PtV) (n : Nat) (L : List Men) (w : World) (hb : At w b 0 (ptC p)) (hp : PtIs w p n 2 L) : Ok Tryz.prog 80 #[pB b] w fun v w' => v = .agg (encSV ⟨p.aa, p.ca, 0⟩).toArray ∧ Ext False w w' := by
 have hbl := hb.lt
 refine Qz 11 func80 rfl rfl rfl ?_
 have hX := xRf w
 refine Qe (Qc ?_)
 refine QJ rfl (Zh zeroValue45) ?_
 intro b2 w1 x2 hge2 hb2
 have hlt2 := hb2.lt
 change Box _ _ _ (id _) at hb2
 have z3 := x2.size
 replace hX := hX.ex x2
 replace hb := hb.ext x2
 refine Qd (Qe (Qe (Qc ?_)))
 refine Rr (Ql (v := .pointer _) rfl) ?_
 refine Rr (o_peq underlying40 rfl rfl) ?_
 refine Qd ?_
 refine Qr rfl ?_
 refine Qu (Qe (Qc ?_))
 refine Rr (Ql (v := .pointer _) rfl) ?_
 refine Rr (QG rfl) ?_
 refine Rr (Qx underlying141 rfl sizeOf91 rfl) ?_
 refine Rr (Qx underlying91 rfl sizeOf45 rfl) ?_
 refine Rr (QO isAgg45 sizeOf45 rfl (hb.sub 3 1) rfl) ?_
 refine QX (v := .agg _) rfl sizeOf45 rfl rfl hb2 rfl rfl rfl ?_
 intro w4 c5 hb2
 change Box _ _ _ (id _) at hb2
 have z6 := Bel.size c5
 replace hX := Bel.out hX c5 om2
 refine Qd (Qy ?_)
 refine ⟨_, res_1 (v := .agg _) rfl (rv_cellS isAgg45 sizeOf45 rfl hb2.at rfl), ?_⟩
 exact ⟨rfl, hX⟩

set_option maxHeartbeats 1000000 in
theorem sreg_ok (b : Nat) (p : PtV) (n : Nat) (L : List Men) (w : World) (hb : At w b 0 (ptC p)) (hp : PtIs w p n 2 L) : Ok Tryz.prog 78 #[pB b] w fun v w' => ∃ a c, v = .agg (encSV ⟨a, c, 6⟩).toArray ∧ Sl encU 1 (Fsh w w') w' a c (wl (6)) ∧ Ext False w w' := by
 have hbl := hb.lt
 refine Qz 17 func78 rfl rfl rfl ?_
 have hX := xRf w
 refine Qe (Qc ?_)
 refine QJ rfl (Zh zeroValue45) ?_
 intro b2 w1 x2 hge2 hb2
 have hlt2 := hb2.lt
 change Box _ _ _ ([.slice _ _ _]) at hb2
 have z3 := x2.size
 replace hX := hX.ex x2
 replace hb := hb.ext x2
 replace hp := hp.ext x2
 refine Qd (Qe (Qe (Qc ?_)))
 refine Rr (Ql (v := .pointer _) rfl) ?_
 refine Rr (o_peq underlying40 rfl rfl) ?_
 refine Qd ?_
 refine Qr rfl ?_
 refine Qu (Qe ?_)
 obtain ⟨n1, hn1⟩ : ∃ n, n = w1.heap.size := ⟨_, rfl⟩
 apply Ze (β := False) (fun _ => 0) [peqC _, peqC _, peqC _, peqC _, (postW (SvN n1 (6))), peqC _, peqC _, peqC _, peqC _, peqC _, (postW (SvN n1 (6)))] [0, 0, 0, 0, 0, 0, 0, 0, 0, 0, 0] 11 Q9 (by kernel_rfl) (by kernel_rfl) rfl ⟨Qi _ _, Qi _ _, Qi _ _, Qi _ _, (postW_stable (SvN.keepS _ _)), Qi _ _, Qi _ _, Qi _ _, Qi _ _, Qi _ _, (postW_stable (SvN.keepS _ _)), trivial⟩ ?ob3 ?fin3
 case ob3 =>
  refine Qk (fun w4 c6 x5 hc07 hk8 => ?_) ?_
  ·replace x5 := RelG.ext0 x5
   have z9 := x5.size
   refine Qj ?_
   exact Qs rfl (Ql (v := .pointer _) rfl)
  refine Qk (fun w10 c12 x11 hc013 hk14 => ?_) ?_
  ·replace x11 := RelG.ext0 x11
   have z15 := x11.size
   refine Qb (Qj ?_)
   exact Qs rfl (QG rfl)
  refine Qk (fun w16 c18 x17 hc019 hk20 => ?_) ?_
  ·replace x17 := RelG.ext0 x17
   have z21 := x17.size
   refine Qb (Qj ?_)
   exact Qs rfl (Qx underlying141 rfl sizeOf91 rfl)
  refine Qk (fun w22 c24 x23 hc025 hk26 => ?_) ?_
  ·replace x23 := RelG.ext0 x23
   have z27 := x23.size
   have hb := hb.ext x23
   refine Qb (Qj ?_)
   exact Qs rfl (QO isAgg91 sizeOf91 rfl hb rfl)
  refine Qk (fun w28 c30 x29 hc031 hk32 => ?_) ?_
  ·replace x29 := RelG.ext0 x29
   have z33 := x29.size
   have hp := hp.ext x29
   refine Qb (Qj ?_)
   exact OpC_W (S := SvN n1 (6)) rfl (QA call107 rfl) ((proles_ok p _ hp.rs).mono (fun v w2 ⟨a, c, h1, h2, x⟩ => ⟨⟨fun g hg => by have := hg.1; omega, a, c, h1, h2⟩, x⟩))
  refine Qk (fun w34 c36 x35 hc037 hk38 => ?_) ?_
  ·replace x35 := RelG.ext0 x35
   have z39 := x35.size
   refine Qj ?_
   exact Qs rfl (Ql (v := .pointer _) rfl)
  refine Qk (fun w40 c42 x41 hc043 hk44 => ?_) ?_
  ·replace x41 := RelG.ext0 x41
   have z45 := x41.size
   refine Qb (Qj ?_)
   exact Qs rfl (QG rfl)
  refine Qk (fun w46 c48 x47 hc049 hk50 => ?_) ?_
  ·replace x47 := RelG.ext0 x47
   have z51 := x47.size
   refine Qb (Qj ?_)
   exact Qs rfl (Qx underlying141 rfl sizeOf91 rfl)
  refine Qk (fun w52 c54 x53 hc055 hk56 => ?_) ?_
  ·replace x53 := RelG.ext0 x53
   have z57 := x53.size
   refine Qb (Qj ?_)
   exact Qs rfl (Qx underlying91 rfl sizeOf45 rfl)
  refine Qk (fun w58 c60 x59 hc061 hk62 => ?_) ?_
  ·replace x59 := RelG.ext0 x59
   have z63 := x59.size
   have hb := hb.ext x59
   refine Qb (Qj ?_)
   exact Qs rfl (QO isAgg45 sizeOf45 rfl (hb.sub 3 1) rfl)
  refine Qk (fun w64 c66 x65 hc067 hk68 => ?_) ?_
  ·replace x65 := RelG.ext0 x65
   have z69 := x65.size
   have hp := hp.ext x65
   refine Qw (fun v10 hv10 => ?_)
   obtain ⟨F10, hF10, hn10, a10, c10, rfl, hq10⟩ := hv10
   refine Qb ?_
   refine Qw (fun v10 hv10 => ?_)
   obtain ⟨F10, hF10, hn10, a10, c10, rfl, hq10⟩ := hv10
   refine Qj ?_
   exact OpC_W (S := SvN n1 (6)) rfl (QM call111 rfl rfl) ((bminus6_ok a10 c10 _ p.aa p.ca _ hq10 hp.oa).mono (fun v w2 ⟨a, c, h1, h2, x⟩ => ⟨⟨fun g hg => by have := hg.1; omega, a, c, h1, h2⟩, x⟩))
  exact Q8
 case fin3 =>
  intro w70 c72 x71 hc073
  replace x71 := RelG.ext0 x71
  have z74 := x71.size
  replace hX := hX.ex x71
  replace hb2 := hb2.ext x71
  refine Qb (Qb (Qb (Qb ?_)))
  refine Qw (fun v10 hv10 => ?_)
  obtain ⟨F10, hF10, hn10, a10, c10, rfl, hq10⟩ := hv10
  refine Qb (Qb (Qb (Qb (Qb ?_))))
  refine Qw (fun v16 hv16 => ?_)
  refine Qj ?_
  obtain ⟨F16, hF16, hn16, a16, c16, rfl, hq16⟩ := hv16
  replace hq16 := hq16.mono (F' := fun g => n1 ≤ g) (fun g _ h => hn16 g h)
  refine QX (v := .agg _) rfl sizeOf45 rfl rfl hb2 rfl rfl rfl ?_
  intro w75 c76 hb2
  change Box _ _ _ (encSV _) at hb2
  have z77 := Bel.size c76
  replace hX := Bel.out hX c76 om2
  replace hq16 := hq16.keep c76 om3
  refine Qd (Qy ?_)
  refine ⟨_, res_1 (v := .agg _) rfl (rv_cellS isAgg45 sizeOf45 rfl hb2.at rfl), ?_⟩
  exact ⟨_, _, rfl, hq16.mono (fun g h1 h2 => ⟨by omega, h1⟩), hX⟩

set_option maxHeartbeats 1000000 in
theorem sexpl_ok (b : Nat) (p : PtV) (n : Nat) (L : List Men) (w : World) (hb : At w b 0 (ptC p)) (hp : PtIs w p n 2 L) (hm : OkN L) (u : Int) (hu : 1 ≤ u ∧ u ≤ n) : Ok Tryz.prog 46 #[pB b, .int .i64 u] w fun v w' => ∃ a c, v = .agg (encSV ⟨a, c, onW L u p.day⟩).toArray ∧ Sl encU 1 (Fsh w w') w' a c (wl (onW L u p.day)) ∧ Ext False w w' := by
 have hbl := hb.lt
 refine Qz 30 func46 rfl rfl rfl ?_
 have hX := xRf w
 refine Qe (Qc ?_)
 refine QJ rfl (Zh zeroValue45) ?_
 intro b4 w1 x2 hge4 hb4
 have hlt4 := hb4.lt
 change Box _ _ _ ([.slice _ _ _]) at hb4
 have z3 := x2.size
 replace hX := hX.ex x2
 replace hb := hb.ext x2
 replace hp := hp.ext x2
 refine Qd (Qe (Qe (Qc ?_)))
 refine Rr (Ql (v := .pointer _) rfl) ?_
 refine Rr (o_peq underlying40 rfl rfl) ?_
 refine Rr (mvB rfl) ?_
 refine QF 2 7 rfl rfl ?_
 refine Rr (mvI rfl) ?_
 refine QF 2 7 rfl rfl ?_
 refine Rr (QQ rfl rfl) ?_
 refine Rr (Q3 (v := .bool _) rfl rfl) ?_
 refine Rr (mvB rfl) ?_
 refine Qq 6 11 rfl rfl rfl (fun hg => (mvI rfl)) ?_
 refine Qq 6 11 rfl rfl rfl (fun hg => (Ql (v := .pointer _) rfl)) ?_
 refine Rg_mayCall 6 11 rfl rfl rfl (fun hg => ⟨(QA call45 (QE (u := undef) hg)), susers_ok b p n L _ hb hp⟩) ?_
 intro w4 x5
 have z6 := x5.size
 replace hX := hX.ex x5
 replace hb := hb.ext x5
 replace hp := hp.ext x5
 replace hb4 := hb4.ext x5
 refine Qq 6 11 rfl rfl rfl (fun hg => (o_gtr (QE (u := undef) hg) (QE (u := undef) hg))) ?_
 refine Rr (o_or (u := undef) rfl rfl) ?_
 refine Qd ?_
 refine Qr (cvB (by simp; omega)) ?_
 refine Qu (Qe ?_)
 obtain ⟨n1, hn1⟩ : ∃ n, n = w4.heap.size := ⟨_, rfl⟩
 apply Ze (β := False) (fun _ => 0) [peqC _, peqC _, peqC _, peqC _, peqC _, peqC _, peqC _, peqC _, peqC _, peqC _, peqC _, (postW (SvN n1 (onW L u p.day)))] [0, 0, 0, 0, 0, 0, 0, 0, 0, 0, 0, 0] 12 Q9 (by kernel_rfl) (by kernel_rfl) rfl ⟨Qi _ _, Qi _ _, Qi _ _, Qi _ _, Qi _ _, Qi _ _, Qi _ _, Qi _ _, Qi _ _, Qi _ _, Qi _ _, (postW_stable (SvN.keepS _ _)), trivial⟩ ?ob3 ?fin3
 case ob3 =>
  refine Qk (fun w7 c9 x8 hc010 hk11 => ?_) ?_
  ·replace x8 := RelG.ext0 x8
   have z12 := x8.size
   refine Qj ?_
   exact Qs rfl (Ql (v := .pointer _) rfl)
  refine Qk (fun w13 c15 x14 hc016 hk17 => ?_) ?_
  ·replace x14 := RelG.ext0 x14
   have z18 := x14.size
   refine Qb (Qj ?_)
   exact Qs rfl (QG rfl)
  refine Qk (fun w19 c21 x20 hc022 hk23 => ?_) ?_
  ·replace x20 := RelG.ext0 x20
   have z24 := x20.size
   refine Qb (Qj ?_)
   exact Qs rfl (Qx underlying141 rfl sizeOf91 rfl)
  refine Qk (fun w25 c27 x26 hc028 hk29 => ?_) ?_
  ·replace x26 := RelG.ext0 x26
   have z30 := x26.size
   refine Qb (Qj ?_)
   exact Qs rfl (Qx underlying91 rfl sizeOf85 rfl)
  refine Qk (fun w31 c33 x32 hc034 hk35 => ?_) ?_
  ·replace x32 := RelG.ext0 x32
   have z36 := x32.size
   have hb := hb.ext x32
   refine Qb (Qj ?_)
   exact Qs rfl (Qn isAgg85 rfl (hb.get 5 rfl))
  refine Qk (fun w37 c39 x38 hc040 hk41 => ?_) ?_
  ·replace x38 := RelG.ext0 x38
   have z42 := x38.size
   refine Qj ?_
   exact Qs rfl (mvI rfl)
  refine Qk (fun w43 c45 x44 hc046 hk47 => ?_) ?_
  ·replace x44 := RelG.ext0 x44
   have z48 := x44.size
   refine Qj ?_
   exact Qs rfl (Ql (v := .pointer _) rfl)
  refine Qk (fun w49 c51 x50 hc052 hk53 => ?_) ?_
  ·replace x50 := RelG.ext0 x50
   have z54 := x50.size
   refine Qb (Qj ?_)
   exact Qs rfl (QG rfl)
  refine Qk (fun w55 c57 x56 hc058 hk59 => ?_) ?_
  ·replace x56 := RelG.ext0 x56
   have z60 := x56.size
   refine Qb (Qj ?_)
   exact Qs rfl (Qx underlying141 rfl sizeOf91 rfl)
  refine Qk (fun w61 c63 x62 hc064 hk65 => ?_) ?_
  ·replace x62 := RelG.ext0 x62
   have z66 := x62.size
   refine Qb (Qj ?_)
   exact Qs rfl (Qx underlying91 rfl sizeOf3 rfl)
  refine Qk (fun w67 c69 x68 hc070 hk71 => ?_) ?_
  ·replace x68 := RelG.ext0 x68
   have z72 := x68.size
   have hb := hb.ext x68
   refine Qb (Qj ?_)
   exact Qs rfl (Qn isAgg3 rfl (hb.get 0 rfl))
  refine Qk (fun w73 c75 x74 hc076 hk77 => ?_) ?_
  ·replace x74 := RelG.ext0 x74
   have z78 := x74.size
   have hp := hp.ext x74
   refine Qb (Qb (Qb (Qj ?_)))
   exact OpC_W (S := SvN n1 (onW L u p.day)) rfl (o_call3 call87 rfl rfl rfl) ((mon_ok _ L _ hp.mb hm u p.day).mono (fun v w2 ⟨a, c, h1, h2, x⟩ => ⟨⟨fun g hg => by have := hg.1; omega, a, c, h1, h2⟩, x⟩))
  exact Q8
 case fin3 =>
  intro w79 c81 x80 hc082
  replace x80 := RelG.ext0 x80
  have z83 := x80.size
  replace hX := hX.ex x80
  replace hb4 := hb4.ext x80
  refine Qb (Qb (Qb (Qb (Qb (Qb (Qb (Qb (Qb ?_))))))))
  refine Qb (Qb ?_)
  refine Qw (fun v29 hv29 => ?_)
  refine Qj ?_
  obtain ⟨F29, hF29, hn29, a29, c29, rfl, hq29⟩ := hv29
  replace hq29 := hq29.mono (F' := fun g => n1 ≤ g) (fun g _ h => hn29 g h)
  refine QX (v := .agg _) rfl sizeOf45 rfl rfl hb4 rfl rfl rfl ?_
  intro w84 c85 hb4
  change Box _ _ _ (encSV _) at hb4
  have z86 := Bel.size c85
  replace hX := Bel.out hX c85 om2
  replace hq29 := hq29.keep c85 om3
  refine Qd (Qy ?_)
  refine ⟨_, res_1 (v := .agg _) rfl (rv_cellS isAgg45 sizeOf45 rfl hb4.at rfl), ?_⟩
  exact ⟨_, _, rfl, hq29.mono (fun g h1 h2 => ⟨by omega, h1⟩), hX⟩

