/- Walks: what functions return. -/
import Derived.Test.YtjnjalalkbamkaaGreatDoorWsli
set_option linter.unusedVariables false
set_option linter.unusedSimpArgs false
set_option linter.unnecessarySimpa false
namespace Go.Proofs.YtjnjalalkbamkaaGreatDoor
open Go Go.Lx Go.RowKit Tryz
set_option maxRecDepth 100000
theorem bwithout_ok (w : World) (s : SV) (Gs : Nat → Prop) (hs : Sl encU 1 Gs w s.a s.c (wl s.x)) (i : Nat) (hi : i < 64) (hb : s.x.getLsbD i = true) : Ok Tryz.prog 135 #[.agg (encSV s).toArray, .int .i64 (i : Int)] w fun v w' => ∃ a c, v = .agg (encSV ⟨a, c, s.x &&& ~~~(oneW i)⟩).toArray ∧ Sl encU 1 (Fsh w w') w' a c (wl (s.x &&& ~~~(oneW i))) ∧ Ext False w w' := by
 replace hs := hs.mono (F' := fun g => Gs g ∧ g < w.heap.size) (fun g h1 h2 => ⟨h2, h1⟩)
 have hw1 : wl s.x = [s.x] := wl_some (by rintro e; rw [e] at hb; simp at hb)
 have hl1 : (wl s.x).length = 1 := by rw [hw1]; rfl
 refine Qz 27 func135 rfl rfl rfl ?_
 have hX := xRf w
 refine Qe (Qc ?_)
 refine QJ rfl (Q4 (v := .agg _) rfl) ?_
 intro b2 w1 x2 hge2 hb2
 have hlt2 := hb2.lt
 change Box _ _ _ (encSV _) at hb2
 have z3 := x2.size
 replace hX := hX.ex x2
 replace hs := hs.ext x2
 refine QJ rfl (Zh zeroValue45) ?_
 intro b4 w4 x5 hge4 hb4
 have hlt4 := hb4.lt
 change Box _ _ _ ([.slice _ _ _]) at hb4
 have z6 := x5.size
 replace hX := hX.ex x5
 replace hs := hs.ext x5
 replace hb2 := hb2.ext x5
 refine Qd (Qe (Qe (Qc ?_)))
 refine Rr (QO isAgg45 sizeOf45 rfl hb2.at rfl) ?_
 refine Rr (mvI rfl) ?_
 refine Qo rfl (QM call85 rfl rfl) (Ok.mono (bhas_ok _ ⟨_, _, _⟩ _ hs _ (by unfold I64; omega)) ?_)
 rintro _ w7 ⟨rfl, x8⟩
 have z9 := x8.size
 replace hX := hX.ex x8
 replace hs := hs.ext x8
 replace hb2 := hb2.ext x8
 replace hb4 := hb4.ext x8
 refine Rr (Q5 rfl) ?_
 refine Qd ?_
 refine Qr (cvB (by rw [hasW_nat, hb]; rfl)) ?_
 refine Qu (Qe (Qc ?_))
 obtain ⟨n0, hn0⟩ : ∃ n, n = w7.heap.size := ⟨_, rfl⟩
 refine Rg_bs (vs := []) (([] : List W64)) rfl Zd el_word rfl rfl trivial rfl rfl rfl rfl ?_
 intro a11 w10 x11 hown11
 have z12 := x11.size
 replace hX := hX.ex x11
 replace hs := hs.ext x11
 replace hb2 := hb2.ext x11
 replace hb4 := hb4.ext x11
 replace hown11 := hown11.mono (D' := fun g => n0 ≤ g) (fun g h1 h2 => by omega)
 refine Rr (Qx underlying45 rfl sizeOf43 rfl) ?_
 refine Rr (Qn isAgg43 rfl (hb2.at.get 0 rfl)) ?_
 refine Rg_app rfl Zd el_word rfl rfl hown11 hs rfl (by simp; omega) omU ?_
 intro v14 w13 x14 hown11
 have z15 := x14.size
 replace hX := Bel.out hX x14 om2
 replace hb4 := hb4.keep x14 om1
 refine Rr (Qv (v := v14) rfl) ?_
 refine Qd (Qe ?_)
 rw [List.nil_append, hw1] at hown11
 obtain ⟨a11, c11, hv11, -⟩ := hown11.sl Zd
 subst hv11
 apply W_draw (β := False) [peq _, peq _, peq _, peq _, peq _, peq _, peq _, peq _, peq _, peq _] 10 Q9 (by kernel_rfl) rfl ⟨Qf _, Qf _, Qf _, Qf _, Qf _, Qf _, Qf _, Qf _, Qf _, Qf _, trivial⟩ ?ob4 ?fin4
 case ob4 =>
  refine Qh (fun w16 x17 => ?_) ?_
  ·have z18 := x17.size
   refine Qg ?_
   exact Qt rfl (Ql (v := .slice a11 1 c11) rfl)
  refine Qh (fun w19 x20 => ?_) ?_
  ·have z21 := x20.size
   refine Qg ?_
   exact Qt rfl (mvI rfl)
  refine Qh (fun w22 x23 => ?_) ?_
  ·have z24 := x23.size
   refine Qa (Qg ?_)
   exact Qt rfl (o_quoZ (b := 64) rfl rfl (by omega) (by omega) (by unfold I64; omega))
  refine Qh (fun w25 x26 => ?_) ?_
  ·have z27 := x26.size
   have hown11 := hown11.ext x26
   refine Qa (Qa (Qg ?_))
   exact Qt rfl (Zf (i := 0) underlying43 sizeOf67 hown11 rfl rfl (by simp))
  refine Qh (fun w28 x29 => ?_) ?_
  ·have z30 := x29.size
   have hown11 := hown11.ext x29
   refine Qa (Qg ?_)
   exact Qt rfl (o_ldR isAgg67 (hown11.slA Zd) rfl rfl (i := 0) rfl rfl)
  refine Qh (fun w31 x32 => ?_) ?_
  ·have z33 := x32.size
   refine Qg ?_
   exact Qt rfl (mvI rfl)
  refine Qh (fun w34 x35 => ?_) ?_
  ·have z36 := x35.size
   refine Qa (Qg ?_)
   exact Qt rfl (o_remT (b := 64) rfl rfl (by omega) (by decide) (by unfold I64; omega))
  refine Qh (fun w37 x38 => ?_) ?_
  ·have z39 := x38.size
   refine Qa (Qg ?_)
   exact Qt rfl (o_shlU (a := BitVec.ofNat 64 1) rfl rfl (Nat.mod_lt _ (by decide)))
  refine Qh (fun w40 x41 => ?_) ?_
  ·have z42 := x41.size
   refine Qa (Qa (Qg ?_))
   exact Qt rfl (o_bandn rfl rfl)
  refine Qh (fun w43 x44 => ?_) ?_
  ·have z45 := x44.size
   have hown11 := hown11.ext x44
   refine Qa (Qa (Qa (Qa (Qa (Qa (Qa (Qa (Qa ?_))))))))
   refine Qa (Qa (Qg ?_))
   exact Qt rfl (Zf (i := 0) underlying43 sizeOf67 hown11 rfl rfl (by simp))
  exact Q7
 case fin4 =>
  intro w46 x47
  have z48 := x47.size
  replace hX := hX.ex x47
  replace hb4 := hb4.ext x47
  replace hown11 := hown11.ext x47
  refine Qa (Qa (Qa (Qa (Qa (Qa (Qa (Qa (Qa ?_))))))))
  refine Qa (Qg ?_)
  refine Rg_elst (u := s.x &&& ~~~(1#64 <<< ((i : Int).toNat % 64))) rfl Zd sizeOf67 rfl rfl rfl hown11 (by simp) ?_
  intro w49 x50 hown11
  have z51 := x50.size
  replace hX := Bel.out hX x50 om2
  replace hb4 := hb4.keep x50 om1
  rw [show (i : Int).toNat % 64 = i by omega] at hown11
  refine Qd (Qe (Qc ?_))
  refine Rr (Ql (v := .slice a11 1 c11) rfl) ?_
  refine Qo rfl (QA call42 rfl) (Ok.mono (btrim_ok _ _ _ [s.x &&& ~~~(oneW i)] _ (hown11.slA Zd) (by simp)) ?_)
  rintro _ w52 ⟨rfl, x53⟩
  have z54 := x53.size
  replace hX := hX.ex x53
  replace hb4 := hb4.ext x53
  replace hown11 := hown11.ext x53
  refine QX (v := .agg _) rfl sizeOf45 rfl rfl hb4 rfl rfl rfl ?_
  intro w55 c56 hb4
  change Box _ _ _ (encSV _) at hb4
  have z57 := Bel.size c56
  replace hX := Bel.out hX c56 om2
  replace hown11 := hown11.keepD c56 om3
  refine Qd (Qy ?_)
  refine ⟨_, res_1 (v := .agg _) rfl (rv_cellS isAgg45 sizeOf45 rfl hb4.at rfl), ?_⟩
  exact ⟨_, _, rfl, (trim_sl (hown11.slA Zd) (by simp)).mono (fun g h1 h2 => ⟨by omega, by omega⟩), hX⟩

theorem sclone_ok (w : World) (vl : Value) (l : List SE) (hl : Rd encSe 3 (Lt w.heap.size) w vl l) (nl : l.length ≤ 100000) : Ok Tryz.prog 165 #[vl] w fun v w' => Own encSe 3 221 (Fsh w w') w' v (l) ∧ Ext False w w' := by
 obtain ⟨al, cl, rfl, hl⟩ := hl; have ml := hl.len
 refine Qz 8 func165 rfl rfl rfl ?_
 have hX := xRf w
 refine Qe (Qc ?_)
 refine Rr Qm ?_
 refine Qd (Qe (Qe (Qc ?_)))
 refine Rr (mvS rfl) ?_
 refine Rr (o_lnil underlying176 rfl) ?_
 refine Qd ?_
 refine QD rfl (fun hc1 => ?_) (fun hc1 => ?_)
 ·have hnl := sl_none hl hc1; subst hnl
  refine Qe (Qc ?_)
  refine Rr Qm ?_
  refine Qd (Qy ?_)
  refine ⟨_, Qp rfl rfl, ?_⟩
  exact ⟨Own.nil _ _, hX⟩
 refine Qu (Qe (Qc ?_))
 refine Rg_bs (vs := []) (([] : List SE)) rfl encSe_ok el_ses rfl rfl trivial rfl rfl rfl rfl ?_
 intro a5 w1 x2 hown5
 have z3 := x2.size
 replace hX := hX.ex x2
 replace hl := hl.ext x2
 replace hown5 := hown5.mono (D' := fun g => w.heap.size ≤ g) (fun g h1 h2 => by omega)
 refine Rr (mvS rfl) ?_
 refine Rg_app rfl encSe_ok el_ses rfl rfl hown5 hl rfl (by simp; omega) omU ?_
 intro v7 w4 x5 hown5
 have z6 := x5.size
 replace hX := Bel.out hX x5 om2
 refine Rr (Qv (v := v7) rfl) ?_
 refine Qd (Qy ?_)
 refine ⟨_, Qp rfl rfl, ?_⟩
 rw [List.nil_append] at hown5; exact ⟨hown5.mono (fun g h1 h2 => by omega), hX⟩

