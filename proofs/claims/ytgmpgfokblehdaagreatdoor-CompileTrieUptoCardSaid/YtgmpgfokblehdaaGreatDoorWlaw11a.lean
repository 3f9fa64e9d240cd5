/- Walks: what functions return. -/
import Derived.Test.YtgmpgfokblehdaaGreatDoorWperm
set_option linter.unusedVariables false
set_option linter.unusedSimpArgs false
set_option linter.unnecessarySimpa false
namespace Go.Proofs.YtgmpgfokblehdaaGreatDoor
open Go Go.Lx Go.RowKit Tryz
set_option maxRecDepth 100000
theorem make_ok (w : World) (x : RawV) (hx : Sl encB 1 (Lt w.heap.size) w x.a x.c x.names) : Ok Tryz.prog 29 #[.agg (encR x).toArray] w fun v w' => v = .tuple #[.agg (encP x.perm).toArray, .agg (encP x.perm).toArray] ∧ Ext False w w' := by
 refine Qv 16 func29 rfl rfl rfl ?_
 have hX := xRf w
 refine Qf (Qb (QH rfl (QX (v := .agg _) rfl) ?_))
 intro b1 w1 x2 hge1 hb1
 have hlt1 := hb1.lt
 have z3 := x2.size
 replace hX := hX.ex x2
 replace hx := hx.ext x2
 refine QH rfl (Q4 zeroValue50) ?_
 intro b2 w4 x5 hge2 hb2
 have hlt2 := hb2.lt
 have z6 := x5.size
 replace hX := hX.ex x5
 replace hx := hx.ext x5
 replace hb1 := hb1.ext x5
 refine QH rfl (Q4 zeroValue78) ?_
 intro b3 w7 x8 hge3 hb3
 have hlt3 := hb3.lt
 have z9 := x8.size
 replace hX := hX.ex x8
 replace hx := hx.ext x8
 replace hb1 := hb1.ext x8
 replace hb2 := hb2.ext x8
 refine Qc (Qf ?_)
 apply Zl (β := False) (fun _ => 0) [peqC _, peqC _, peqC _, peqC _, peqC _, peqC _, peqC _, peqC _, peqC _, (postBox w7 78 [str [], str [], .bool false])] [0, 0, 0, 0, 0, 0, 0, 0, 0, 0] 10 QV (by kernel_rfl) (by kernel_rfl) rfl ⟨Qk _ _, Qk _ _, Qk _ _, Qk _ _, Qk _ _, Qk _ _, Qk _ _, Qk _ _, Qk _ _, (Je), trivial⟩ ?ob1 ?fin1
 case ob1 =>
  refine Ql (fun w10 c12 x11 hc013 hk14 => Qi (Qx rfl (Qy underlying83 rfl sizeOf5 rfl))) (Ql (fun w16 c18 x17 hc019 hk20 => ?_) ?_)
  ·replace x17 := RelG.ext0 x17
   have hb1 := hb1.ext x17
   exact Qh (Qi (Qx rfl (Qm isAgg5 rfl (hb1.at.get 0 rfl))))
  refine Ql (fun w22 c24 x23 hc025 hk26 => Qh (Qi (Jf rfl (QD call78 rfl) (raction_ok (False) _ _)))) (Ql (fun w28 c30 x29 hc031 hk32 => Qi (Qx rfl (Qy underlying83 rfl sizeOf81 rfl))) (Ql (fun w34 c36 x35 hc037 hk38 => ?_) ?_))
  ·replace x35 := RelG.ext0 x35
   have hb1 := hb1.ext x35
   exact Qh (Qi (Qx rfl (Qm isAgg81 rfl (hb1.at.get 1 rfl))))
  refine Ql (fun w40 c42 x41 hc043 hk44 => ?_) ?_
  ·replace x41 := RelG.ext0 x41
   have hx := hx.ext x41
   exact Qh (Qh (Qi (Jf rfl (QD call79 rfl) (rpath_ok _ _ _ hx.trd))))
  refine Ql (fun w46 c48 x47 hc049 hk50 => Qi (Qx rfl (Qy underlying83 rfl sizeOf4 rfl))) (Ql (fun w52 c54 x53 hc055 hk56 => ?_) ?_)
  ·replace x53 := RelG.ext0 x53
   have hb1 := hb1.ext x53
   exact Qh (Qi (Qx rfl (Qm isAgg4 rfl (hb1.at.get 2 rfl))))
  refine Ql (fun w58 c60 x59 hc061 hk62 => Qh (Qh (Qh (Qi (Qx rfl (Q2 (cells := encP x.perm) (vs := [(0, str _), (1, str _), (2, .bool _)]) rfl (by kernel_rfl))))))) (Ql (fun w64 c66 x65 hc067 hk68 => ?_) ?_)
  ·replace x65 := RelG.ext0 x65
   exact Qi (OpC_box (Bel.size x65) rfl (Q4 zeroValue78))
  exact Q8
 case fin1 =>
  intro w70 c72 x71 hc073
  replace x71 := RelG.ext0 x71
  have z74 := x71.size
  replace hX := hX.ex x71
  replace hb2 := hb2.ext x71
  replace hb3 := hb3.ext x71
  refine Qh (Qh (Qh (Qh (Qh (Qh (Qh (Qh (Qh (Qz (fun v4 hv4 => Qi ?_))))))))))
  obtain ⟨b4, rfl, hge4, hb4, hcb4⟩ := hv4
  have hlt4 := hb4.lt
  refine QS (v := .agg _) rfl sizeOf78 rfl rfl hb4 rfl rfl rfl ?_
  intro w75 c76 hb4
  have z77 := Bel.size c76
  replace hX := Bel.out hX c76 om2
  replace hb2 := hb2.keep c76 om1
  replace hb3 := hb3.keep c76 om1
  refine Qc (Qf ?_)
  apply Zl (β := False) (fun b => if b = b2 then 1 else 0) [peqC _, peqC _, (postAt b2 1 _ (encP _))] [0, 0, 1] 3 QV (by kernel_rfl) (by kernel_rfl) rfl ⟨Qk _ _, Qk _ _, (JS), trivial⟩ ?ob2 ?fin2
  case ob2 =>
   refine Ql (fun w78 c80 x79 hc081 hk82 => ?_) ?_
   ·replace x79 := Bel.mono x79 (D' := fun g => g = b2) omC
    have z83 := x79.size
    have hb4 := hb4.keep x79 om1
    exact Qi (Qx rfl (QF isAgg78 sizeOf78 rfl hb4.at rfl))
   refine Ql (fun w84 c86 x85 hc087 hk88 => ?_) ?_
   ·replace x85 := Bel.mono x85 (D' := fun g => g = b2) omC
    have z89 := x85.size
    have hb4 := hb4.keep x85 om1
    exact Qi (Qx rfl (QF isAgg78 sizeOf78 rfl hb4.at rfl))
   refine Ql (fun w90 c92 x91 hc093 hk94 => ?_) ?_
   ·refine Qh (Qh (Qi ?_))
    exact OpC_storeW (v := .agg _) (by decide) sizeOf50 rfl rfl (hb2.blk (hk94 1 (by decide) (by kernel_rfl) _ hb2.lt (by first | (simp [colAt]; done) | (simp [colAt]; omega)))) ((hc093 b2 hb2.lt).trans (by first | (simp [colAt]; done) | (simp [colAt]; omega))) rfl rfl rfl
   exact Q8
  case fin2 =>
   intro w96 c98 x97 hc099
   replace x97 := Bel.mono x97 (D' := fun g => g = b2) omC
   have z100 := x97.size
   replace hX := Bel.out hX x97 om2
   replace hb3 := hb3.keep x97 om1
   refine Qh (Qh (JG rfl (fun hst2 => Qi ?_)))
   have hb2 := hst2.1
   refine QS (v := .agg _) rfl sizeOf78 rfl rfl hb3 rfl rfl rfl ?_
   intro w101 c102 hb3
   have z103 := Bel.size c102
   replace hX := Bel.out hX c102 om2
   replace hb2 := hb2.keep c102 om1
   exact Qc (Qu ⟨_, res_T (vs := [.agg _, .agg _]) rfl ⟨Zb isAgg50 sizeOf50 rfl hb2.at rfl, Zb isAgg78 sizeOf78 rfl hb3.at rfl, trivial⟩ (by simp), ⟨rfl, hX⟩⟩)
