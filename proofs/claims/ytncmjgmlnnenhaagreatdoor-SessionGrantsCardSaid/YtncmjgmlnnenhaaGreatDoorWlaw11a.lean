/- Walks, printed by program: each theorem says what a function of the translation returns. -/
import Derived.Test.YtncmjgmlnnenhaaGreatDoorWref11d
import Derived.Test.YtncmjgmlnnenhaaGreatDoorPure11c
namespace Go.Proofs.YtncmjgmlnnenhaaGreatDoor
open Go Go.Lx Go.RowKit
set_option maxRecDepth 100000
set_option linter.unusedVariables false
set_option linter.unusedSimpArgs false
set_option linter.unnecessarySimpa false
theorem make_ok (w : World) (x : RawV) (hx : Sl encB 1 (Lt w.heap.size) w x.a x.c x.names) : Ok Tryz.prog 62 #[.agg (encR x).toArray] w fun v w' => v = .tuple #[.agg (encP x.perm).toArray, .agg (encP x.perm).toArray] ∧ Ext False w w' := by
  refine Ok_of_W 16 Tryz.func62 rfl rfl rfl ?_
  have hX : Ext False w w := Bel.refl _ _
  refine W_seq (W_region ?_)
  refine Rg_newB rfl (o_box (v := .agg _) rfl) ?_
  intro b1 w1 x2 hge1 hb1
  have hlt1 := hb1.lt
  change Box _ _ _ (encR _) at hb1
  have z3 := Bel.size x2
  replace hX := Bel.ex hX x2
  replace hx := hx.ext x2
  refine Rg_newB rfl (o_alloc Tryz.zeroValue75) ?_
  intro b2 w4 x5 hge2 hb2
  have hlt2 := hb2.lt
  change Box _ _ _ ([str _, str _, .bool _]) at hb2
  have z6 := Bel.size x5
  replace hX := Bel.ex hX x5
  replace hx := hx.ext x5
  replace hb1 := hb1.ext x5
  refine Rg_newB rfl (o_alloc Tryz.zeroValue111) ?_
  intro b3 w7 x8 hge3 hb3
  have hlt3 := hb3.lt
  change Box _ _ _ ([str _, str _, .bool _]) at hb3
  have z9 := Bel.size x8
  replace hX := Bel.ex hX x8
  replace hx := hx.ext x8
  replace hb1 := hb1.ext x8
  replace hb2 := hb2.ext x8
  refine Rg_nil (W_seq ?_)
  apply W_drawC (β := False) (fun _ => 0) [peqC _, peqC _, peqC _, peqC _, peqC _, peqC _, peqC _, peqC _, peqC _, (postBox w7 111 [str [], str [], .bool false])] [0, 0, 0, 0, 0, 0, 0, 0, 0, 0] 10 mixed (by kernel_rfl) (by kernel_rfl) rfl ⟨peqC_stable _ _, peqC_stable _ _, peqC_stable _ _, peqC_stable _ _, peqC_stable _ _, peqC_stable _ _, peqC_stable _ _, peqC_stable _ _, peqC_stable _ _, (postBox_stable), trivial⟩ ?ob1 ?fin1
  case ob1 =>
    refine OblC_cons (fun w10 c12 x11 hc013 hk14 => ?_) ?_
    · skip
      replace x11 := RelG.ext0 x11
      have z15 := Bel.size x11
      refine bindC_nil ?_
      exact OpC_v rfl (o_fa Tryz.underlying115 rfl Tryz.sizeOf5 rfl)
    refine OblC_cons (fun w16 c18 x17 hc019 hk20 => ?_) ?_
    · skip
      replace x17 := RelG.ext0 x17
      have z21 := Bel.size x17
      have hb1 := hb1.ext x17
      refine bindC_eq (bindC_nil ?_)
      exact OpC_v rfl (o_load1 Tryz.isAgg5 rfl (hb1.at.get 0 rfl))
    refine OblC_cons (fun w22 c24 x23 hc025 hk26 => ?_) ?_
    · skip
      replace x23 := RelG.ext0 x23
      have z27 := Bel.size x23
      refine bindC_eq (bindC_nil ?_)
      exact OpC_call rfl (o_call1 Tryz.call106 rfl) (raction_ok (False) _ _)
    refine OblC_cons (fun w28 c30 x29 hc031 hk32 => ?_) ?_
    · skip
      replace x29 := RelG.ext0 x29
      have z33 := Bel.size x29
      refine bindC_nil ?_
      exact OpC_v rfl (o_fa Tryz.underlying115 rfl Tryz.sizeOf30 rfl)
    refine OblC_cons (fun w34 c36 x35 hc037 hk38 => ?_) ?_
    · skip
      replace x35 := RelG.ext0 x35
      have z39 := Bel.size x35
      have hb1 := hb1.ext x35
      refine bindC_eq (bindC_nil ?_)
      exact OpC_v rfl (o_load1 Tryz.isAgg30 rfl (hb1.at.get 1 rfl))
    refine OblC_cons (fun w40 c42 x41 hc043 hk44 => ?_) ?_
    · skip
      replace x41 := RelG.ext0 x41
      have z45 := Bel.size x41
      have hx := hx.ext x41
      refine bindC_eq (bindC_eq (bindC_nil ?_))
      exact OpC_call rfl (o_call1 Tryz.call107 rfl) (rpath_ok _ _ _ hx.trd)
    refine OblC_cons (fun w46 c48 x47 hc049 hk50 => ?_) ?_
    · skip
      replace x47 := RelG.ext0 x47
      have z51 := Bel.size x47
      refine bindC_nil ?_
      exact OpC_v rfl (o_fa Tryz.underlying115 rfl Tryz.sizeOf4 rfl)
    refine OblC_cons (fun w52 c54 x53 hc055 hk56 => ?_) ?_
    · skip
      replace x53 := RelG.ext0 x53
      have z57 := Bel.size x53
      have hb1 := hb1.ext x53
      refine bindC_eq (bindC_nil ?_)
      exact OpC_v rfl (o_load1 Tryz.isAgg4 rfl (hb1.at.get 2 rfl))
    refine OblC_cons (fun w58 c60 x59 hc061 hk62 => ?_) ?_
    · skip
      replace x59 := RelG.ext0 x59
      have z63 := Bel.size x59
      refine bindC_eq (bindC_eq (bindC_eq (bindC_nil ?_)))
      exact OpC_v rfl (o_build (cells := encP x.perm) (vs := [(0, str _), (1, str _), (2, .bool _)]) rfl (by kernel_rfl))
    refine OblC_cons (fun w64 c66 x65 hc067 hk68 => ?_) ?_
    · skip
      replace x65 := RelG.ext0 x65
      have z69 := Bel.size x65
      refine bindC_nil ?_
      exact OpC_box (Bel.size x65) rfl (o_alloc Tryz.zeroValue111)
    exact OblC_nil
  case fin1 =>
    intro w70 c72 x71 hc073
    replace x71 := RelG.ext0 x71
    have z74 := Bel.size x71
    replace hX := Bel.ex hX x71
    replace hb2 := hb2.ext x71
    replace hb3 := hb3.ext x71
    refine bindC_eq (bindC_eq (bindC_eq (bindC_eq (bindC_eq (bindC_eq (bindC_eq (bindC_eq (bindC_eq ?_))))))))
    refine bindC_mem (fun v4 hv4 => ?_)
    refine bindC_nil ?_
    obtain ⟨b4, rfl, hge4, hb4, hcb4⟩ := hv4
    have hlt4 := hb4.lt
    refine Rg_storeW (v := .agg _) rfl Tryz.sizeOf111 rfl rfl hb4 rfl rfl rfl ?_
    intro w75 c76 hb4
    change Box _ _ _ (encP _) at hb4
    have z77 := Bel.size c76
    replace hX := Bel.out hX c76 (fun g h1 h2 => by first | exact h2 | omega)
    replace hb2 := hb2.keep c76 (fun h => by omega)
    replace hb3 := hb3.keep c76 (fun h => by omega)
    refine Rg_nil (W_seq ?_)
    apply W_drawC (β := False) (fun b => if b = b2 then 1 else 0) [peqC _, peqC _, (postAt b2 1 _ (encP _))] [0, 0, 1] 3 mixed (by kernel_rfl) (by kernel_rfl) rfl ⟨peqC_stable _ _, peqC_stable _ _, (postAt_stable), trivial⟩ ?ob2 ?fin2
    case ob2 =>
      refine OblC_cons (fun w78 c80 x79 hc081 hk82 => ?_) ?_
      · skip
        replace x79 := Bel.mono x79 (D' := fun g => g = b2) (fun g hg h => Classical.byContradiction fun hn => h (by (try simp only [not_or] at hn); simp [hn]))
        have z83 := Bel.size x79
        have hb4 := hb4.keep x79 (fun h => by omega)
        refine bindC_nil ?_
        exact OpC_v rfl (o_loadS Tryz.isAgg111 Tryz.sizeOf111 rfl hb4.at rfl)
      refine OblC_cons (fun w84 c86 x85 hc087 hk88 => ?_) ?_
      · skip
        replace x85 := Bel.mono x85 (D' := fun g => g = b2) (fun g hg h => Classical.byContradiction fun hn => h (by (try simp only [not_or] at hn); simp [hn]))
        have z89 := Bel.size x85
        have hb4 := hb4.keep x85 (fun h => by omega)
        refine bindC_nil ?_
        exact OpC_v rfl (o_loadS Tryz.isAgg111 Tryz.sizeOf111 rfl hb4.at rfl)
      refine OblC_cons (fun w90 c92 x91 hc093 hk94 => ?_) ?_
      · skip
        replace x91 := Bel.mono x91 (D' := fun g => g = b2) (fun g hg h => Classical.byContradiction fun hn => h (by (try simp only [not_or] at hn); simp [hn]))
        have z95 := Bel.size x91
        refine bindC_eq (bindC_eq (bindC_nil ?_))
        exact OpC_storeW (v := .agg _) (by decide) Tryz.sizeOf75 rfl rfl (hb2.blk (hk94 1 (by decide) (by kernel_rfl) _ hb2.lt (by first | (simp [colAt]; done) | (simp [colAt]; omega)))) ((hc093 b2 hb2.lt).trans (by first | (simp [colAt]; done) | (simp [colAt]; omega))) rfl rfl rfl
      exact OblC_nil
    case fin2 =>
      intro w96 c98 x97 hc099
      replace x97 := Bel.mono x97 (D' := fun g => g = b2) (fun g hg h => Classical.byContradiction fun hn => h (by (try simp only [not_or] at hn); simp [hn]))
      have z100 := Bel.size x97
      replace hX := Bel.out hX x97 (fun g h1 h2 => by first | exact h2 | omega)
      replace hb3 := hb3.keep x97 (fun h => by omega)
      refine bindC_eq (bindC_eq ?_)
      refine bindC_lk rfl (fun hst2 => ?_)
      refine bindC_nil ?_
      have hb2 := hst2.1
      refine Rg_storeW (v := .agg _) rfl Tryz.sizeOf111 rfl rfl hb3 rfl rfl rfl ?_
      intro w101 c102 hb3
      change Box _ _ _ (encP _) at hb3
      have z103 := Bel.size c102
      replace hX := Bel.out hX c102 (fun g h1 h2 => by first | exact h2 | omega)
      replace hb2 := hb2.keep c102 (fun h => by omega)
      refine Rg_nil (W_ret ?_)
      refine ⟨_, res_T (vs := [.agg _, .agg _]) rfl ⟨rv_cellS Tryz.isAgg75 Tryz.sizeOf75 rfl hb2.at rfl, rv_cellS Tryz.isAgg111 Tryz.sizeOf111 rfl hb3.at rfl, trivial⟩ (by simp), ?_⟩
      exact ⟨rfl, hX⟩

end Go.Proofs.YtncmjgmlnnenhaaGreatDoor
