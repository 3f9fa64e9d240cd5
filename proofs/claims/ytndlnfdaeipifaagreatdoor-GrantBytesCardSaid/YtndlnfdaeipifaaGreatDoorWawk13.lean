/- Walks, printed by program: each theorem says what a function of the translation returns. -/
import Derived.Test.YtndlnfdaeipifaaGreatDoorWplay13
import Derived.Test.YtndlnfdaeipifaaGreatDoorGn
namespace Go.Proofs.YtndlnfdaeipifaaGreatDoor
open Go Go.Lx Go.RowKit
set_option maxRecDepth 100000
set_option linter.unusedVariables false
set_option linter.unusedSimpArgs false
set_option linter.unnecessarySimpa false
theorem lread_ok (p : Str) (d : Bool) (w : World) : Ok Tryz.prog 46 #[str p, .bool d] w fun v w' => v = .agg (encP ⟨[114, 101, 97, 100], p, d⟩).toArray ∧ Ext False w w' := by
  refine Ok_of_W 8 Tryz.func46 rfl rfl rfl ?_
  have hX : Ext False w w := Bel.refl _ _
  refine W_seq ?_
  refine W_region ?_
  refine Rg_newB rfl (o_alloc Tryz.zeroValue52) ?_
  intro b4 w1 x2 hge4 hb4
  have hlt4 := hb4.lt
  change Box _ _ _ ([str _, str _, .bool _]) at hb4
  have z3 := Bel.size x2
  replace hX := Bel.ex hX x2
  refine Rg_nil ?_
  refine W_seq ?_
  refine W_region ?_
  refine Rg_run rfl (o_moveh (v := str _) rfl) ?_
  refine Rg_run rfl (o_moveh (v := .bool _) rfl) ?_
  refine Rg_run rfl (o_build (cells := encP ⟨[114, 101, 97, 100], p, d⟩) (vs := [(0, str _), (1, str _), (2, .bool _)]) rfl (by kernel_rfl)) ?_
  refine Rg_storeW (v := .agg _) rfl Tryz.sizeOf52 rfl rfl hb4 rfl rfl rfl ?_
  intro w4 c5 hb4
  change Box _ _ _ (encP _) at hb4
  have z6 := Bel.size c5
  replace hX := Bel.out hX c5 (fun g h1 h2 => by first | exact h2 | omega)
  refine Rg_nil ?_
  refine W_ret ?_
  refine ⟨_, res_1 (v := .agg _) rfl (rv_cellS Tryz.isAgg52 Tryz.sizeOf52 rfl hb4.at rfl), ?_⟩
  exact ⟨rfl, hX⟩

theorem ggrantC_ok (v0 : Value) (m : List Ent) (w : World) (h : GbIs w v0 m) (hm : OkG m) (e : Ent) (he : e.p.ok) {m' : List Ent} (hg : grantR m e = (m', 0)) : Ok Tryz.prog 30 #[v0, .int .i64 e.r, .agg (encP e.p).toArray] w fun v w' => (∃ p, v = .tuple #[.pointer (some ⟨p, 0, none⟩), .int .i64 0] ∧ GbIs w' (.pointer (some ⟨p, 0, none⟩)) m') ∧ Ext False w w' := by
  refine (ggrant_ok v0 m w h hm e he).mono ?_
  rintro _ w' ⟨⟨p, rfl, hp⟩, x⟩
  rw [hg] at hp ⊢
  obtain ⟨b, _, _, rfl, _, _⟩ := hp.1 rfl
  exact ⟨⟨b, rfl, hp.1 rfl⟩, x⟩
theorem awake_ok (w : World) (hT : Tb w) : Ok Tryz.prog 12 #[] w fun v w' => v = .bool true ∧ Ext False w w' := by
  refine Ok_of_W 85 Tryz.func12 rfl rfl rfl ?_
  have hX : Ext False w w := Bel.refl _ _
  refine W_seq ?_
  refine W_region ?_
  refine Rg_run rfl o_assignc ?_
  refine Rg_nil ?_
  refine W_seq ?_
  refine W_region ?_
  refine Rg_run rfl o_assignf ?_
  refine Rg_nil ?_
  refine W_seq ?_
  refine W_region ?_
  refine Rg_enter rfl (o_call0 Tryz.call29) (Ok.mono (gnew_ok _) ?_)
  rintro _ w1 ⟨p12, rfl, hbk12, x2⟩
  replace hX := Bel.ex hX x2
  replace hT := hT.ext x2
  refine Rg_run rfl (o_moveh (v := .func _ _ _) rfl) ?_
  refine Rg_enter rfl (o_clo2 Tryz.call46 rfl rfl rfl) (Ok.mono (lread_ok [47, 97] true _) ?_)
  rintro _ w3 ⟨rfl, x4⟩
  replace hX := Bel.ex hX x4
  replace hT := hT.ext x4
  replace hbk12 := hbk12.ext x4
  refine Rg_enter rfl (o_call3 Tryz.call30 rfl rfl rfl) (Ok.mono (ggrantC_ok _ [] _ hbk12 OkG.nil AE1 AE1_ok aw_g1) ?_)
  rintro _ w5 ⟨⟨p15, rfl, hbk15⟩, x6⟩
  replace hX := Bel.ex hX x6
  replace hT := hT.ext x6
  replace hbk12 := hbk12.ext x6
  refine Rg_run rfl (o_moveh (v := .tuple _) rfl) ?_
  refine Rg_run rfl (o_extract rfl rfl) ?_
  refine Rg_run rfl (o_extract rfl rfl) ?_
  refine Rg_run rfl (o_assignh (v := .pointer (some ⟨p15, 0, none⟩)) rfl) ?_
  refine Rg_run rfl (o_assignh (v := .int _ _) rfl) ?_
  refine Rg_nil ?_
  refine W_seq ?_
  refine W_region ?_
  refine Rg_run rfl (o_moveh (v := .pointer (some ⟨p15, 0, none⟩)) rfl) ?_
  refine Rg_run rfl (o_moveh (v := .func _ _ _) rfl) ?_
  refine Rg_enter rfl (o_clo2 Tryz.call46 rfl rfl rfl) (Ok.mono (lread_ok [47, 97, 47, 98] false _) ?_)
  rintro _ w7 ⟨rfl, x8⟩
  replace hX := Bel.ex hX x8
  replace hT := hT.ext x8
  replace hbk12 := hbk12.ext x8
  replace hbk15 := hbk15.ext x8
  refine Rg_enter rfl (o_call3 Tryz.call30 rfl rfl rfl) (Ok.mono (ggrantC_ok _ AM1 _ hbk15 okAM1 AE2 AE2_ok aw_g2) ?_)
  rintro _ w9 ⟨⟨p22, rfl, hbk22⟩, x10⟩
  replace hX := Bel.ex hX x10
  replace hT := hT.ext x10
  replace hbk12 := hbk12.ext x10
  replace hbk15 := hbk15.ext x10
  refine Rg_run rfl (o_moveh (v := .tuple _) rfl) ?_
  refine Rg_run rfl (o_extract rfl rfl) ?_
  refine Rg_run rfl (o_extract rfl rfl) ?_
  refine Rg_run rfl (o_assignh (v := .pointer (some ⟨p22, 0, none⟩)) rfl) ?_
  refine Rg_run rfl (o_assignh (v := .int _ _) rfl) ?_
  refine Rg_nil ?_
  refine W_seq ?_
  refine W_region ?_
  refine Rg_enter rfl (o_call0 Tryz.call47) (Ok.mono (hnew_ok _ hT) ?_)
  rintro v26 w11 ⟨hh26, x12⟩
  replace hX := Bel.ex hX x12
  replace hT := hT.ext x12
  replace hbk12 := hbk12.ext x12
  replace hbk15 := hbk15.ext x12
  replace hbk22 := hbk22.ext x12
  refine Rg_enter rfl (o_call3 Tryz.call48 rfl rfl rfl) (Ok.mono (hlink_ok _ [] (fun c => 64 - c.val) 2 1 _ hh26 hT (by simp) (by simp) (by decide) (by simp) (by decide) (by decide)) ?_)
  rintro _ w13 ⟨⟨v27, rfl, hh27⟩, x14⟩
  replace hX := Bel.ex hX x14
  replace hT := hT.ext x14
  replace hbk12 := hbk12.ext x14
  replace hbk15 := hbk15.ext x14
  replace hbk22 := hbk22.ext x14
  replace hh26 := hh26.ext x14
  refine Rg_run rfl (o_moveh (v := .tuple _) rfl) ?_
  refine Rg_run rfl (o_extract rfl rfl) ?_
  refine Rg_run rfl (o_extract rfl rfl) ?_
  refine Rg_run rfl (o_assignh (v := v27) rfl) ?_
  refine Rg_run rfl (o_assignh (v := .int _ _) rfl) ?_
  refine Rg_nil ?_
  refine W_seq ?_
  refine W_region ?_
  refine Rg_enter rfl (o_call0 Tryz.call47) (Ok.mono (hnew_ok _ hT) ?_)
  rintro v31 w15 ⟨hh31, x16⟩
  replace hX := Bel.ex hX x16
  replace hT := hT.ext x16
  replace hbk12 := hbk12.ext x16
  replace hbk15 := hbk15.ext x16
  replace hbk22 := hbk22.ext x16
  replace hh26 := hh26.ext x16
  replace hh27 := hh27.ext x16
  refine Rg_enter rfl (o_call3 Tryz.call48 rfl rfl rfl) (Ok.mono (hlink_ok _ [] (fun c => c.val) 1 2 _ hh31 hT (by simp) (by simp) (by decide) (by simp) (by decide) (by decide)) ?_)
  rintro _ w17 ⟨⟨v32, rfl, hh32⟩, x18⟩
  replace hX := Bel.ex hX x18
  replace hT := hT.ext x18
  replace hbk12 := hbk12.ext x18
  replace hbk15 := hbk15.ext x18
  replace hbk22 := hbk22.ext x18
  replace hh26 := hh26.ext x18
  replace hh27 := hh27.ext x18
  replace hh31 := hh31.ext x18
  refine Rg_run rfl (o_moveh (v := .tuple _) rfl) ?_
  refine Rg_run rfl (o_extract rfl rfl) ?_
  refine Rg_run rfl (o_extract rfl rfl) ?_
  refine Rg_run rfl (o_assignh (v := v32) rfl) ?_
  refine Rg_run rfl (o_assignh (v := .int _ _) rfl) ?_
  refine Rg_nil ?_
  refine W_seq ?_
  refine W_seq ?_
  refine W_region ?_
  refine Rg_run rfl (o_moveh (v := .int _ _) rfl) ?_
  refine Rg_run rfl (o_neq rfl rfl) ?_
  refine Rg_run rfl (o_moveh (v := .bool _) rfl) ?_
  refine Rg_on 2 37 rfl (congrArg Value.bool (by decide)) ?_
  refine Rg_run rfl (o_moveh (v := .int _ _) rfl) ?_
  refine Rg_on 2 37 rfl (congrArg Value.bool (by decide)) ?_
  refine Rg_run rfl (o_neq rfl rfl) ?_
  refine Rg_run rfl (o_pickF (v := .bool _) (congrArg Value.bool (by decide)) rfl) ?_
  refine Rg_run rfl (o_moveh (v := .bool _) rfl) ?_
  refine Rg_on 6 41 rfl (congrArg Value.bool (by decide)) ?_
  refine Rg_run rfl (o_moveh (v := .int _ _) rfl) ?_
  refine Rg_on 6 41 rfl (congrArg Value.bool (by decide)) ?_
  refine Rg_run rfl (o_neq rfl rfl) ?_
  refine Rg_run rfl (o_pickF (v := .bool _) (congrArg Value.bool (by decide)) rfl) ?_
  refine Rg_run rfl (o_moveh (v := .bool _) rfl) ?_
  refine Rg_on 10 45 rfl (congrArg Value.bool (by decide)) ?_
  refine Rg_run rfl (o_moveh (v := .int _ _) rfl) ?_
  refine Rg_on 10 45 rfl (congrArg Value.bool (by decide)) ?_
  refine Rg_run rfl (o_neq rfl rfl) ?_
  refine Rg_run rfl (o_pickF (v := .bool _) (congrArg Value.bool (by decide)) rfl) ?_
  refine Rg_nil ?_
  refine W_cond_false (congrArg Value.bool (by decide)) ?_
  refine W_skip ?_
  refine W_seq ?_
  refine W_region ?_
  refine Rg_run rfl (o_moveh (v := .pointer (some ⟨p22, 0, none⟩)) rfl) ?_
  refine Rg_run rfl (o_moveh (v := v27) rfl) ?_
  refine Rg_enter rfl (o_call2 Tryz.call16 rfl rfl) (Ok.mono (gred_ok _ _ _ hbk22 okAM2 _ _ _ hh27.hyO) ?_)
  rintro v51 w19 ⟨hown51, x20⟩
  replace hX := Bel.ex hX x20
  replace hT := hT.ext x20
  replace hbk12 := hbk12.ext x20
  replace hbk15 := hbk15.ext x20
  replace hbk22 := hbk22.ext x20
  replace hh26 := hh26.ext x20
  replace hh27 := hh27.ext x20
  replace hh31 := hh31.ext x20
  replace hh32 := hh32.ext x20
  rw [List.nil_append, aw_red1] at hown51
  refine Rg_run rfl (o_assignh (v := v51) rfl) ?_
  refine Rg_nil ?_
  refine W_seq ?_
  obtain ⟨a51, c51, hv51, hs51⟩ := hown51.sl encE_ok
  subst hv51
  apply W_drawC (β := False) (fun _ => 0) [peqC _, (postW (SvIs (ofW [1, 2]))), (fun v w c => ∃ a, v = .slice a 2 2 ∧ postOwn encJ 1 3 0 ([1, 2] : List Int) v w c), (postW (SvIs (ofW [1, 2]))), peqC _, peqC _, peqC _, (postW (SvIs (ofW [1]))), (fun v w c => ∃ a, v = .slice a 1 1 ∧ postOwn encJ 1 3 0 ([1] : List Int) v w c), (postW (SvIs (ofW [1]))), peqC _, peqC _, peqC _, peqC _, peqC _, peqC _, peqC _, peqC _, peqC _, peqC _, peqC _, peqC _, peqC _, peqC _, peqC _, peqC _, peqC _, peqC _, peqC _, (postW (fun F v w => ∃ a c, v = .slice a 0 c)), peqC _, peqC _, peqC _] [0, 0, 0, 0, 0, 0, 0, 0, 0, 0, 0, 0, 0, 0, 0, 0, 0, 0, 0, 0, 0, 0, 0, 0, 0, 0, 0, 0, 0, 0, 0, 0, 0] 33 mixed (by kernel_rfl) (by kernel_rfl) rfl ⟨peqC_stable _ _, (postW_stable (SvIs.keepS _)), (postBs_stable), (postW_stable (SvIs.keepS _)), peqC_stable _ _, peqC_stable _ _, peqC_stable _ _, (postW_stable (SvIs.keepS _)), (postBs_stable), (postW_stable (SvIs.keepS _)), peqC_stable _ _, peqC_stable _ _, peqC_stable _ _, peqC_stable _ _, peqC_stable _ _, peqC_stable _ _, peqC_stable _ _, peqC_stable _ _, peqC_stable _ _, peqC_stable _ _, peqC_stable _ _, peqC_stable _ _, peqC_stable _ _, peqC_stable _ _, peqC_stable _ _, peqC_stable _ _, peqC_stable _ _, peqC_stable _ _, peqC_stable _ _, (postW_stable (fun _ _ _ _ _ _ _ _ h => h)), peqC_stable _ _, peqC_stable _ _, peqC_stable _ _, trivial⟩ ?ob9 ?fin9
  case ob9 =>
    refine OblC_cons (fun w21 c23 x22 hc024 hk25 => ?_) ?_
    · skip
      replace x22 := RelG.ext0 x22
      refine bindC_nil ?_
      exact OpC_v rfl (o_moveh (v := .pointer (some ⟨p22, 0, none⟩)) rfl)
    refine OblC_cons (fun w26 c28 x27 hc029 hk30 => ?_) ?_
    · skip
      replace x27 := RelG.ext0 x27
      have hbk22 := hbk22.ext x27
      refine bindC_eq ?_
      refine bindC_nil ?_
      exact OpC_W rfl (o_call3 Tryz.call24 rfl rfl rfl) ((aw_cov1 ▸ gcov_ok _ _ _ hbk22 okAM2 [114, 101, 97, 100] [47, 97, 47, 98] (by decide) (by decide)).mono (fun v w2 ⟨a, c, e, h, x⟩ => ⟨⟨a, c, e, h⟩, x⟩))
    refine OblC_cons (fun w31 c33 x32 hc034 hk35 => ?_) ?_
    · skip
      replace x32 := RelG.ext0 x32
      refine bindC_nil ?_
      exact OpC_bs (vs := [.int _ _, .int _ _]) ([1, 2] : List Int) encJ_ok el_int rfl rfl ⟨rfl, ⟨rfl, trivial⟩⟩ rfl rfl rfl rfl
    refine OblC_cons (fun w36 c38 x37 hc039 hk40 => ?_) ?_
    · skip
      replace x37 := RelG.ext0 x37
      refine bindC_mem (fun v54 hv54 => ?_)
      obtain ⟨a54, rfl, ho54⟩ := hv54
      refine bindC_mem (fun v53 hv53 => ?_)
      obtain ⟨F53, hF53, a53, c53, rfl, hq53⟩ := hv53
      refine bindC_nil ?_
      exact OpC_W rfl (o_call1 Tryz.call41 rfl) ((bof_ok _ _ ([1, 2] : List Int) (Own.trd ho54 encJ_ok) (by simp) (by decide)).mono (fun v w2 ⟨a, c, e, h, x⟩ => ⟨⟨a, c, e, h⟩, x⟩))
    refine OblC_cons (fun w41 c43 x42 hc044 hk45 => ?_) ?_
    · skip
      replace x42 := RelG.ext0 x42
      refine bindC_mem (fun v53 hv53 => ?_)
      obtain ⟨F53, hF53, a53, c53, rfl, hq53⟩ := hv53
      refine bindC_mem (fun v55 hv55 => ?_)
      obtain ⟨F55, hF55, a55, c55, rfl, hq55⟩ := hv55
      refine bindC_mem (fun v55 hv55 => ?_)
      obtain ⟨F55, hF55, a55, c55, rfl, hq55⟩ := hv55
      refine bindC_nil ?_
      exact OpC_call rfl (o_call2 Tryz.call25 rfl rfl) (show Ok _ _ _ _ (fun v w' => v = .bool (ofW [1, 2] == ofW [1, 2]) ∧ Ext False _ w') from beq_ok _ ⟨a53, c53, ofW [1, 2]⟩ _ hq53 ⟨a55, c55, ofW [1, 2]⟩ _ hq55)
    refine OblC_cons (fun w46 c48 x47 hc049 hk50 => ?_) ?_
    · skip
      replace x47 := RelG.ext0 x47
      refine bindC_eq ?_
      refine bindC_eq ?_
      refine bindC_nil ?_
      exact OpC_v rfl (o_moveh (v := .bool _) rfl)
    refine OblC_cons (fun w51 c53 x52 hc054 hk55 => ?_) ?_
    · skip
      replace x52 := RelG.ext0 x52
      refine bindC_eq ?_
      refine bindC_nil ?_
      refine OpC_on 5 57 rfl (congrArg Value.bool (beq_self_eq_true (ofW [1, 2]))) ?_
      exact OpC_v rfl (o_moveh (v := .pointer (some ⟨p22, 0, none⟩)) rfl)
    refine OblC_cons (fun w56 c58 x57 hc059 hk60 => ?_) ?_
    · skip
      replace x57 := RelG.ext0 x57
      have hbk22 := hbk22.ext x57
      refine bindC_eq ?_
      refine bindC_eq ?_
      refine bindC_eq ?_
      refine bindC_nil ?_
      refine OpC_on 5 57 rfl (congrArg Value.bool (beq_self_eq_true (ofW [1, 2]))) ?_
      exact OpC_W rfl (o_call3 Tryz.call24 rfl rfl rfl) ((aw_cov2 ▸ gcov_ok _ _ _ hbk22 okAM2 [114, 101, 97, 100] [47, 97, 47, 99] (by decide) (by decide)).mono (fun v w2 ⟨a, c, e, h, x⟩ => ⟨⟨a, c, e, h⟩, x⟩))
    refine OblC_cons (fun w61 c63 x62 hc064 hk65 => ?_) ?_
    · skip
      replace x62 := RelG.ext0 x62
      refine bindC_eq ?_
      refine bindC_nil ?_
      refine OpC_on 5 57 rfl (congrArg Value.bool (beq_self_eq_true (ofW [1, 2]))) ?_
      exact OpC_bs (vs := [.int _ _]) ([1] : List Int) encJ_ok el_int rfl rfl ⟨rfl, trivial⟩ rfl rfl rfl rfl
    refine OblC_cons (fun w66 c68 x67 hc069 hk70 => ?_) ?_
    · skip
      replace x67 := RelG.ext0 x67
      refine bindC_mem (fun v60 hv60 => ?_)
      obtain ⟨a60, rfl, ho60⟩ := hv60
      refine bindC_mem (fun v59 hv59 => ?_)
      obtain ⟨F59, hF59, a59, c59, rfl, hq59⟩ := hv59
      refine bindC_eq ?_
      refine bindC_nil ?_
      refine OpC_on 5 57 rfl (congrArg Value.bool (beq_self_eq_true (ofW [1, 2]))) ?_
      exact OpC_W rfl (o_call1 Tryz.call41 rfl) ((bof_ok _ _ ([1] : List Int) (Own.trd ho60 encJ_ok) (by simp) (by decide)).mono (fun v w2 ⟨a, c, e, h, x⟩ => ⟨⟨a, c, e, h⟩, x⟩))
    refine OblC_cons (fun w71 c73 x72 hc074 hk75 => ?_) ?_
    · skip
      replace x72 := RelG.ext0 x72
      refine bindC_mem (fun v59 hv59 => ?_)
      obtain ⟨F59, hF59, a59, c59, rfl, hq59⟩ := hv59
      refine bindC_mem (fun v61 hv61 => ?_)
      obtain ⟨F61, hF61, a61, c61, rfl, hq61⟩ := hv61
      refine bindC_mem (fun v61 hv61 => ?_)
      obtain ⟨F61, hF61, a61, c61, rfl, hq61⟩ := hv61
      refine bindC_eq ?_
      refine bindC_nil ?_
      refine OpC_on 5 57 rfl (congrArg Value.bool (beq_self_eq_true (ofW [1, 2]))) ?_
      exact OpC_call rfl (o_call2 Tryz.call25 rfl rfl) (show Ok _ _ _ _ (fun v w' => v = .bool (ofW [1] == ofW [1]) ∧ Ext False _ w') from beq_ok _ ⟨a59, c59, ofW [1]⟩ _ hq59 ⟨a61, c61, ofW [1]⟩ _ hq61)
    refine OblC_cons (fun w76 c78 x77 hc079 hk80 => ?_) ?_
    · skip
      replace x77 := RelG.ext0 x77
      refine bindC_eq ?_
      refine bindC_eq ?_
      refine bindC_nil ?_
      exact OpC_v rfl (o_pickT (v := .bool _) (congrArg Value.bool (beq_self_eq_true (ofW [1, 2]))) rfl)
    refine OblC_cons (fun w81 c83 x82 hc084 hk85 => ?_) ?_
    · skip
      replace x82 := RelG.ext0 x82
      refine bindC_eq ?_
      refine bindC_eq ?_
      refine bindC_nil ?_
      exact OpC_v rfl (o_moveh (v := .bool _) rfl)
    refine OblC_cons (fun w86 c88 x87 hc089 hk90 => ?_) ?_
    · skip
      replace x87 := RelG.ext0 x87
      refine bindC_eq ?_
      refine bindC_nil ?_
      refine OpC_on 12 64 rfl (congrArg Value.bool (beq_self_eq_true (ofW [1]))) ?_
      exact OpC_v rfl (o_moveh (v := .slice _ _ _) rfl)
    refine OblC_cons (fun w91 c93 x92 hc094 hk95 => ?_) ?_
    · skip
      replace x92 := RelG.ext0 x92
      refine bindC_eq ?_
      refine bindC_eq ?_
      refine bindC_nil ?_
      refine OpC_on 12 64 rfl (congrArg Value.bool (beq_self_eq_true (ofW [1]))) ?_
      exact OpC_v rfl (o_llen Tryz.underlying34 rfl)
    refine OblC_cons (fun w96 c98 x97 hc099 hk100 => ?_) ?_
    · skip
      replace x97 := RelG.ext0 x97
      refine bindC_eq ?_
      refine bindC_eq ?_
      refine bindC_nil ?_
      refine OpC_on 12 64 rfl (congrArg Value.bool (beq_self_eq_true (ofW [1]))) ?_
      exact OpC_v rfl (o_eql rfl rfl)
    refine OblC_cons (fun w101 c103 x102 hc0104 hk105 => ?_) ?_
    · skip
      replace x102 := RelG.ext0 x102
      refine bindC_eq ?_
      refine bindC_eq ?_
      refine bindC_nil ?_
      exact OpC_v rfl (o_pickT (v := .bool _) (congrArg Value.bool (beq_self_eq_true (ofW [1]))) rfl)
    refine OblC_cons (fun w106 c108 x107 hc0109 hk110 => ?_) ?_
    · skip
      replace x107 := RelG.ext0 x107
      refine bindC_eq ?_
      refine bindC_eq ?_
      refine bindC_nil ?_
      exact OpC_v rfl (o_moveh (v := .bool _) rfl)
    refine OblC_cons (fun w111 c113 x112 hc0114 hk115 => ?_) ?_
    · skip
      replace x112 := RelG.ext0 x112
      refine bindC_eq ?_
      refine bindC_nil ?_
      refine OpC_on 17 69 rfl (congrArg Value.bool (by decide)) ?_
      exact OpC_v rfl (o_moveh (v := .slice _ _ _) rfl)
    refine OblC_cons (fun w116 c118 x117 hc0119 hk120 => ?_) ?_
    · skip
      replace x117 := RelG.ext0 x117
      have hs51 := hs51.ext x117
      refine bindC_eq ?_
      refine bindC_eq ?_
      refine bindC_nil ?_
      refine OpC_on 17 69 rfl (congrArg Value.bool (by decide)) ?_
      exact OpC_v rfl (o_iaR (i := 0) Tryz.underlying34 Tryz.sizeOf76 hs51 rfl rfl (by first | omega | (unfold I64; omega) | (simp; done) | (simp; omega) | (simp at *; omega)))
    refine OblC_cons (fun w121 c123 x122 hc0124 hk125 => ?_) ?_
    · skip
      replace x122 := RelG.ext0 x122
      have hs51 := hs51.ext x122
      refine bindC_eq ?_
      refine bindC_eq ?_
      refine bindC_nil ?_
      refine OpC_on 17 69 rfl (congrArg Value.bool (by decide)) ?_
      exact OpC_v rfl (o_ldRS Tryz.isAgg76 Tryz.sizeOf76 hs51 rfl rfl)
    refine OblC_cons (fun w126 c128 x127 hc0129 hk130 => ?_) ?_
    · skip
      replace x127 := RelG.ext0 x127
      refine bindC_eq ?_
      refine bindC_nil ?_
      refine OpC_on 17 69 rfl (congrArg Value.bool (by decide)) ?_
      exact OpC_v rfl (o_moveh (v := .func _ _ _) rfl)
    refine OblC_cons (fun w131 c133 x132 hc0134 hk135 => ?_) ?_
    · skip
      replace x132 := RelG.ext0 x132
      refine bindC_eq ?_
      refine bindC_eq ?_
      refine bindC_eq ?_
      refine bindC_nil ?_
      refine OpC_on 17 69 rfl (congrArg Value.bool (by decide)) ?_
      exact OpC_call rfl (o_clo2 Tryz.call46 rfl rfl rfl) (lread_ok [47, 97, 47, 98] false _)
    refine OblC_cons (fun w136 c138 x137 hc0139 hk140 => ?_) ?_
    · skip
      replace x137 := RelG.ext0 x137
      refine bindC_eq ?_
      refine bindC_eq ?_
      refine bindC_nil ?_
      refine OpC_on 17 69 rfl (congrArg Value.bool (by decide)) ?_
      exact OpC_v rfl (o_build (cells := encE AE2) (vs := [(0, .int _ _), (1, .agg _)]) rfl (by kernel_rfl))
    refine OblC_cons (fun w141 c143 x142 hc0144 hk145 => ?_) ?_
    · skip
      replace x142 := RelG.ext0 x142
      refine bindC_eq ?_
      refine bindC_eq ?_
      refine bindC_eq ?_
      refine bindC_nil ?_
      refine OpC_on 17 69 rfl (congrArg Value.bool (by decide)) ?_
      exact OpC_v rfl (o_teql eq_ent rfl rfl)
    refine OblC_cons (fun w146 c148 x147 hc0149 hk150 => ?_) ?_
    · skip
      replace x147 := RelG.ext0 x147
      refine bindC_eq ?_
      refine bindC_eq ?_
      refine bindC_nil ?_
      exact OpC_v rfl (o_pickT (v := .bool _) (congrArg Value.bool (by decide)) rfl)
    refine OblC_cons (fun w151 c153 x152 hc0154 hk155 => ?_) ?_
    · skip
      replace x152 := RelG.ext0 x152
      refine bindC_eq ?_
      refine bindC_eq ?_
      refine bindC_nil ?_
      exact OpC_v rfl (o_moveh (v := .bool _) rfl)
    refine OblC_cons (fun w156 c158 x157 hc0159 hk160 => ?_) ?_
    · skip
      replace x157 := RelG.ext0 x157
      refine bindC_eq ?_
      refine bindC_nil ?_
      refine OpC_on 26 78 rfl (congrArg Value.bool (beq_self_eq_true AE2)) ?_
      exact OpC_v rfl (o_moveh (v := .pointer (some ⟨p22, 0, none⟩)) rfl)
    refine OblC_cons (fun w161 c163 x162 hc0164 hk165 => ?_) ?_
    · skip
      replace x162 := RelG.ext0 x162
      refine bindC_eq ?_
      refine bindC_nil ?_
      refine OpC_on 26 78 rfl (congrArg Value.bool (beq_self_eq_true AE2)) ?_
      exact OpC_v rfl (o_moveh (v := v32) rfl)
    refine OblC_cons (fun w166 c168 x167 hc0169 hk170 => ?_) ?_
    · skip
      replace x167 := RelG.ext0 x167
      have hbk22 := hbk22.ext x167
      have hh32 := hh32.ext x167
      refine bindC_eq ?_
      refine bindC_eq ?_
      refine bindC_eq ?_
      refine bindC_eq ?_
      refine bindC_nil ?_
      refine OpC_on 26 78 rfl (congrArg Value.bool (beq_self_eq_true AE2)) ?_
      exact OpC_W rfl (o_call2 Tryz.call16 rfl rfl) ((gred_ok _ _ _ hbk22 okAM2 _ _ _ hh32.hyO).mono (fun v w2 ⟨h, x⟩ => ⟨by rw [List.nil_append, aw_red2] at h; obtain ⟨a, c, e, _⟩ := h.sl encE_ok; exact ⟨a, c, e⟩, x⟩))
    refine OblC_cons (fun w171 c173 x172 hc0174 hk175 => ?_) ?_
    · skip
      replace x172 := RelG.ext0 x172
      refine bindC_mem (fun v81 hv81 => ?_)
      obtain ⟨F81, hF81, a81, c81, rfl⟩ := hv81
      refine bindC_eq ?_
      refine bindC_nil ?_
      refine OpC_on 26 78 rfl (congrArg Value.bool (beq_self_eq_true AE2)) ?_
      exact OpC_v rfl (o_llen Tryz.underlying34 rfl)
    refine OblC_cons (fun w176 c178 x177 hc0179 hk180 => ?_) ?_
    · skip
      replace x177 := RelG.ext0 x177
      refine bindC_eq ?_
      refine bindC_eq ?_
      refine bindC_nil ?_
      refine OpC_on 26 78 rfl (congrArg Value.bool (beq_self_eq_true AE2)) ?_
      exact OpC_v rfl (o_eql rfl rfl)
    refine OblC_cons (fun w181 c183 x182 hc0184 hk185 => ?_) ?_
    · skip
      replace x182 := RelG.ext0 x182
      refine bindC_eq ?_
      refine bindC_eq ?_
      refine bindC_nil ?_
      exact OpC_v rfl (o_pickT (v := .bool _) (congrArg Value.bool (beq_self_eq_true AE2)) rfl)
    exact OblC_nil
  case fin9 =>
    intro w186 c188 x187 hc0189
    replace x187 := RelG.ext0 x187
    replace hX := Bel.ex hX x187
    replace hT := hT.ext x187
    replace hbk12 := hbk12.ext x187
    replace hbk15 := hbk15.ext x187
    replace hbk22 := hbk22.ext x187
    replace hh26 := hh26.ext x187
    replace hh27 := hh27.ext x187
    replace hh31 := hh31.ext x187
    replace hh32 := hh32.ext x187
    replace hs51 := hs51.ext x187
    refine bindC_eq ?_
    refine bindC_mem (fun v53 hv53 => ?_)
    obtain ⟨F53, hF53, a53, c53, rfl, hq53⟩ := hv53
    refine bindC_mem (fun v54 hv54 => ?_)
    obtain ⟨a54, rfl, ho54⟩ := hv54
    refine bindC_mem (fun v55 hv55 => ?_)
    obtain ⟨F55, hF55, a55, c55, rfl, hq55⟩ := hv55
    refine bindC_eq ?_
    refine bindC_eq ?_
    refine bindC_eq ?_
    refine bindC_mem (fun v59 hv59 => ?_)
    obtain ⟨F59, hF59, a59, c59, rfl, hq59⟩ := hv59
    refine bindC_mem (fun v60 hv60 => ?_)
    obtain ⟨a60, rfl, ho60⟩ := hv60
    refine bindC_mem (fun v61 hv61 => ?_)
    obtain ⟨F61, hF61, a61, c61, rfl, hq61⟩ := hv61
    refine bindC_eq ?_
    refine bindC_eq ?_
    refine bindC_eq ?_
    refine bindC_eq ?_
    refine bindC_eq ?_
    refine bindC_eq ?_
    refine bindC_eq ?_
    refine bindC_eq ?_
    refine bindC_eq ?_
    refine bindC_eq ?_
    refine bindC_eq ?_
    refine bindC_eq ?_
    refine bindC_eq ?_
    refine bindC_eq ?_
    refine bindC_eq ?_
    refine bindC_eq ?_
    refine bindC_eq ?_
    refine bindC_eq ?_
    refine bindC_eq ?_
    refine bindC_mem (fun v81 hv81 => ?_)
    obtain ⟨F81, hF81, a81, c81, rfl⟩ := hv81
    refine bindC_eq ?_
    refine bindC_eq ?_
    refine bindC_eq ?_
    refine bindC_nil ?_
    refine Rg_run rfl (o_assignh (v := .bool _) rfl) ?_
    refine Rg_nil ?_
    refine W_ret ?_
    refine ⟨_, res_tmp rfl rfl, ?_⟩
    refine ⟨congrArg Value.bool ?_, hX⟩
    all_goals (rfl)

end Go.Proofs.YtndlnfdaeipifaaGreatDoor
