/- Walks, printed by program: each theorem says what a function of the translation returns. -/
import Derived.Test.YtgnphpimkfcmlaaDoorWlaw11a
namespace Go.Proofs.YtgnphpimkfcmlaaDoor
open Go Go.Lx Go.RowKit
set_option maxRecDepth 100000
set_option linter.unusedVariables false
set_option linter.unusedSimpArgs false
set_option linter.unnecessarySimpa false
theorem law_PermissionChecks (w : World) (x : RawV) (hx : Sl encB 1 (Lt w.heap.size) w x.a x.c x.names) (action : Str) (place : Str) : Ok Tryd.prog 3 #[.agg (encR x).toArray, str action, str place] w fun v w' => v = .bool (true) ∧ Ext False w w' := by
  refine Ok_of_W 42 Tryd.func3 rfl rfl rfl ?_
  have hX : Ext False w w := Bel.refl _ _
  refine W_seq ?_
  refine W_region ?_
  refine Rg_newB rfl (o_box (v := .agg _) rfl) ?_
  intro b3 w1 x2 hge3 hb3
  have hlt3 := hb3.lt
  change Box _ _ _ (encR _) at hb3
  have z3 := Bel.size x2
  replace hX := Bel.ex hX x2
  replace hx := hx.ext x2
  refine Rg_run rfl o_assignc ?_
  refine Rg_nil ?_
  refine W_seq ?_
  refine W_seq ?_
  refine W_region ?_
  refine Rg_enter rfl (o_call0 Tryd.call13) (Ok.mono (awake_ok _) ?_)
  rintro _ w4 ⟨rfl, x5⟩
  have z6 := Bel.size x5
  replace hX := Bel.ex hX x5
  replace hx := hx.ext x5
  replace hb3 := hb3.ext x5
  refine Rg_run rfl (o_not rfl) ?_
  refine Rg_nil ?_
  refine W_cond rfl (fun hc1 => ?_) (fun hc1 => ?_)
  · skip
    refine W_seq ?_
    refine W_region ?_
    refine Rg_run rfl o_assignc ?_
    refine Rg_nil ?_
    refine W_ret ?_
    refine ⟨_, res_tmp rfl rfl, ?_⟩
    refine ⟨congrArg Value.bool ?_, hX⟩
    all_goals (cases hc1)
  · skip
    refine W_skip ?_
    refine W_seq ?_
    refine W_region ?_
    refine Rg_run rfl (o_loadS Tryd.isAgg24 Tryd.sizeOf24 rfl hb3.at rfl) ?_
    refine Rg_enter rfl (o_call1 Tryd.call14 rfl) (Ok.mono (make_ok _ _ hx.top) ?_)
    rintro _ w7 ⟨rfl, x8⟩
    have z9 := Bel.size x8
    replace hX := Bel.ex hX x8
    replace hx := hx.ext x8
    replace hb3 := hb3.ext x8
    refine Rg_run rfl (o_moveh (v := .tuple _) rfl) ?_
    refine Rg_run rfl (o_extract rfl rfl) ?_
    refine Rg_run rfl (o_extract rfl rfl) ?_
    refine Rg_newB rfl (o_alloc Tryd.zeroValue27) ?_
    intro b7 w10 x11 hge7 hb7
    have hlt7 := hb7.lt
    change Box _ _ _ ([str _, str _, .bool _]) at hb7
    have z12 := Bel.size x11
    replace hX := Bel.ex hX x11
    replace hx := hx.ext x11
    replace hb3 := hb3.ext x11
    refine Rg_newB rfl (o_alloc Tryd.zeroValue28) ?_
    intro b8 w13 x14 hge8 hb8
    have hlt8 := hb8.lt
    change Box _ _ _ ([str _, str _, .bool _]) at hb8
    have z15 := Bel.size x14
    replace hX := Bel.ex hX x14
    replace hx := hx.ext x14
    replace hb3 := hb3.ext x14
    replace hb7 := hb7.ext x14
    refine Rg_storeW (v := .agg _) rfl Tryd.sizeOf27 rfl rfl hb7 rfl rfl rfl ?_
    intro w16 c17 hb7
    change Box _ _ _ (encP _) at hb7
    have z18 := Bel.size c17
    replace hX := Bel.out hX c17 (fun g h1 h2 => by first | exact h2 | omega)
    replace hx := hx.keep c17 (fun g h1 h2 h3 => by omega)
    replace hb3 := hb3.keep c17 (fun h => by omega)
    replace hb8 := hb8.keep c17 (fun h => by omega)
    refine Rg_storeW (v := .agg _) rfl Tryd.sizeOf28 rfl rfl hb8 rfl rfl rfl ?_
    intro w19 c20 hb8
    change Box _ _ _ (encP _) at hb8
    have z21 := Bel.size c20
    replace hX := Bel.out hX c20 (fun g h1 h2 => by first | exact h2 | omega)
    replace hx := hx.keep c20 (fun g h1 h2 h3 => by omega)
    replace hb3 := hb3.keep c20 (fun h => by omega)
    replace hb7 := hb7.keep c20 (fun h => by omega)
    refine Rg_nil ?_
    refine W_seq ?_
    apply W_drawC (β := False) (fun _ => 0) [peqC _, peqC _, peqC _, peqC _, peqC _, peqC _, peqC _, peqC _, peqC _, peqC _, peqC _, peqC _, peqC _, (postBox w19 27 [str [], str [], .bool false])] [0, 0, 0, 0, 0, 0, 0, 0, 0, 0, 0, 0, 0, 0] 14 mixed (by kernel_rfl) (by kernel_rfl) rfl ⟨peqC_stable _ _, peqC_stable _ _, peqC_stable _ _, peqC_stable _ _, peqC_stable _ _, peqC_stable _ _, peqC_stable _ _, peqC_stable _ _, peqC_stable _ _, peqC_stable _ _, peqC_stable _ _, peqC_stable _ _, peqC_stable _ _, (postBox_stable), trivial⟩ ?ob4 ?fin4
    case ob4 =>
      refine OblC_cons (fun w22 c24 x23 hc025 hk26 => ?_) ?_
      · skip
        replace x23 := RelG.ext0 x23
        have z27 := Bel.size x23
        have hx := hx.ext x23
        have hb3 := hb3.ext x23
        have hb7 := hb7.ext x23
        have hb8 := hb8.ext x23
        refine bindC_nil ?_
        exact OpC_v rfl (o_moveh (v := str _) rfl)
      refine OblC_cons (fun w28 c30 x29 hc031 hk32 => ?_) ?_
      · skip
        replace x29 := RelG.ext0 x29
        have z33 := Bel.size x29
        have hx := hx.ext x29
        have hb3 := hb3.ext x29
        have hb7 := hb7.ext x29
        have hb8 := hb8.ext x29
        refine bindC_nil ?_
        exact OpC_v rfl (o_moveh (v := str _) rfl)
      refine OblC_cons (fun w34 c36 x35 hc037 hk38 => ?_) ?_
      · skip
        replace x35 := RelG.ext0 x35
        have z39 := Bel.size x35
        have hx := hx.ext x35
        have hb3 := hb3.ext x35
        have hb7 := hb7.ext x35
        have hb8 := hb8.ext x35
        refine bindC_eq ?_
        refine bindC_nil ?_
        exact OpC_v rfl (o_slen Tryd.underlying9 rfl)
      refine OblC_cons (fun w40 c42 x41 hc043 hk44 => ?_) ?_
      · skip
        replace x41 := RelG.ext0 x41
        have z45 := Bel.size x41
        have hx := hx.ext x41
        have hb3 := hb3.ext x41
        have hb7 := hb7.ext x41
        have hb8 := hb8.ext x41
        refine bindC_eq ?_
        refine bindC_nil ?_
        exact OpC_v rfl (o_minN (a := action.length) (b := 20) rfl rfl)
      refine OblC_cons (fun w46 c48 x47 hc049 hk50 => ?_) ?_
      · skip
        replace x47 := RelG.ext0 x47
        have z51 := Bel.size x47
        have hx := hx.ext x47
        have hb3 := hb3.ext x47
        have hb7 := hb7.ext x47
        have hb8 := hb8.ext x47
        refine bindC_eq ?_
        refine bindC_eq ?_
        refine bindC_nil ?_
        exact OpC_v rfl (o_sto (j := min action.length 20) Tryd.underlying9 rfl rfl (by omega))
      refine OblC_cons (fun w52 c54 x53 hc055 hk56 => ?_) ?_
      · skip
        replace x53 := RelG.ext0 x53
        have z57 := Bel.size x53
        have hx := hx.ext x53
        have hb3 := hb3.ext x53
        have hb7 := hb7.ext x53
        have hb8 := hb8.ext x53
        refine bindC_nil ?_
        exact OpC_v rfl (o_moveh (v := str _) rfl)
      refine OblC_cons (fun w58 c60 x59 hc061 hk62 => ?_) ?_
      · skip
        replace x59 := RelG.ext0 x59
        have z63 := Bel.size x59
        have hx := hx.ext x59
        have hb3 := hb3.ext x59
        have hb7 := hb7.ext x59
        have hb8 := hb8.ext x59
        refine bindC_nil ?_
        exact OpC_v rfl (o_moveh (v := str _) rfl)
      refine OblC_cons (fun w64 c66 x65 hc067 hk68 => ?_) ?_
      · skip
        replace x65 := RelG.ext0 x65
        have z69 := Bel.size x65
        have hx := hx.ext x65
        have hb3 := hb3.ext x65
        have hb7 := hb7.ext x65
        have hb8 := hb8.ext x65
        refine bindC_eq ?_
        refine bindC_nil ?_
        exact OpC_v rfl (o_slen Tryd.underlying9 rfl)
      refine OblC_cons (fun w70 c72 x71 hc073 hk74 => ?_) ?_
      · skip
        replace x71 := RelG.ext0 x71
        have z75 := Bel.size x71
        have hx := hx.ext x71
        have hb3 := hb3.ext x71
        have hb7 := hb7.ext x71
        have hb8 := hb8.ext x71
        refine bindC_eq ?_
        refine bindC_nil ?_
        exact OpC_v rfl (o_minN (a := place.length) (b := 60) rfl rfl)
      refine OblC_cons (fun w76 c78 x77 hc079 hk80 => ?_) ?_
      · skip
        replace x77 := RelG.ext0 x77
        have z81 := Bel.size x77
        have hx := hx.ext x77
        have hb3 := hb3.ext x77
        have hb7 := hb7.ext x77
        have hb8 := hb8.ext x77
        refine bindC_eq ?_
        refine bindC_eq ?_
        refine bindC_nil ?_
        exact OpC_v rfl (o_sto (j := min place.length 60) Tryd.underlying9 rfl rfl (by omega))
      refine OblC_cons (fun w82 c84 x83 hc085 hk86 => ?_) ?_
      · skip
        replace x83 := RelG.ext0 x83
        have z87 := Bel.size x83
        have hx := hx.ext x83
        have hb3 := hb3.ext x83
        have hb7 := hb7.ext x83
        have hb8 := hb8.ext x83
        refine bindC_nil ?_
        exact OpC_v rfl (o_fa Tryd.underlying24 rfl Tryd.sizeOf4 rfl)
      refine OblC_cons (fun w88 c90 x89 hc091 hk92 => ?_) ?_
      · skip
        replace x89 := RelG.ext0 x89
        have z93 := Bel.size x89
        have hx := hx.ext x89
        have hb3 := hb3.ext x89
        have hb7 := hb7.ext x89
        have hb8 := hb8.ext x89
        refine bindC_eq ?_
        refine bindC_nil ?_
        exact OpC_v rfl (o_load1 Tryd.isAgg4 rfl (hb3.at.get 2 rfl))
      refine OblC_cons (fun w94 c96 x95 hc097 hk98 => ?_) ?_
      · skip
        replace x95 := RelG.ext0 x95
        have z99 := Bel.size x95
        have hx := hx.ext x95
        have hb3 := hb3.ext x95
        have hb7 := hb7.ext x95
        have hb8 := hb8.ext x95
        refine bindC_eq ?_
        refine bindC_eq ?_
        refine bindC_eq ?_
        refine bindC_nil ?_
        exact OpC_v rfl (o_build (cells := encP ⟨action.take (min action.length 20), place.take (min place.length 60), x.deep⟩) (vs := [(0, str _), (1, str _), (2, .bool _)]) rfl (by kernel_rfl))
      refine OblC_cons (fun w100 c102 x101 hc0103 hk104 => ?_) ?_
      · skip
        replace x101 := RelG.ext0 x101
        have z105 := Bel.size x101
        have hx := hx.ext x101
        have hb3 := hb3.ext x101
        have hb7 := hb7.ext x101
        have hb8 := hb8.ext x101
        refine bindC_nil ?_
        exact OpC_box (Bel.size x101) rfl (o_alloc Tryd.zeroValue27)
      exact OblC_nil
    case fin4 =>
      intro w106 c108 x107 hc0109
      replace x107 := RelG.ext0 x107
      have z110 := Bel.size x107
      replace hX := Bel.ex hX x107
      replace hx := hx.ext x107
      replace hb3 := hb3.ext x107
      replace hb7 := hb7.ext x107
      replace hb8 := hb8.ext x107
      refine bindC_eq ?_
      refine bindC_eq ?_
      refine bindC_eq ?_
      refine bindC_eq ?_
      refine bindC_eq ?_
      refine bindC_eq ?_
      refine bindC_eq ?_
      refine bindC_eq ?_
      refine bindC_eq ?_
      refine bindC_eq ?_
      refine bindC_eq ?_
      refine bindC_eq ?_
      refine bindC_eq ?_
      refine bindC_mem (fun v9 hv9 => ?_)
      refine bindC_nil ?_
      obtain ⟨b9, rfl, hge9, hb9, -⟩ := hv9
      have hlt9 := hb9.lt
      refine Rg_storeW (v := .agg _) rfl Tryd.sizeOf27 rfl rfl hb9 rfl rfl rfl ?_
      intro w111 c112 hb9
      change Box _ _ _ (encP _) at hb9
      have z113 := Bel.size c112
      replace hX := Bel.out hX c112 (fun g h1 h2 => by first | exact h2 | omega)
      replace hx := hx.keep c112 (fun g h1 h2 h3 => by omega)
      replace hb3 := hb3.keep c112 (fun h => by omega)
      replace hb7 := hb7.keep c112 (fun h => by omega)
      replace hb8 := hb8.keep c112 (fun h => by omega)
      refine Rg_nil ?_
      refine W_seq ?_
      apply W_draw (β := False) [peq _, peq _, peq _, peq _, peq _, peq _, peq _, peq _, peq _, peq _, peq _, peq _, peq _] 13 mixed (by kernel_rfl) rfl ⟨peq_stable _, peq_stable _, peq_stable _, peq_stable _, peq_stable _, peq_stable _, peq_stable _, peq_stable _, peq_stable _, peq_stable _, peq_stable _, peq_stable _, peq_stable _, trivial⟩ ?ob5 ?fin5
      case ob5 =>
        refine OblL_cons (fun w114 x115 => ?_) ?_
        · skip
          have hx := hx.ext x115
          have hb3 := hb3.ext x115
          have hb7 := hb7.ext x115
          have hb8 := hb8.ext x115
          have hb9 := hb9.ext x115
          refine bindP_nil ?_
          exact OpS_v rfl (o_loadS Tryd.isAgg27 Tryd.sizeOf27 rfl hb7.at rfl)
        refine OblL_cons (fun w116 x117 => ?_) ?_
        · skip
          have hx := hx.ext x117
          have hb3 := hb3.ext x117
          have hb7 := hb7.ext x117
          have hb8 := hb8.ext x117
          have hb9 := hb9.ext x117
          refine bindP_eq ?_
          refine bindP_nil ?_
          exact OpS_call rfl (o_call1 Tryd.call15 rfl) (check_ok (False) _ x.ok _)
        refine OblL_cons (fun w118 x119 => ?_) ?_
        · skip
          have hx := hx.ext x119
          have hb3 := hb3.ext x119
          have hb7 := hb7.ext x119
          have hb8 := hb8.ext x119
          have hb9 := hb9.ext x119
          refine bindP_nil ?_
          exact OpS_v rfl (o_loadS Tryd.isAgg28 Tryd.sizeOf28 rfl hb8.at rfl)
        refine OblL_cons (fun w120 x121 => ?_) ?_
        · skip
          have hx := hx.ext x121
          have hb3 := hb3.ext x121
          have hb7 := hb7.ext x121
          have hb8 := hb8.ext x121
          have hb9 := hb9.ext x121
          refine bindP_eq ?_
          refine bindP_eq ?_
          refine bindP_nil ?_
          exact OpS_call rfl (o_call1 Tryd.call16 rfl) (rcheck_ok _ _ x.ok)
        refine OblL_cons (fun w122 x123 => ?_) ?_
        · skip
          have hx := hx.ext x123
          have hb3 := hb3.ext x123
          have hb7 := hb7.ext x123
          have hb8 := hb8.ext x123
          have hb9 := hb9.ext x123
          refine bindP_eq ?_
          refine bindP_eq ?_
          refine bindP_nil ?_
          exact OpS_v rfl (o_eql rfl rfl)
        refine OblL_cons (fun w124 x125 => ?_) ?_
        · skip
          have hx := hx.ext x125
          have hb3 := hb3.ext x125
          have hb7 := hb7.ext x125
          have hb8 := hb8.ext x125
          have hb9 := hb9.ext x125
          refine bindP_eq ?_
          refine bindP_eq ?_
          refine bindP_nil ?_
          exact OpS_v rfl (o_moveh (v := .bool _) rfl)
        refine OblL_cons (fun w126 x127 => ?_) ?_
        · skip
          have hx := hx.ext x127
          have hb3 := hb3.ext x127
          have hb7 := hb7.ext x127
          have hb8 := hb8.ext x127
          have hb9 := hb9.ext x127
          refine bindP_eq ?_
          refine bindP_nil ?_
          exact OpS_may 5 35 rfl rfl (fun hg => (o_loadS Tryd.isAgg27 Tryd.sizeOf27 rfl hb9.at rfl))
        refine OblL_cons (fun w128 x129 => ?_) ?_
        · skip
          have hx := hx.ext x129
          have hb3 := hb3.ext x129
          have hb7 := hb7.ext x129
          have hb8 := hb8.ext x129
          have hb9 := hb9.ext x129
          refine bindP_eq ?_
          refine bindP_eq ?_
          refine bindP_eq ?_
          refine bindP_nil ?_
          exact OpS_mayCall 5 35 rfl rfl (fun hg => ⟨(o_call1 Tryd.call15 (gsel (u := undef) hg)), check_ok (False) _ ⟨by rw [List.length_take]; omega, by rw [List.length_take]; omega⟩ _⟩)
        refine OblL_cons (fun w130 x131 => ?_) ?_
        · skip
          have hx := hx.ext x131
          have hb3 := hb3.ext x131
          have hb7 := hb7.ext x131
          have hb8 := hb8.ext x131
          have hb9 := hb9.ext x131
          refine bindP_eq ?_
          refine bindP_nil ?_
          exact OpS_may 5 35 rfl rfl (fun hg => (o_loadS Tryd.isAgg27 Tryd.sizeOf27 rfl hb9.at rfl))
        refine OblL_cons (fun w132 x133 => ?_) ?_
        · skip
          have hx := hx.ext x133
          have hb3 := hb3.ext x133
          have hb7 := hb7.ext x133
          have hb8 := hb8.ext x133
          have hb9 := hb9.ext x133
          refine bindP_eq ?_
          refine bindP_eq ?_
          refine bindP_eq ?_
          refine bindP_nil ?_
          exact OpS_mayCall 5 35 rfl rfl (fun hg => ⟨(o_call1 Tryd.call16 (gsel (u := undef) hg)), rcheck_ok _ _ ⟨by rw [List.length_take]; omega, by rw [List.length_take]; omega⟩⟩)
        refine OblL_cons (fun w134 x135 => ?_) ?_
        · skip
          have hx := hx.ext x135
          have hb3 := hb3.ext x135
          have hb7 := hb7.ext x135
          have hb8 := hb8.ext x135
          have hb9 := hb9.ext x135
          refine bindP_eq ?_
          refine bindP_eq ?_
          refine bindP_eq ?_
          refine bindP_nil ?_
          exact OpS_may 5 35 rfl rfl (fun hg => (o_eql (gsel (u := undef) hg) (gsel (u := undef) hg)))
        refine OblL_cons (fun w136 x137 => ?_) ?_
        · skip
          have hx := hx.ext x137
          have hb3 := hb3.ext x137
          have hb7 := hb7.ext x137
          have hb8 := hb8.ext x137
          have hb9 := hb9.ext x137
          refine bindP_eq ?_
          refine bindP_eq ?_
          refine bindP_nil ?_
          exact OpS_v rfl (o_and (u := undef) rfl rfl)
        refine OblL_cons (fun w138 x139 => ?_) ?_
        · skip
          have hx := hx.ext x139
          have hb3 := hb3.ext x139
          have hb7 := hb7.ext x139
          have hb8 := hb8.ext x139
          have hb9 := hb9.ext x139
          refine bindP_eq ?_
          refine bindP_eq ?_
          refine bindP_eq ?_
          refine bindP_eq ?_
          refine bindP_eq ?_
          refine bindP_eq ?_
          refine bindP_eq ?_
          refine bindP_eq ?_
          refine bindP_eq ?_
          refine bindP_eq ?_
          refine bindP_eq ?_
          refine bindP_eq ?_
          refine bindP_eq ?_
          refine bindP_eq ?_
          refine bindP_nil ?_
          exact OpS_v rfl (o_assignh (v := .bool _) rfl)
        exact OblL_nil
      case fin5 =>
        intro w140 x141
        have z142 := Bel.size x141
        replace hX := Bel.ex hX x141
        replace hx := hx.ext x141
        replace hb3 := hb3.ext x141
        replace hb7 := hb7.ext x141
        replace hb8 := hb8.ext x141
        replace hb9 := hb9.ext x141
        refine bindP_eq ?_
        refine bindP_eq ?_
        refine bindP_eq ?_
        refine bindP_eq ?_
        refine bindP_eq ?_
        refine bindP_eq ?_
        refine bindP_eq ?_
        refine bindP_eq ?_
        refine bindP_eq ?_
        refine bindP_eq ?_
        refine bindP_eq ?_
        refine bindP_eq ?_
        refine bindP_eq ?_
        refine bindP_nil ?_
        refine Rg_nil ?_
        refine W_ret ?_
        refine ⟨_, res_tmp rfl rfl, ?_⟩
        refine ⟨congrArg Value.bool ?_, hX⟩
        all_goals (simp)

theorem law_PermissionCovers (w : World) (x : RawV) (hx : Sl encB 1 (Lt w.heap.size) w x.a x.c x.names) (y : RawV) (hy : Sl encB 1 (Lt w.heap.size) w y.a y.c y.names) : Ok Tryd.prog 4 #[.agg (encR x).toArray, .agg (encR y).toArray] w fun v w' => v = .bool (true) ∧ Ext False w w' := by
  refine Ok_of_W 56 Tryd.func4 rfl rfl rfl ?_
  have hX : Ext False w w := Bel.refl _ _
  refine W_seq ?_
  refine W_region ?_
  refine Rg_newB rfl (o_box (v := .agg _) rfl) ?_
  intro b2 w1 x2 hge2 hb2
  have hlt2 := hb2.lt
  change Box _ _ _ (encR _) at hb2
  have z3 := Bel.size x2
  replace hX := Bel.ex hX x2
  replace hx := hx.ext x2
  replace hy := hy.ext x2
  refine Rg_newB rfl (o_box (v := .agg _) rfl) ?_
  intro b3 w4 x5 hge3 hb3
  have hlt3 := hb3.lt
  change Box _ _ _ (encR _) at hb3
  have z6 := Bel.size x5
  replace hX := Bel.ex hX x5
  replace hx := hx.ext x5
  replace hy := hy.ext x5
  replace hb2 := hb2.ext x5
  refine Rg_run rfl o_assignc ?_
  refine Rg_nil ?_
  refine W_seq ?_
  refine W_seq ?_
  refine W_region ?_
  refine Rg_enter rfl (o_call0 Tryd.call13) (Ok.mono (awake_ok _) ?_)
  rintro _ w7 ⟨rfl, x8⟩
  have z9 := Bel.size x8
  replace hX := Bel.ex hX x8
  replace hx := hx.ext x8
  replace hy := hy.ext x8
  replace hb2 := hb2.ext x8
  replace hb3 := hb3.ext x8
  refine Rg_run rfl (o_not rfl) ?_
  refine Rg_nil ?_
  refine W_cond rfl (fun hc1 => ?_) (fun hc1 => ?_)
  · skip
    refine W_seq ?_
    refine W_region ?_
    refine Rg_run rfl o_assignc ?_
    refine Rg_nil ?_
    refine W_ret ?_
    refine ⟨_, res_tmp rfl rfl, ?_⟩
    refine ⟨congrArg Value.bool ?_, hX⟩
    all_goals (cases hc1)
  · skip
    refine W_skip ?_
    refine W_seq ?_
    refine W_region ?_
    refine Rg_run rfl (o_loadS Tryd.isAgg24 Tryd.sizeOf24 rfl hb2.at rfl) ?_
    refine Rg_enter rfl (o_call1 Tryd.call14 rfl) (Ok.mono (make_ok _ _ hx.top) ?_)
    rintro _ w10 ⟨rfl, x11⟩
    have z12 := Bel.size x11
    replace hX := Bel.ex hX x11
    replace hx := hx.ext x11
    replace hy := hy.ext x11
    replace hb2 := hb2.ext x11
    replace hb3 := hb3.ext x11
    refine Rg_run rfl (o_moveh (v := .tuple _) rfl) ?_
    refine Rg_run rfl (o_extract rfl rfl) ?_
    refine Rg_run rfl (o_extract rfl rfl) ?_
    refine Rg_newB rfl (o_alloc Tryd.zeroValue27) ?_
    intro b5 w13 x14 hge5 hb5
    have hlt5 := hb5.lt
    change Box _ _ _ ([str _, str _, .bool _]) at hb5
    have z15 := Bel.size x14
    replace hX := Bel.ex hX x14
    replace hx := hx.ext x14
    replace hy := hy.ext x14
    replace hb2 := hb2.ext x14
    replace hb3 := hb3.ext x14
    refine Rg_newB rfl (o_alloc Tryd.zeroValue28) ?_
    intro b6 w16 x17 hge6 hb6
    have hlt6 := hb6.lt
    change Box _ _ _ ([str _, str _, .bool _]) at hb6
    have z18 := Bel.size x17
    replace hX := Bel.ex hX x17
    replace hx := hx.ext x17
    replace hy := hy.ext x17
    replace hb2 := hb2.ext x17
    replace hb3 := hb3.ext x17
    replace hb5 := hb5.ext x17
    refine Rg_storeW (v := .agg _) rfl Tryd.sizeOf27 rfl rfl hb5 rfl rfl rfl ?_
    intro w19 c20 hb5
    change Box _ _ _ (encP _) at hb5
    have z21 := Bel.size c20
    replace hX := Bel.out hX c20 (fun g h1 h2 => by first | exact h2 | omega)
    replace hx := hx.keep c20 (fun g h1 h2 h3 => by omega)
    replace hy := hy.keep c20 (fun g h1 h2 h3 => by omega)
    replace hb2 := hb2.keep c20 (fun h => by omega)
    replace hb3 := hb3.keep c20 (fun h => by omega)
    replace hb6 := hb6.keep c20 (fun h => by omega)
    refine Rg_storeW (v := .agg _) rfl Tryd.sizeOf28 rfl rfl hb6 rfl rfl rfl ?_
    intro w22 c23 hb6
    change Box _ _ _ (encP _) at hb6
    have z24 := Bel.size c23
    replace hX := Bel.out hX c23 (fun g h1 h2 => by first | exact h2 | omega)
    replace hx := hx.keep c23 (fun g h1 h2 h3 => by omega)
    replace hy := hy.keep c23 (fun g h1 h2 h3 => by omega)
    replace hb2 := hb2.keep c23 (fun h => by omega)
    replace hb3 := hb3.keep c23 (fun h => by omega)
    replace hb5 := hb5.keep c23 (fun h => by omega)
    refine Rg_nil ?_
    refine W_seq ?_
    apply W_draw (β := False) [peq _, peq _, peq _, peq _, peq _, peq _, peq _, peq _] 8 mixed (by kernel_rfl) rfl ⟨peq_stable _, peq_stable _, peq_stable _, peq_stable _, peq_stable _, peq_stable _, peq_stable _, peq_stable _, trivial⟩ ?ob4 ?fin4
    case ob4 =>
      refine OblL_cons (fun w25 x26 => ?_) ?_
      · skip
        have hx := hx.ext x26
        have hy := hy.ext x26
        have hb2 := hb2.ext x26
        have hb3 := hb3.ext x26
        have hb5 := hb5.ext x26
        have hb6 := hb6.ext x26
        refine bindP_nil ?_
        exact OpS_v rfl (o_fa Tryd.underlying24 rfl Tryd.sizeOf5 rfl)
      refine OblL_cons (fun w27 x28 => ?_) ?_
      · skip
        have hx := hx.ext x28
        have hy := hy.ext x28
        have hb2 := hb2.ext x28
        have hb3 := hb3.ext x28
        have hb5 := hb5.ext x28
        have hb6 := hb6.ext x28
        refine bindP_eq ?_
        refine bindP_nil ?_
        exact OpS_v rfl (o_load1 Tryd.isAgg5 rfl (hb3.at.get 0 rfl))
      refine OblL_cons (fun w29 x30 => ?_) ?_
      · skip
        have hx := hx.ext x30
        have hy := hy.ext x30
        have hb2 := hb2.ext x30
        have hb3 := hb3.ext x30
        have hb5 := hb5.ext x30
        have hb6 := hb6.ext x30
        refine bindP_eq ?_
        refine bindP_nil ?_
        exact OpS_call rfl (o_call1 Tryd.call17 rfl) (raction_ok (False) _ _)
      refine OblL_cons (fun w31 x32 => ?_) ?_
      · skip
        have hx := hx.ext x32
        have hy := hy.ext x32
        have hb2 := hb2.ext x32
        have hb3 := hb3.ext x32
        have hb5 := hb5.ext x32
        have hb6 := hb6.ext x32
        refine bindP_nil ?_
        exact OpS_v rfl (o_fa Tryd.underlying24 rfl Tryd.sizeOf22 rfl)
      refine OblL_cons (fun w33 x34 => ?_) ?_
      · skip
        have hx := hx.ext x34
        have hy := hy.ext x34
        have hb2 := hb2.ext x34
        have hb3 := hb3.ext x34
        have hb5 := hb5.ext x34
        have hb6 := hb6.ext x34
        refine bindP_eq ?_
        refine bindP_nil ?_
        exact OpS_v rfl (o_load1 Tryd.isAgg22 rfl (hb3.at.get 1 rfl))
      refine OblL_cons (fun w35 x36 => ?_) ?_
      · skip
        have hx := hx.ext x36
        have hy := hy.ext x36
        have hb2 := hb2.ext x36
        have hb3 := hb3.ext x36
        have hb5 := hb5.ext x36
        have hb6 := hb6.ext x36
        refine bindP_eq ?_
        refine bindP_eq ?_
        refine bindP_nil ?_
        exact OpS_call rfl (o_call1 Tryd.call18 rfl) (rpath_ok _ _ _ hy.trd)
      refine OblL_cons (fun w37 x38 => ?_) ?_
      · skip
        have hx := hx.ext x38
        have hy := hy.ext x38
        have hb2 := hb2.ext x38
        have hb3 := hb3.ext x38
        have hb5 := hb5.ext x38
        have hb6 := hb6.ext x38
        refine bindP_eq ?_
        refine bindP_eq ?_
        refine bindP_eq ?_
        refine bindP_eq ?_
        refine bindP_eq ?_
        refine bindP_nil ?_
        exact OpS_v rfl (o_assignh (v := str _) rfl)
      refine OblL_cons (fun w39 x40 => ?_) ?_
      · skip
        have hx := hx.ext x40
        have hy := hy.ext x40
        have hb2 := hb2.ext x40
        have hb3 := hb3.ext x40
        have hb5 := hb5.ext x40
        have hb6 := hb6.ext x40
        refine bindP_eq ?_
        refine bindP_eq ?_
        refine bindP_eq ?_
        refine bindP_eq ?_
        refine bindP_eq ?_
        refine bindP_eq ?_
        refine bindP_eq ?_
        refine bindP_eq ?_
        refine bindP_eq ?_
        refine bindP_nil ?_
        exact OpS_v rfl (o_assignh (v := str _) rfl)
      exact OblL_nil
    case fin4 =>
      intro w41 x42
      have z43 := Bel.size x42
      replace hX := Bel.ex hX x42
      replace hx := hx.ext x42
      replace hy := hy.ext x42
      replace hb2 := hb2.ext x42
      replace hb3 := hb3.ext x42
      replace hb5 := hb5.ext x42
      replace hb6 := hb6.ext x42
      refine bindP_eq ?_
      refine bindP_eq ?_
      refine bindP_eq ?_
      refine bindP_eq ?_
      refine bindP_eq ?_
      refine bindP_eq ?_
      refine bindP_eq ?_
      refine bindP_eq ?_
      refine bindP_nil ?_
      refine Rg_nil ?_
      refine W_seq ?_
      apply W_draw (β := False) [peq _, peq _, peq _, peq _, peq _, peq _, peq _, peq _, peq _, peq _, peq _, peq _, peq _, peq _, peq _, peq _, peq _, peq _, peq _, peq _, peq _, peq _, peq _, peq _, peq _, peq _, peq _, peq _, peq _, peq _, peq _, peq _, peq _, peq _, peq _] 35 mixed (by kernel_rfl) rfl ⟨peq_stable _, peq_stable _, peq_stable _, peq_stable _, peq_stable _, peq_stable _, peq_stable _, peq_stable _, peq_stable _, peq_stable _, peq_stable _, peq_stable _, peq_stable _, peq_stable _, peq_stable _, peq_stable _, peq_stable _, peq_stable _, peq_stable _, peq_stable _, peq_stable _, peq_stable _, peq_stable _, peq_stable _, peq_stable _, peq_stable _, peq_stable _, peq_stable _, peq_stable _, peq_stable _, peq_stable _, peq_stable _, peq_stable _, peq_stable _, peq_stable _, trivial⟩ ?ob5 ?fin5
      case ob5 =>
        refine OblL_cons (fun w44 x45 => ?_) ?_
        · skip
          have hx := hx.ext x45
          have hy := hy.ext x45
          have hb2 := hb2.ext x45
          have hb3 := hb3.ext x45
          have hb5 := hb5.ext x45
          have hb6 := hb6.ext x45
          refine bindP_nil ?_
          exact OpS_v rfl (o_loadS Tryd.isAgg27 Tryd.sizeOf27 rfl hb5.at rfl)
        refine OblL_cons (fun w46 x47 => ?_) ?_
        · skip
          have hx := hx.ext x47
          have hy := hy.ext x47
          have hb2 := hb2.ext x47
          have hb3 := hb3.ext x47
          have hb5 := hb5.ext x47
          have hb6 := hb6.ext x47
          refine bindP_nil ?_
          exact OpS_v rfl (o_moveh (v := str _) rfl)
        refine OblL_cons (fun w48 x49 => ?_) ?_
        · skip
          have hx := hx.ext x49
          have hy := hy.ext x49
          have hb2 := hb2.ext x49
          have hb3 := hb3.ext x49
          have hb5 := hb5.ext x49
          have hb6 := hb6.ext x49
          refine bindP_nil ?_
          exact OpS_v rfl (o_moveh (v := str _) rfl)
        refine OblL_cons (fun w50 x51 => ?_) ?_
        · skip
          have hx := hx.ext x51
          have hy := hy.ext x51
          have hb2 := hb2.ext x51
          have hb3 := hb3.ext x51
          have hb5 := hb5.ext x51
          have hb6 := hb6.ext x51
          refine bindP_eq ?_
          refine bindP_eq ?_
          refine bindP_eq ?_
          refine bindP_nil ?_
          exact OpS_call rfl (o_call3 Tryd.call19 rfl rfl rfl) (covers_ok (False) _ x.ok _ _ (by have := actionS_len y.act; omega) (by have := pathS_len y.names; omega) _)
        refine OblL_cons (fun w52 x53 => ?_) ?_
        · skip
          have hx := hx.ext x53
          have hy := hy.ext x53
          have hb2 := hb2.ext x53
          have hb3 := hb3.ext x53
          have hb5 := hb5.ext x53
          have hb6 := hb6.ext x53
          refine bindP_nil ?_
          exact OpS_v rfl (o_loadS Tryd.isAgg28 Tryd.sizeOf28 rfl hb6.at rfl)
        refine OblL_cons (fun w54 x55 => ?_) ?_
        · skip
          have hx := hx.ext x55
          have hy := hy.ext x55
          have hb2 := hb2.ext x55
          have hb3 := hb3.ext x55
          have hb5 := hb5.ext x55
          have hb6 := hb6.ext x55
          refine bindP_nil ?_
          exact OpS_v rfl (o_moveh (v := str _) rfl)
        refine OblL_cons (fun w56 x57 => ?_) ?_
        · skip
          have hx := hx.ext x57
          have hy := hy.ext x57
          have hb2 := hb2.ext x57
          have hb3 := hb3.ext x57
          have hb5 := hb5.ext x57
          have hb6 := hb6.ext x57
          refine bindP_nil ?_
          exact OpS_v rfl (o_moveh (v := str _) rfl)
        refine OblL_cons (fun w58 x59 => ?_) ?_
        · skip
          have hx := hx.ext x59
          have hy := hy.ext x59
          have hb2 := hb2.ext x59
          have hb3 := hb3.ext x59
          have hb5 := hb5.ext x59
          have hb6 := hb6.ext x59
          refine bindP_eq ?_
          refine bindP_eq ?_
          refine bindP_eq ?_
          refine bindP_eq ?_
          refine bindP_nil ?_
          exact OpS_call rfl (o_call3 Tryd.call20 rfl rfl rfl) (rcovers_ok _ _ x.ok _ (by have := actionS_len y.act; omega) _ (by have := pathS_len y.names; omega))
        refine OblL_cons (fun w60 x61 => ?_) ?_
        · skip
          have hx := hx.ext x61
          have hy := hy.ext x61
          have hb2 := hb2.ext x61
          have hb3 := hb3.ext x61
          have hb5 := hb5.ext x61
          have hb6 := hb6.ext x61
          refine bindP_eq ?_
          refine bindP_eq ?_
          refine bindP_nil ?_
          exact OpS_v rfl (o_beql Tryd.underlying4 rfl rfl)
        refine OblL_cons (fun w62 x63 => ?_) ?_
        · skip
          have hx := hx.ext x63
          have hy := hy.ext x63
          have hb2 := hb2.ext x63
          have hb3 := hb3.ext x63
          have hb5 := hb5.ext x63
          have hb6 := hb6.ext x63
          refine bindP_eq ?_
          refine bindP_eq ?_
          refine bindP_nil ?_
          exact OpS_v rfl (o_moveh (v := .bool _) rfl)
        refine OblL_cons (fun w64 x65 => ?_) ?_
        · skip
          have hx := hx.ext x65
          have hy := hy.ext x65
          have hb2 := hb2.ext x65
          have hb3 := hb3.ext x65
          have hb5 := hb5.ext x65
          have hb6 := hb6.ext x65
          refine bindP_eq ?_
          refine bindP_nil ?_
          exact OpS_may 9 31 rfl rfl (fun hg => (o_loadS Tryd.isAgg27 Tryd.sizeOf27 rfl hb5.at rfl))
        refine OblL_cons (fun w66 x67 => ?_) ?_
        · skip
          have hx := hx.ext x67
          have hy := hy.ext x67
          have hb2 := hb2.ext x67
          have hb3 := hb3.ext x67
          have hb5 := hb5.ext x67
          have hb6 := hb6.ext x67
          refine bindP_eq ?_
          refine bindP_nil ?_
          exact OpS_may 9 31 rfl rfl (fun hg => (o_fa Tryd.underlying27 rfl Tryd.sizeOf9 rfl))
        refine OblL_cons (fun w68 x69 => ?_) ?_
        · skip
          have hx := hx.ext x69
          have hy := hy.ext x69
          have hb2 := hb2.ext x69
          have hb3 := hb3.ext x69
          have hb5 := hb5.ext x69
          have hb6 := hb6.ext x69
          refine bindP_eq ?_
          refine bindP_eq ?_
          refine bindP_nil ?_
          exact OpS_may 9 31 rfl rfl (fun hg => (o_load1 Tryd.isAgg9 (gsel (u := undef) hg) (hb5.at.get 0 rfl)))
        refine OblL_cons (fun w70 x71 => ?_) ?_
        · skip
          have hx := hx.ext x71
          have hy := hy.ext x71
          have hb2 := hb2.ext x71
          have hb3 := hb3.ext x71
          have hb5 := hb5.ext x71
          have hb6 := hb6.ext x71
          refine bindP_eq ?_
          refine bindP_nil ?_
          exact OpS_may 9 31 rfl rfl (fun hg => (o_moveh (v := str _) rfl))
        refine OblL_cons (fun w72 x73 => ?_) ?_
        · skip
          have hx := hx.ext x73
          have hy := hy.ext x73
          have hb2 := hb2.ext x73
          have hb3 := hb3.ext x73
          have hb5 := hb5.ext x73
          have hb6 := hb6.ext x73
          refine bindP_eq ?_
          refine bindP_eq ?_
          refine bindP_eq ?_
          refine bindP_eq ?_
          refine bindP_eq ?_
          refine bindP_nil ?_
          exact OpS_mayCall 9 31 rfl rfl (fun hg => ⟨(o_call3 Tryd.call19 (gsel (u := undef) hg) (gsel (u := undef) hg) (gsel (u := undef) hg)), covers_ok (False) _ x.ok _ _ (by have := actionS_len x.act; show (actionS x.act).length ≤ _; omega) (by have := pathS_len y.names; omega) _⟩)
        refine OblL_cons (fun w74 x75 => ?_) ?_
        · skip
          have hx := hx.ext x75
          have hy := hy.ext x75
          have hb2 := hb2.ext x75
          have hb3 := hb3.ext x75
          have hb5 := hb5.ext x75
          have hb6 := hb6.ext x75
          refine bindP_eq ?_
          refine bindP_nil ?_
          exact OpS_may 9 31 rfl rfl (fun hg => (o_loadS Tryd.isAgg28 Tryd.sizeOf28 rfl hb6.at rfl))
        refine OblL_cons (fun w76 x77 => ?_) ?_
        · skip
          have hx := hx.ext x77
          have hy := hy.ext x77
          have hb2 := hb2.ext x77
          have hb3 := hb3.ext x77
          have hb5 := hb5.ext x77
          have hb6 := hb6.ext x77
          refine bindP_eq ?_
          refine bindP_nil ?_
          exact OpS_may 9 31 rfl rfl (fun hg => (o_fa Tryd.underlying28 rfl Tryd.sizeOf9 rfl))
        refine OblL_cons (fun w78 x79 => ?_) ?_
        · skip
          have hx := hx.ext x79
          have hy := hy.ext x79
          have hb2 := hb2.ext x79
          have hb3 := hb3.ext x79
          have hb5 := hb5.ext x79
          have hb6 := hb6.ext x79
          refine bindP_eq ?_
          refine bindP_eq ?_
          refine bindP_nil ?_
          exact OpS_may 9 31 rfl rfl (fun hg => (o_load1 Tryd.isAgg9 (gsel (u := undef) hg) (hb6.at.get 0 rfl)))
        refine OblL_cons (fun w80 x81 => ?_) ?_
        · skip
          have hx := hx.ext x81
          have hy := hy.ext x81
          have hb2 := hb2.ext x81
          have hb3 := hb3.ext x81
          have hb5 := hb5.ext x81
          have hb6 := hb6.ext x81
          refine bindP_eq ?_
          refine bindP_nil ?_
          exact OpS_may 9 31 rfl rfl (fun hg => (o_moveh (v := str _) rfl))
        refine OblL_cons (fun w82 x83 => ?_) ?_
        · skip
          have hx := hx.ext x83
          have hy := hy.ext x83
          have hb2 := hb2.ext x83
          have hb3 := hb3.ext x83
          have hb5 := hb5.ext x83
          have hb6 := hb6.ext x83
          refine bindP_eq ?_
          refine bindP_eq ?_
          refine bindP_eq ?_
          refine bindP_eq ?_
          refine bindP_eq ?_
          refine bindP_nil ?_
          exact OpS_mayCall 9 31 rfl rfl (fun hg => ⟨(o_call3 Tryd.call20 (gsel (u := undef) hg) (gsel (u := undef) hg) (gsel (u := undef) hg)), rcovers_ok _ _ x.ok _ (by have := actionS_len x.act; show (actionS x.act).length ≤ _; omega) _ (by have := pathS_len y.names; omega)⟩)
        refine OblL_cons (fun w84 x85 => ?_) ?_
        · skip
          have hx := hx.ext x85
          have hy := hy.ext x85
          have hb2 := hb2.ext x85
          have hb3 := hb3.ext x85
          have hb5 := hb5.ext x85
          have hb6 := hb6.ext x85
          refine bindP_eq ?_
          refine bindP_eq ?_
          refine bindP_eq ?_
          refine bindP_nil ?_
          exact OpS_may 9 31 rfl rfl (fun hg => (o_beql Tryd.underlying4 (gsel (u := undef) hg) (gsel (u := undef) hg)))
        refine OblL_cons (fun w86 x87 => ?_) ?_
        · skip
          have hx := hx.ext x87
          have hy := hy.ext x87
          have hb2 := hb2.ext x87
          have hb3 := hb3.ext x87
          have hb5 := hb5.ext x87
          have hb6 := hb6.ext x87
          refine bindP_eq ?_
          refine bindP_eq ?_
          refine bindP_nil ?_
          exact OpS_v rfl (o_and (u := undef) rfl rfl)
        refine OblL_cons (fun w88 x89 => ?_) ?_
        · skip
          have hx := hx.ext x89
          have hy := hy.ext x89
          have hb2 := hb2.ext x89
          have hb3 := hb3.ext x89
          have hb5 := hb5.ext x89
          have hb6 := hb6.ext x89
          refine bindP_eq ?_
          refine bindP_eq ?_
          refine bindP_nil ?_
          exact OpS_v rfl (o_moveh (v := .bool _) rfl)
        refine OblL_cons (fun w90 x91 => ?_) ?_
        · skip
          have hx := hx.ext x91
          have hy := hy.ext x91
          have hb2 := hb2.ext x91
          have hb3 := hb3.ext x91
          have hb5 := hb5.ext x91
          have hb6 := hb6.ext x91
          refine bindP_eq ?_
          refine bindP_nil ?_
          exact OpS_may 22 44 rfl rfl (fun hg => (o_loadS Tryd.isAgg27 Tryd.sizeOf27 rfl hb5.at rfl))
        refine OblL_cons (fun w92 x93 => ?_) ?_
        · skip
          have hx := hx.ext x93
          have hy := hy.ext x93
          have hb2 := hb2.ext x93
          have hb3 := hb3.ext x93
          have hb5 := hb5.ext x93
          have hb6 := hb6.ext x93
          refine bindP_eq ?_
          refine bindP_nil ?_
          exact OpS_may 22 44 rfl rfl (fun hg => (o_fa Tryd.underlying27 rfl Tryd.sizeOf9 rfl))
        refine OblL_cons (fun w94 x95 => ?_) ?_
        · skip
          have hx := hx.ext x95
          have hy := hy.ext x95
          have hb2 := hb2.ext x95
          have hb3 := hb3.ext x95
          have hb5 := hb5.ext x95
          have hb6 := hb6.ext x95
          refine bindP_eq ?_
          refine bindP_eq ?_
          refine bindP_nil ?_
          exact OpS_may 22 44 rfl rfl (fun hg => (o_load1 Tryd.isAgg9 (gsel (u := undef) hg) (hb5.at.get 0 rfl)))
        refine OblL_cons (fun w96 x97 => ?_) ?_
        · skip
          have hx := hx.ext x97
          have hy := hy.ext x97
          have hb2 := hb2.ext x97
          have hb3 := hb3.ext x97
          have hb5 := hb5.ext x97
          have hb6 := hb6.ext x97
          refine bindP_eq ?_
          refine bindP_nil ?_
          exact OpS_may 22 44 rfl rfl (fun hg => (o_fa Tryd.underlying27 rfl Tryd.sizeOf9 rfl))
        refine OblL_cons (fun w98 x99 => ?_) ?_
        · skip
          have hx := hx.ext x99
          have hy := hy.ext x99
          have hb2 := hb2.ext x99
          have hb3 := hb3.ext x99
          have hb5 := hb5.ext x99
          have hb6 := hb6.ext x99
          refine bindP_eq ?_
          refine bindP_eq ?_
          refine bindP_nil ?_
          exact OpS_may 22 44 rfl rfl (fun hg => (o_load1 Tryd.isAgg9 (gsel (u := undef) hg) (hb5.at.get 1 rfl)))
        refine OblL_cons (fun w100 x101 => ?_) ?_
        · skip
          have hx := hx.ext x101
          have hy := hy.ext x101
          have hb2 := hb2.ext x101
          have hb3 := hb3.ext x101
          have hb5 := hb5.ext x101
          have hb6 := hb6.ext x101
          refine bindP_eq ?_
          refine bindP_eq ?_
          refine bindP_eq ?_
          refine bindP_eq ?_
          refine bindP_eq ?_
          refine bindP_nil ?_
          exact OpS_mayCall 22 44 rfl rfl (fun hg => ⟨(o_call3 Tryd.call19 (gsel (u := undef) hg) (gsel (u := undef) hg) (gsel (u := undef) hg)), covers_ok (False) _ x.ok _ _ (by have := actionS_len x.act; show (actionS x.act).length ≤ _; omega) (by have := pathS_len x.names; show (pathS x.names).length ≤ _; omega) _⟩)
        refine OblL_cons (fun w102 x103 => ?_) ?_
        · skip
          have hx := hx.ext x103
          have hy := hy.ext x103
          have hb2 := hb2.ext x103
          have hb3 := hb3.ext x103
          have hb5 := hb5.ext x103
          have hb6 := hb6.ext x103
          refine bindP_eq ?_
          refine bindP_nil ?_
          exact OpS_may 22 44 rfl rfl (fun hg => (o_loadS Tryd.isAgg28 Tryd.sizeOf28 rfl hb6.at rfl))
        refine OblL_cons (fun w104 x105 => ?_) ?_
        · skip
          have hx := hx.ext x105
          have hy := hy.ext x105
          have hb2 := hb2.ext x105
          have hb3 := hb3.ext x105
          have hb5 := hb5.ext x105
          have hb6 := hb6.ext x105
          refine bindP_eq ?_
          refine bindP_eq ?_
          refine bindP_eq ?_
          refine bindP_nil ?_
          exact OpS_mayCall 22 44 rfl rfl (fun hg => ⟨(o_call1 Tryd.call16 (gsel (u := undef) hg)), rcheck_ok _ _ x.ok⟩)
        refine OblL_cons (fun w106 x107 => ?_) ?_
        · skip
          have hx := hx.ext x107
          have hy := hy.ext x107
          have hb2 := hb2.ext x107
          have hb3 := hb3.ext x107
          have hb5 := hb5.ext x107
          have hb6 := hb6.ext x107
          refine bindP_eq ?_
          refine bindP_eq ?_
          refine bindP_nil ?_
          exact OpS_may 22 44 rfl rfl (fun hg => (o_eql (gsel (u := undef) hg) rfl))
        refine OblL_cons (fun w108 x109 => ?_) ?_
        · skip
          have hx := hx.ext x109
          have hy := hy.ext x109
          have hb2 := hb2.ext x109
          have hb3 := hb3.ext x109
          have hb5 := hb5.ext x109
          have hb6 := hb6.ext x109
          refine bindP_eq ?_
          refine bindP_eq ?_
          refine bindP_eq ?_
          refine bindP_nil ?_
          exact OpS_may 22 44 rfl rfl (fun hg => (o_beql Tryd.underlying4 (gsel (u := undef) hg) (gsel (u := undef) hg)))
        refine OblL_cons (fun w110 x111 => ?_) ?_
        · skip
          have hx := hx.ext x111
          have hy := hy.ext x111
          have hb2 := hb2.ext x111
          have hb3 := hb3.ext x111
          have hb5 := hb5.ext x111
          have hb6 := hb6.ext x111
          refine bindP_eq ?_
          refine bindP_eq ?_
          refine bindP_nil ?_
          exact OpS_v rfl (o_and (u := undef) rfl rfl)
        refine OblL_cons (fun w112 x113 => ?_) ?_
        · skip
          have hx := hx.ext x113
          have hy := hy.ext x113
          have hb2 := hb2.ext x113
          have hb3 := hb3.ext x113
          have hb5 := hb5.ext x113
          have hb6 := hb6.ext x113
          refine bindP_eq ?_
          refine bindP_eq ?_
          refine bindP_eq ?_
          refine bindP_eq ?_
          refine bindP_eq ?_
          refine bindP_eq ?_
          refine bindP_eq ?_
          refine bindP_eq ?_
          refine bindP_eq ?_
          refine bindP_eq ?_
          refine bindP_eq ?_
          refine bindP_eq ?_
          refine bindP_eq ?_
          refine bindP_eq ?_
          refine bindP_eq ?_
          refine bindP_eq ?_
          refine bindP_eq ?_
          refine bindP_eq ?_
          refine bindP_eq ?_
          refine bindP_eq ?_
          refine bindP_eq ?_
          refine bindP_eq ?_
          refine bindP_eq ?_
          refine bindP_eq ?_
          refine bindP_eq ?_
          refine bindP_eq ?_
          refine bindP_eq ?_
          refine bindP_eq ?_
          refine bindP_eq ?_
          refine bindP_eq ?_
          refine bindP_eq ?_
          refine bindP_eq ?_
          refine bindP_eq ?_
          refine bindP_eq ?_
          refine bindP_eq ?_
          refine bindP_eq ?_
          refine bindP_nil ?_
          exact OpS_v rfl (o_assignh (v := .bool _) rfl)
        exact OblL_nil
      case fin5 =>
        intro w114 x115
        have z116 := Bel.size x115
        replace hX := Bel.ex hX x115
        replace hx := hx.ext x115
        replace hy := hy.ext x115
        replace hb2 := hb2.ext x115
        replace hb3 := hb3.ext x115
        replace hb5 := hb5.ext x115
        replace hb6 := hb6.ext x115
        refine bindP_eq ?_
        refine bindP_eq ?_
        refine bindP_eq ?_
        refine bindP_eq ?_
        refine bindP_eq ?_
        refine bindP_eq ?_
        refine bindP_eq ?_
        refine bindP_eq ?_
        refine bindP_eq ?_
        refine bindP_eq ?_
        refine bindP_eq ?_
        refine bindP_eq ?_
        refine bindP_eq ?_
        refine bindP_eq ?_
        refine bindP_eq ?_
        refine bindP_eq ?_
        refine bindP_eq ?_
        refine bindP_eq ?_
        refine bindP_eq ?_
        refine bindP_eq ?_
        refine bindP_eq ?_
        refine bindP_eq ?_
        refine bindP_eq ?_
        refine bindP_eq ?_
        refine bindP_eq ?_
        refine bindP_eq ?_
        refine bindP_eq ?_
        refine bindP_eq ?_
        refine bindP_eq ?_
        refine bindP_eq ?_
        refine bindP_eq ?_
        refine bindP_eq ?_
        refine bindP_eq ?_
        refine bindP_eq ?_
        refine bindP_eq ?_
        refine bindP_nil ?_
        refine Rg_nil ?_
        refine W_ret ?_
        refine ⟨_, res_tmp rfl rfl, ?_⟩
        refine ⟨congrArg Value.bool ?_, hX⟩
        all_goals (rw [covers_own]; simp)

theorem law_PermissionImplies (w : World) (x : RawV) (hx : Sl encB 1 (Lt w.heap.size) w x.a x.c x.names) (y : RawV) (hy : Sl encB 1 (Lt w.heap.size) w y.a y.c y.names) (z : RawV) (hz : Sl encB 1 (Lt w.heap.size) w z.a z.c z.names) : Ok Tryd.prog 5 #[.agg (encR x).toArray, .agg (encR y).toArray, .agg (encR z).toArray] w fun v w' => v = .bool (true) ∧ Ext False w w' := by
  refine Ok_of_W 85 Tryd.func5 rfl rfl rfl ?_
  have hX : Ext False w w := Bel.refl _ _
  refine W_seq ?_
  refine W_region ?_
  refine Rg_newB rfl (o_box (v := .agg _) rfl) ?_
  intro b3 w1 x2 hge3 hb3
  have hlt3 := hb3.lt
  change Box _ _ _ (encR _) at hb3
  have z3 := Bel.size x2
  replace hX := Bel.ex hX x2
  replace hx := hx.ext x2
  replace hy := hy.ext x2
  replace hz := hz.ext x2
  refine Rg_newB rfl (o_box (v := .agg _) rfl) ?_
  intro b4 w4 x5 hge4 hb4
  have hlt4 := hb4.lt
  change Box _ _ _ (encR _) at hb4
  have z6 := Bel.size x5
  replace hX := Bel.ex hX x5
  replace hx := hx.ext x5
  replace hy := hy.ext x5
  replace hz := hz.ext x5
  replace hb3 := hb3.ext x5
  refine Rg_newB rfl (o_box (v := .agg _) rfl) ?_
  intro b5 w7 x8 hge5 hb5
  have hlt5 := hb5.lt
  change Box _ _ _ (encR _) at hb5
  have z9 := Bel.size x8
  replace hX := Bel.ex hX x8
  replace hx := hx.ext x8
  replace hy := hy.ext x8
  replace hz := hz.ext x8
  replace hb3 := hb3.ext x8
  replace hb4 := hb4.ext x8
  refine Rg_run rfl o_assignc ?_
  refine Rg_nil ?_
  refine W_seq ?_
  refine W_seq ?_
  refine W_region ?_
  refine Rg_enter rfl (o_call0 Tryd.call13) (Ok.mono (awake_ok _) ?_)
  rintro _ w10 ⟨rfl, x11⟩
  have z12 := Bel.size x11
  replace hX := Bel.ex hX x11
  replace hx := hx.ext x11
  replace hy := hy.ext x11
  replace hz := hz.ext x11
  replace hb3 := hb3.ext x11
  replace hb4 := hb4.ext x11
  replace hb5 := hb5.ext x11
  refine Rg_run rfl (o_not rfl) ?_
  refine Rg_nil ?_
  refine W_cond rfl (fun hc1 => ?_) (fun hc1 => ?_)
  · skip
    refine W_seq ?_
    refine W_region ?_
    refine Rg_run rfl o_assignc ?_
    refine Rg_nil ?_
    refine W_ret ?_
    refine ⟨_, res_tmp rfl rfl, ?_⟩
    refine ⟨congrArg Value.bool ?_, hX⟩
    all_goals (cases hc1)
  · skip
    refine W_skip ?_
    refine W_seq ?_
    refine W_region ?_
    refine Rg_run rfl (o_loadS Tryd.isAgg24 Tryd.sizeOf24 rfl hb3.at rfl) ?_
    refine Rg_enter rfl (o_call1 Tryd.call14 rfl) (Ok.mono (make_ok _ _ hx.top) ?_)
    rintro _ w13 ⟨rfl, x14⟩
    have z15 := Bel.size x14
    replace hX := Bel.ex hX x14
    replace hx := hx.ext x14
    replace hy := hy.ext x14
    replace hz := hz.ext x14
    replace hb3 := hb3.ext x14
    replace hb4 := hb4.ext x14
    replace hb5 := hb5.ext x14
    refine Rg_run rfl (o_moveh (v := .tuple _) rfl) ?_
    refine Rg_run rfl (o_extract rfl rfl) ?_
    refine Rg_run rfl (o_extract rfl rfl) ?_
    refine Rg_newB rfl (o_alloc Tryd.zeroValue27) ?_
    intro b7 w16 x17 hge7 hb7
    have hlt7 := hb7.lt
    change Box _ _ _ ([str _, str _, .bool _]) at hb7
    have z18 := Bel.size x17
    replace hX := Bel.ex hX x17
    replace hx := hx.ext x17
    replace hy := hy.ext x17
    replace hz := hz.ext x17
    replace hb3 := hb3.ext x17
    replace hb4 := hb4.ext x17
    replace hb5 := hb5.ext x17
    refine Rg_newB rfl (o_alloc Tryd.zeroValue28) ?_
    intro b8 w19 x20 hge8 hb8
    have hlt8 := hb8.lt
    change Box _ _ _ ([str _, str _, .bool _]) at hb8
    have z21 := Bel.size x20
    replace hX := Bel.ex hX x20
    replace hx := hx.ext x20
    replace hy := hy.ext x20
    replace hz := hz.ext x20
    replace hb3 := hb3.ext x20
    replace hb4 := hb4.ext x20
    replace hb5 := hb5.ext x20
    replace hb7 := hb7.ext x20
    refine Rg_storeW (v := .agg _) rfl Tryd.sizeOf27 rfl rfl hb7 rfl rfl rfl ?_
    intro w22 c23 hb7
    change Box _ _ _ (encP _) at hb7
    have z24 := Bel.size c23
    replace hX := Bel.out hX c23 (fun g h1 h2 => by first | exact h2 | omega)
    replace hx := hx.keep c23 (fun g h1 h2 h3 => by omega)
    replace hy := hy.keep c23 (fun g h1 h2 h3 => by omega)
    replace hz := hz.keep c23 (fun g h1 h2 h3 => by omega)
    replace hb3 := hb3.keep c23 (fun h => by omega)
    replace hb4 := hb4.keep c23 (fun h => by omega)
    replace hb5 := hb5.keep c23 (fun h => by omega)
    replace hb8 := hb8.keep c23 (fun h => by omega)
    refine Rg_storeW (v := .agg _) rfl Tryd.sizeOf28 rfl rfl hb8 rfl rfl rfl ?_
    intro w25 c26 hb8
    change Box _ _ _ (encP _) at hb8
    have z27 := Bel.size c26
    replace hX := Bel.out hX c26 (fun g h1 h2 => by first | exact h2 | omega)
    replace hx := hx.keep c26 (fun g h1 h2 h3 => by omega)
    replace hy := hy.keep c26 (fun g h1 h2 h3 => by omega)
    replace hz := hz.keep c26 (fun g h1 h2 h3 => by omega)
    replace hb3 := hb3.keep c26 (fun h => by omega)
    replace hb4 := hb4.keep c26 (fun h => by omega)
    replace hb5 := hb5.keep c26 (fun h => by omega)
    replace hb7 := hb7.keep c26 (fun h => by omega)
    refine Rg_nil ?_
    refine W_seq ?_
    refine W_region ?_
    refine Rg_run rfl (o_loadS Tryd.isAgg24 Tryd.sizeOf24 rfl hb4.at rfl) ?_
    refine Rg_enter rfl (o_call1 Tryd.call14 rfl) (Ok.mono (make_ok _ _ hy.top) ?_)
    rintro _ w28 ⟨rfl, x29⟩
    have z30 := Bel.size x29
    replace hX := Bel.ex hX x29
    replace hx := hx.ext x29
    replace hy := hy.ext x29
    replace hz := hz.ext x29
    replace hb3 := hb3.ext x29
    replace hb4 := hb4.ext x29
    replace hb5 := hb5.ext x29
    replace hb7 := hb7.ext x29
    replace hb8 := hb8.ext x29
    refine Rg_run rfl (o_moveh (v := .tuple _) rfl) ?_
    refine Rg_run rfl (o_extract rfl rfl) ?_
    refine Rg_run rfl (o_extract rfl rfl) ?_
    refine Rg_newB rfl (o_alloc Tryd.zeroValue27) ?_
    intro b9 w31 x32 hge9 hb9
    have hlt9 := hb9.lt
    change Box _ _ _ ([str _, str _, .bool _]) at hb9
    have z33 := Bel.size x32
    replace hX := Bel.ex hX x32
    replace hx := hx.ext x32
    replace hy := hy.ext x32
    replace hz := hz.ext x32
    replace hb3 := hb3.ext x32
    replace hb4 := hb4.ext x32
    replace hb5 := hb5.ext x32
    replace hb7 := hb7.ext x32
    replace hb8 := hb8.ext x32
    refine Rg_newB rfl (o_alloc Tryd.zeroValue28) ?_
    intro b10 w34 x35 hge10 hb10
    have hlt10 := hb10.lt
    change Box _ _ _ ([str _, str _, .bool _]) at hb10
    have z36 := Bel.size x35
    replace hX := Bel.ex hX x35
    replace hx := hx.ext x35
    replace hy := hy.ext x35
    replace hz := hz.ext x35
    replace hb3 := hb3.ext x35
    replace hb4 := hb4.ext x35
    replace hb5 := hb5.ext x35
    replace hb7 := hb7.ext x35
    replace hb8 := hb8.ext x35
    replace hb9 := hb9.ext x35
    refine Rg_storeW (v := .agg _) rfl Tryd.sizeOf27 rfl rfl hb9 rfl rfl rfl ?_
    intro w37 c38 hb9
    change Box _ _ _ (encP _) at hb9
    have z39 := Bel.size c38
    replace hX := Bel.out hX c38 (fun g h1 h2 => by first | exact h2 | omega)
    replace hx := hx.keep c38 (fun g h1 h2 h3 => by omega)
    replace hy := hy.keep c38 (fun g h1 h2 h3 => by omega)
    replace hz := hz.keep c38 (fun g h1 h2 h3 => by omega)
    replace hb3 := hb3.keep c38 (fun h => by omega)
    replace hb4 := hb4.keep c38 (fun h => by omega)
    replace hb5 := hb5.keep c38 (fun h => by omega)
    replace hb7 := hb7.keep c38 (fun h => by omega)
    replace hb8 := hb8.keep c38 (fun h => by omega)
    replace hb10 := hb10.keep c38 (fun h => by omega)
    refine Rg_storeW (v := .agg _) rfl Tryd.sizeOf28 rfl rfl hb10 rfl rfl rfl ?_
    intro w40 c41 hb10
    change Box _ _ _ (encP _) at hb10
    have z42 := Bel.size c41
    replace hX := Bel.out hX c41 (fun g h1 h2 => by first | exact h2 | omega)
    replace hx := hx.keep c41 (fun g h1 h2 h3 => by omega)
    replace hy := hy.keep c41 (fun g h1 h2 h3 => by omega)
    replace hz := hz.keep c41 (fun g h1 h2 h3 => by omega)
    replace hb3 := hb3.keep c41 (fun h => by omega)
    replace hb4 := hb4.keep c41 (fun h => by omega)
    replace hb5 := hb5.keep c41 (fun h => by omega)
    replace hb7 := hb7.keep c41 (fun h => by omega)
    replace hb8 := hb8.keep c41 (fun h => by omega)
    replace hb9 := hb9.keep c41 (fun h => by omega)
    refine Rg_nil ?_
    refine W_seq ?_
    refine W_region ?_
    refine Rg_run rfl (o_loadS Tryd.isAgg24 Tryd.sizeOf24 rfl hb5.at rfl) ?_
    refine Rg_enter rfl (o_call1 Tryd.call14 rfl) (Ok.mono (make_ok _ _ hz.top) ?_)
    rintro _ w43 ⟨rfl, x44⟩
    have z45 := Bel.size x44
    replace hX := Bel.ex hX x44
    replace hx := hx.ext x44
    replace hy := hy.ext x44
    replace hz := hz.ext x44
    replace hb3 := hb3.ext x44
    replace hb4 := hb4.ext x44
    replace hb5 := hb5.ext x44
    replace hb7 := hb7.ext x44
    replace hb8 := hb8.ext x44
    replace hb9 := hb9.ext x44
    replace hb10 := hb10.ext x44
    refine Rg_run rfl (o_moveh (v := .tuple _) rfl) ?_
    refine Rg_run rfl (o_extract rfl rfl) ?_
    refine Rg_run rfl (o_extract rfl rfl) ?_
    refine Rg_newB rfl (o_alloc Tryd.zeroValue27) ?_
    intro b11 w46 x47 hge11 hb11
    have hlt11 := hb11.lt
    change Box _ _ _ ([str _, str _, .bool _]) at hb11
    have z48 := Bel.size x47
    replace hX := Bel.ex hX x47
    replace hx := hx.ext x47
    replace hy := hy.ext x47
    replace hz := hz.ext x47
    replace hb3 := hb3.ext x47
    replace hb4 := hb4.ext x47
    replace hb5 := hb5.ext x47
    replace hb7 := hb7.ext x47
    replace hb8 := hb8.ext x47
    replace hb9 := hb9.ext x47
    replace hb10 := hb10.ext x47
    refine Rg_newB rfl (o_alloc Tryd.zeroValue28) ?_
    intro b12 w49 x50 hge12 hb12
    have hlt12 := hb12.lt
    change Box _ _ _ ([str _, str _, .bool _]) at hb12
    have z51 := Bel.size x50
    replace hX := Bel.ex hX x50
    replace hx := hx.ext x50
    replace hy := hy.ext x50
    replace hz := hz.ext x50
    replace hb3 := hb3.ext x50
    replace hb4 := hb4.ext x50
    replace hb5 := hb5.ext x50
    replace hb7 := hb7.ext x50
    replace hb8 := hb8.ext x50
    replace hb9 := hb9.ext x50
    replace hb10 := hb10.ext x50
    replace hb11 := hb11.ext x50
    refine Rg_storeW (v := .agg _) rfl Tryd.sizeOf27 rfl rfl hb11 rfl rfl rfl ?_
    intro w52 c53 hb11
    change Box _ _ _ (encP _) at hb11
    have z54 := Bel.size c53
    replace hX := Bel.out hX c53 (fun g h1 h2 => by first | exact h2 | omega)
    replace hx := hx.keep c53 (fun g h1 h2 h3 => by omega)
    replace hy := hy.keep c53 (fun g h1 h2 h3 => by omega)
    replace hz := hz.keep c53 (fun g h1 h2 h3 => by omega)
    replace hb3 := hb3.keep c53 (fun h => by omega)
    replace hb4 := hb4.keep c53 (fun h => by omega)
    replace hb5 := hb5.keep c53 (fun h => by omega)
    replace hb7 := hb7.keep c53 (fun h => by omega)
    replace hb8 := hb8.keep c53 (fun h => by omega)
    replace hb9 := hb9.keep c53 (fun h => by omega)
    replace hb10 := hb10.keep c53 (fun h => by omega)
    replace hb12 := hb12.keep c53 (fun h => by omega)
    refine Rg_storeW (v := .agg _) rfl Tryd.sizeOf28 rfl rfl hb12 rfl rfl rfl ?_
    intro w55 c56 hb12
    change Box _ _ _ (encP _) at hb12
    have z57 := Bel.size c56
    replace hX := Bel.out hX c56 (fun g h1 h2 => by first | exact h2 | omega)
    replace hx := hx.keep c56 (fun g h1 h2 h3 => by omega)
    replace hy := hy.keep c56 (fun g h1 h2 h3 => by omega)
    replace hz := hz.keep c56 (fun g h1 h2 h3 => by omega)
    replace hb3 := hb3.keep c56 (fun h => by omega)
    replace hb4 := hb4.keep c56 (fun h => by omega)
    replace hb5 := hb5.keep c56 (fun h => by omega)
    replace hb7 := hb7.keep c56 (fun h => by omega)
    replace hb8 := hb8.keep c56 (fun h => by omega)
    replace hb9 := hb9.keep c56 (fun h => by omega)
    replace hb10 := hb10.keep c56 (fun h => by omega)
    replace hb11 := hb11.keep c56 (fun h => by omega)
    refine Rg_nil ?_
    refine W_seq ?_
    apply W_draw (β := False) [peq _, peq _, peq _, peq _, peq _, peq _, peq _, peq _] 8 mixed (by kernel_rfl) rfl ⟨peq_stable _, peq_stable _, peq_stable _, peq_stable _, peq_stable _, peq_stable _, peq_stable _, peq_stable _, trivial⟩ ?ob6 ?fin6
    case ob6 =>
      refine OblL_cons (fun w58 x59 => ?_) ?_
      · skip
        have hx := hx.ext x59
        have hy := hy.ext x59
        have hz := hz.ext x59
        have hb3 := hb3.ext x59
        have hb4 := hb4.ext x59
        have hb5 := hb5.ext x59
        have hb7 := hb7.ext x59
        have hb8 := hb8.ext x59
        have hb9 := hb9.ext x59
        have hb10 := hb10.ext x59
        have hb11 := hb11.ext x59
        have hb12 := hb12.ext x59
        refine bindP_nil ?_
        exact OpS_v rfl (o_loadS Tryd.isAgg27 Tryd.sizeOf27 rfl hb7.at rfl)
      refine OblL_cons (fun w60 x61 => ?_) ?_
      · skip
        have hx := hx.ext x61
        have hy := hy.ext x61
        have hz := hz.ext x61
        have hb3 := hb3.ext x61
        have hb4 := hb4.ext x61
        have hb5 := hb5.ext x61
        have hb7 := hb7.ext x61
        have hb8 := hb8.ext x61
        have hb9 := hb9.ext x61
        have hb10 := hb10.ext x61
        have hb11 := hb11.ext x61
        have hb12 := hb12.ext x61
        refine bindP_nil ?_
        exact OpS_v rfl (o_loadS Tryd.isAgg27 Tryd.sizeOf27 rfl hb9.at rfl)
      refine OblL_cons (fun w62 x63 => ?_) ?_
      · skip
        have hx := hx.ext x63
        have hy := hy.ext x63
        have hz := hz.ext x63
        have hb3 := hb3.ext x63
        have hb4 := hb4.ext x63
        have hb5 := hb5.ext x63
        have hb7 := hb7.ext x63
        have hb8 := hb8.ext x63
        have hb9 := hb9.ext x63
        have hb10 := hb10.ext x63
        have hb11 := hb11.ext x63
        have hb12 := hb12.ext x63
        refine bindP_eq ?_
        refine bindP_eq ?_
        refine bindP_nil ?_
        exact OpS_call rfl (o_call2 Tryd.call21 rfl rfl) (implies_ok (False) _ x.ok _ y.ok _)
      refine OblL_cons (fun w64 x65 => ?_) ?_
      · skip
        have hx := hx.ext x65
        have hy := hy.ext x65
        have hz := hz.ext x65
        have hb3 := hb3.ext x65
        have hb4 := hb4.ext x65
        have hb5 := hb5.ext x65
        have hb7 := hb7.ext x65
        have hb8 := hb8.ext x65
        have hb9 := hb9.ext x65
        have hb10 := hb10.ext x65
        have hb11 := hb11.ext x65
        have hb12 := hb12.ext x65
        refine bindP_nil ?_
        exact OpS_v rfl (o_loadS Tryd.isAgg27 Tryd.sizeOf27 rfl hb9.at rfl)
      refine OblL_cons (fun w66 x67 => ?_) ?_
      · skip
        have hx := hx.ext x67
        have hy := hy.ext x67
        have hz := hz.ext x67
        have hb3 := hb3.ext x67
        have hb4 := hb4.ext x67
        have hb5 := hb5.ext x67
        have hb7 := hb7.ext x67
        have hb8 := hb8.ext x67
        have hb9 := hb9.ext x67
        have hb10 := hb10.ext x67
        have hb11 := hb11.ext x67
        have hb12 := hb12.ext x67
        refine bindP_nil ?_
        exact OpS_v rfl (o_loadS Tryd.isAgg27 Tryd.sizeOf27 rfl hb7.at rfl)
      refine OblL_cons (fun w68 x69 => ?_) ?_
      · skip
        have hx := hx.ext x69
        have hy := hy.ext x69
        have hz := hz.ext x69
        have hb3 := hb3.ext x69
        have hb4 := hb4.ext x69
        have hb5 := hb5.ext x69
        have hb7 := hb7.ext x69
        have hb8 := hb8.ext x69
        have hb9 := hb9.ext x69
        have hb10 := hb10.ext x69
        have hb11 := hb11.ext x69
        have hb12 := hb12.ext x69
        refine bindP_eq ?_
        refine bindP_eq ?_
        refine bindP_eq ?_
        refine bindP_nil ?_
        exact OpS_call rfl (o_call2 Tryd.call21 rfl rfl) (implies_ok (False) _ y.ok _ x.ok _)
      refine OblL_cons (fun w70 x71 => ?_) ?_
      · skip
        have hx := hx.ext x71
        have hy := hy.ext x71
        have hz := hz.ext x71
        have hb3 := hb3.ext x71
        have hb4 := hb4.ext x71
        have hb5 := hb5.ext x71
        have hb7 := hb7.ext x71
        have hb8 := hb8.ext x71
        have hb9 := hb9.ext x71
        have hb10 := hb10.ext x71
        have hb11 := hb11.ext x71
        have hb12 := hb12.ext x71
        refine bindP_eq ?_
        refine bindP_eq ?_
        refine bindP_eq ?_
        refine bindP_eq ?_
        refine bindP_eq ?_
        refine bindP_nil ?_
        exact OpS_v rfl (o_assignh (v := .bool _) rfl)
      refine OblL_cons (fun w72 x73 => ?_) ?_
      · skip
        have hx := hx.ext x73
        have hy := hy.ext x73
        have hz := hz.ext x73
        have hb3 := hb3.ext x73
        have hb4 := hb4.ext x73
        have hb5 := hb5.ext x73
        have hb7 := hb7.ext x73
        have hb8 := hb8.ext x73
        have hb9 := hb9.ext x73
        have hb10 := hb10.ext x73
        have hb11 := hb11.ext x73
        have hb12 := hb12.ext x73
        refine bindP_eq ?_
        refine bindP_eq ?_
        refine bindP_eq ?_
        refine bindP_eq ?_
        refine bindP_eq ?_
        refine bindP_eq ?_
        refine bindP_eq ?_
        refine bindP_eq ?_
        refine bindP_eq ?_
        refine bindP_nil ?_
        exact OpS_v rfl (o_assignh (v := .bool _) rfl)
      exact OblL_nil
    case fin6 =>
      intro w74 x75
      have z76 := Bel.size x75
      replace hX := Bel.ex hX x75
      replace hx := hx.ext x75
      replace hy := hy.ext x75
      replace hz := hz.ext x75
      replace hb3 := hb3.ext x75
      replace hb4 := hb4.ext x75
      replace hb5 := hb5.ext x75
      replace hb7 := hb7.ext x75
      replace hb8 := hb8.ext x75
      replace hb9 := hb9.ext x75
      replace hb10 := hb10.ext x75
      replace hb11 := hb11.ext x75
      replace hb12 := hb12.ext x75
      refine bindP_eq ?_
      refine bindP_eq ?_
      refine bindP_eq ?_
      refine bindP_eq ?_
      refine bindP_eq ?_
      refine bindP_eq ?_
      refine bindP_eq ?_
      refine bindP_eq ?_
      refine bindP_nil ?_
      refine Rg_nil ?_
      refine W_seq ?_
      refine W_seq ?_
      apply W_draw (β := False) [peq _, peq _, peq _, peq _, peq _, peq _, peq _, peq _, peq _, peq _, peq _, peq _, peq _, peq _, peq _, peq _, peq _, peq _, peq _, peq _, peq _] 21 mixed (by kernel_rfl) rfl ⟨peq_stable _, peq_stable _, peq_stable _, peq_stable _, peq_stable _, peq_stable _, peq_stable _, peq_stable _, peq_stable _, peq_stable _, peq_stable _, peq_stable _, peq_stable _, peq_stable _, peq_stable _, peq_stable _, peq_stable _, peq_stable _, peq_stable _, peq_stable _, peq_stable _, trivial⟩ ?ob7 ?fin7
      case ob7 =>
        refine OblL_cons (fun w77 x78 => ?_) ?_
        · skip
          have hx := hx.ext x78
          have hy := hy.ext x78
          have hz := hz.ext x78
          have hb3 := hb3.ext x78
          have hb4 := hb4.ext x78
          have hb5 := hb5.ext x78
          have hb7 := hb7.ext x78
          have hb8 := hb8.ext x78
          have hb9 := hb9.ext x78
          have hb10 := hb10.ext x78
          have hb11 := hb11.ext x78
          have hb12 := hb12.ext x78
          refine bindP_nil ?_
          exact OpS_v rfl (o_moveh (v := .bool _) rfl)
        refine OblL_cons (fun w79 x80 => ?_) ?_
        · skip
          have hx := hx.ext x80
          have hy := hy.ext x80
          have hz := hz.ext x80
          have hb3 := hb3.ext x80
          have hb4 := hb4.ext x80
          have hb5 := hb5.ext x80
          have hb7 := hb7.ext x80
          have hb8 := hb8.ext x80
          have hb9 := hb9.ext x80
          have hb10 := hb10.ext x80
          have hb11 := hb11.ext x80
          have hb12 := hb12.ext x80
          refine bindP_nil ?_
          exact OpS_v rfl (o_loadS Tryd.isAgg28 Tryd.sizeOf28 rfl hb8.at rfl)
        refine OblL_cons (fun w81 x82 => ?_) ?_
        · skip
          have hx := hx.ext x82
          have hy := hy.ext x82
          have hz := hz.ext x82
          have hb3 := hb3.ext x82
          have hb4 := hb4.ext x82
          have hb5 := hb5.ext x82
          have hb7 := hb7.ext x82
          have hb8 := hb8.ext x82
          have hb9 := hb9.ext x82
          have hb10 := hb10.ext x82
          have hb11 := hb11.ext x82
          have hb12 := hb12.ext x82
          refine bindP_nil ?_
          exact OpS_v rfl (o_loadS Tryd.isAgg28 Tryd.sizeOf28 rfl hb10.at rfl)
        refine OblL_cons (fun w83 x84 => ?_) ?_
        · skip
          have hx := hx.ext x84
          have hy := hy.ext x84
          have hz := hz.ext x84
          have hb3 := hb3.ext x84
          have hb4 := hb4.ext x84
          have hb5 := hb5.ext x84
          have hb7 := hb7.ext x84
          have hb8 := hb8.ext x84
          have hb9 := hb9.ext x84
          have hb10 := hb10.ext x84
          have hb11 := hb11.ext x84
          have hb12 := hb12.ext x84
          refine bindP_eq ?_
          refine bindP_eq ?_
          refine bindP_nil ?_
          exact OpS_call rfl (o_call2 Tryd.call22 rfl rfl) (rimplies_ok _ _ x.ok _ y.ok)
        refine OblL_cons (fun w85 x86 => ?_) ?_
        · skip
          have hx := hx.ext x86
          have hy := hy.ext x86
          have hz := hz.ext x86
          have hb3 := hb3.ext x86
          have hb4 := hb4.ext x86
          have hb5 := hb5.ext x86
          have hb7 := hb7.ext x86
          have hb8 := hb8.ext x86
          have hb9 := hb9.ext x86
          have hb10 := hb10.ext x86
          have hb11 := hb11.ext x86
          have hb12 := hb12.ext x86
          refine bindP_eq ?_
          refine bindP_eq ?_
          refine bindP_nil ?_
          exact OpS_v rfl (o_bneq Tryd.underlying4 rfl rfl)
        refine OblL_cons (fun w87 x88 => ?_) ?_
        · skip
          have hx := hx.ext x88
          have hy := hy.ext x88
          have hz := hz.ext x88
          have hb3 := hb3.ext x88
          have hb4 := hb4.ext x88
          have hb5 := hb5.ext x88
          have hb7 := hb7.ext x88
          have hb8 := hb8.ext x88
          have hb9 := hb9.ext x88
          have hb10 := hb10.ext x88
          have hb11 := hb11.ext x88
          have hb12 := hb12.ext x88
          refine bindP_eq ?_
          refine bindP_eq ?_
          refine bindP_nil ?_
          exact OpS_v rfl (o_moveh (v := .bool _) rfl)
        refine OblL_cons (fun w89 x90 => ?_) ?_
        · skip
          have hx := hx.ext x90
          have hy := hy.ext x90
          have hz := hz.ext x90
          have hb3 := hb3.ext x90
          have hb4 := hb4.ext x90
          have hb5 := hb5.ext x90
          have hb7 := hb7.ext x90
          have hb8 := hb8.ext x90
          have hb9 := hb9.ext x90
          have hb10 := hb10.ext x90
          have hb11 := hb11.ext x90
          have hb12 := hb12.ext x90
          refine bindP_eq ?_
          refine bindP_nil ?_
          exact OpS_may 5 43 rfl rfl (fun hg => (o_moveh (v := .bool _) rfl))
        refine OblL_cons (fun w91 x92 => ?_) ?_
        · skip
          have hx := hx.ext x92
          have hy := hy.ext x92
          have hz := hz.ext x92
          have hb3 := hb3.ext x92
          have hb4 := hb4.ext x92
          have hb5 := hb5.ext x92
          have hb7 := hb7.ext x92
          have hb8 := hb8.ext x92
          have hb9 := hb9.ext x92
          have hb10 := hb10.ext x92
          have hb11 := hb11.ext x92
          have hb12 := hb12.ext x92
          refine bindP_eq ?_
          refine bindP_nil ?_
          exact OpS_may 5 43 rfl rfl (fun hg => (o_loadS Tryd.isAgg28 Tryd.sizeOf28 rfl hb10.at rfl))
        refine OblL_cons (fun w93 x94 => ?_) ?_
        · skip
          have hx := hx.ext x94
          have hy := hy.ext x94
          have hz := hz.ext x94
          have hb3 := hb3.ext x94
          have hb4 := hb4.ext x94
          have hb5 := hb5.ext x94
          have hb7 := hb7.ext x94
          have hb8 := hb8.ext x94
          have hb9 := hb9.ext x94
          have hb10 := hb10.ext x94
          have hb11 := hb11.ext x94
          have hb12 := hb12.ext x94
          refine bindP_eq ?_
          refine bindP_nil ?_
          exact OpS_may 5 43 rfl rfl (fun hg => (o_loadS Tryd.isAgg28 Tryd.sizeOf28 rfl hb8.at rfl))
        refine OblL_cons (fun w95 x96 => ?_) ?_
        · skip
          have hx := hx.ext x96
          have hy := hy.ext x96
          have hz := hz.ext x96
          have hb3 := hb3.ext x96
          have hb4 := hb4.ext x96
          have hb5 := hb5.ext x96
          have hb7 := hb7.ext x96
          have hb8 := hb8.ext x96
          have hb9 := hb9.ext x96
          have hb10 := hb10.ext x96
          have hb11 := hb11.ext x96
          have hb12 := hb12.ext x96
          refine bindP_eq ?_
          refine bindP_eq ?_
          refine bindP_eq ?_
          refine bindP_eq ?_
          refine bindP_nil ?_
          exact OpS_mayCall 5 43 rfl rfl (fun hg => ⟨(o_call2 Tryd.call22 (gsel (u := undef) hg) (gsel (u := undef) hg)), rimplies_ok _ _ y.ok _ x.ok⟩)
        refine OblL_cons (fun w97 x98 => ?_) ?_
        · skip
          have hx := hx.ext x98
          have hy := hy.ext x98
          have hz := hz.ext x98
          have hb3 := hb3.ext x98
          have hb4 := hb4.ext x98
          have hb5 := hb5.ext x98
          have hb7 := hb7.ext x98
          have hb8 := hb8.ext x98
          have hb9 := hb9.ext x98
          have hb10 := hb10.ext x98
          have hb11 := hb11.ext x98
          have hb12 := hb12.ext x98
          refine bindP_eq ?_
          refine bindP_eq ?_
          refine bindP_eq ?_
          refine bindP_nil ?_
          exact OpS_may 5 43 rfl rfl (fun hg => (o_bneq Tryd.underlying4 (gsel (u := undef) hg) (gsel (u := undef) hg)))
        refine OblL_cons (fun w99 x100 => ?_) ?_
        · skip
          have hx := hx.ext x100
          have hy := hy.ext x100
          have hz := hz.ext x100
          have hb3 := hb3.ext x100
          have hb4 := hb4.ext x100
          have hb5 := hb5.ext x100
          have hb7 := hb7.ext x100
          have hb8 := hb8.ext x100
          have hb9 := hb9.ext x100
          have hb10 := hb10.ext x100
          have hb11 := hb11.ext x100
          have hb12 := hb12.ext x100
          refine bindP_eq ?_
          refine bindP_eq ?_
          refine bindP_nil ?_
          exact OpS_v rfl (o_or (u := undef) rfl rfl)
        refine OblL_cons (fun w101 x102 => ?_) ?_
        · skip
          have hx := hx.ext x102
          have hy := hy.ext x102
          have hz := hz.ext x102
          have hb3 := hb3.ext x102
          have hb4 := hb4.ext x102
          have hb5 := hb5.ext x102
          have hb7 := hb7.ext x102
          have hb8 := hb8.ext x102
          have hb9 := hb9.ext x102
          have hb10 := hb10.ext x102
          have hb11 := hb11.ext x102
          have hb12 := hb12.ext x102
          refine bindP_eq ?_
          refine bindP_eq ?_
          refine bindP_nil ?_
          exact OpS_v rfl (o_moveh (v := .bool _) rfl)
        refine OblL_cons (fun w103 x104 => ?_) ?_
        · skip
          have hx := hx.ext x104
          have hy := hy.ext x104
          have hz := hz.ext x104
          have hb3 := hb3.ext x104
          have hb4 := hb4.ext x104
          have hb5 := hb5.ext x104
          have hb7 := hb7.ext x104
          have hb8 := hb8.ext x104
          have hb9 := hb9.ext x104
          have hb10 := hb10.ext x104
          have hb11 := hb11.ext x104
          have hb12 := hb12.ext x104
          refine bindP_eq ?_
          refine bindP_nil ?_
          exact OpS_may 12 50 rfl rfl (fun hg => (o_loadS Tryd.isAgg27 Tryd.sizeOf27 rfl hb7.at rfl))
        refine OblL_cons (fun w105 x106 => ?_) ?_
        · skip
          have hx := hx.ext x106
          have hy := hy.ext x106
          have hz := hz.ext x106
          have hb3 := hb3.ext x106
          have hb4 := hb4.ext x106
          have hb5 := hb5.ext x106
          have hb7 := hb7.ext x106
          have hb8 := hb8.ext x106
          have hb9 := hb9.ext x106
          have hb10 := hb10.ext x106
          have hb11 := hb11.ext x106
          have hb12 := hb12.ext x106
          refine bindP_eq ?_
          refine bindP_nil ?_
          exact OpS_may 12 50 rfl rfl (fun hg => (o_loadS Tryd.isAgg27 Tryd.sizeOf27 rfl hb7.at rfl))
        refine OblL_cons (fun w107 x108 => ?_) ?_
        · skip
          have hx := hx.ext x108
          have hy := hy.ext x108
          have hz := hz.ext x108
          have hb3 := hb3.ext x108
          have hb4 := hb4.ext x108
          have hb5 := hb5.ext x108
          have hb7 := hb7.ext x108
          have hb8 := hb8.ext x108
          have hb9 := hb9.ext x108
          have hb10 := hb10.ext x108
          have hb11 := hb11.ext x108
          have hb12 := hb12.ext x108
          refine bindP_eq ?_
          refine bindP_eq ?_
          refine bindP_eq ?_
          refine bindP_eq ?_
          refine bindP_nil ?_
          exact OpS_mayCall 12 50 rfl rfl (fun hg => ⟨(o_call2 Tryd.call21 (gsel (u := undef) hg) (gsel (u := undef) hg)), implies_ok (False) _ x.ok _ x.ok _⟩)
        refine OblL_cons (fun w109 x110 => ?_) ?_
        · skip
          have hx := hx.ext x110
          have hy := hy.ext x110
          have hz := hz.ext x110
          have hb3 := hb3.ext x110
          have hb4 := hb4.ext x110
          have hb5 := hb5.ext x110
          have hb7 := hb7.ext x110
          have hb8 := hb8.ext x110
          have hb9 := hb9.ext x110
          have hb10 := hb10.ext x110
          have hb11 := hb11.ext x110
          have hb12 := hb12.ext x110
          refine bindP_eq ?_
          refine bindP_nil ?_
          exact OpS_may 12 50 rfl rfl (fun hg => (o_loadS Tryd.isAgg28 Tryd.sizeOf28 rfl hb8.at rfl))
        refine OblL_cons (fun w111 x112 => ?_) ?_
        · skip
          have hx := hx.ext x112
          have hy := hy.ext x112
          have hz := hz.ext x112
          have hb3 := hb3.ext x112
          have hb4 := hb4.ext x112
          have hb5 := hb5.ext x112
          have hb7 := hb7.ext x112
          have hb8 := hb8.ext x112
          have hb9 := hb9.ext x112
          have hb10 := hb10.ext x112
          have hb11 := hb11.ext x112
          have hb12 := hb12.ext x112
          refine bindP_eq ?_
          refine bindP_eq ?_
          refine bindP_eq ?_
          refine bindP_nil ?_
          exact OpS_mayCall 12 50 rfl rfl (fun hg => ⟨(o_call1 Tryd.call16 (gsel (u := undef) hg)), rcheck_ok _ _ x.ok⟩)
        refine OblL_cons (fun w113 x114 => ?_) ?_
        · skip
          have hx := hx.ext x114
          have hy := hy.ext x114
          have hz := hz.ext x114
          have hb3 := hb3.ext x114
          have hb4 := hb4.ext x114
          have hb5 := hb5.ext x114
          have hb7 := hb7.ext x114
          have hb8 := hb8.ext x114
          have hb9 := hb9.ext x114
          have hb10 := hb10.ext x114
          have hb11 := hb11.ext x114
          have hb12 := hb12.ext x114
          refine bindP_eq ?_
          refine bindP_eq ?_
          refine bindP_nil ?_
          exact OpS_may 12 50 rfl rfl (fun hg => (o_eql (gsel (u := undef) hg) rfl))
        refine OblL_cons (fun w115 x116 => ?_) ?_
        · skip
          have hx := hx.ext x116
          have hy := hy.ext x116
          have hz := hz.ext x116
          have hb3 := hb3.ext x116
          have hb4 := hb4.ext x116
          have hb5 := hb5.ext x116
          have hb7 := hb7.ext x116
          have hb8 := hb8.ext x116
          have hb9 := hb9.ext x116
          have hb10 := hb10.ext x116
          have hb11 := hb11.ext x116
          have hb12 := hb12.ext x116
          refine bindP_eq ?_
          refine bindP_eq ?_
          refine bindP_eq ?_
          refine bindP_nil ?_
          exact OpS_may 12 50 rfl rfl (fun hg => (o_bneq Tryd.underlying4 (gsel (u := undef) hg) (gsel (u := undef) hg)))
        refine OblL_cons (fun w117 x118 => ?_) ?_
        · skip
          have hx := hx.ext x118
          have hy := hy.ext x118
          have hz := hz.ext x118
          have hb3 := hb3.ext x118
          have hb4 := hb4.ext x118
          have hb5 := hb5.ext x118
          have hb7 := hb7.ext x118
          have hb8 := hb8.ext x118
          have hb9 := hb9.ext x118
          have hb10 := hb10.ext x118
          have hb11 := hb11.ext x118
          have hb12 := hb12.ext x118
          refine bindP_eq ?_
          refine bindP_eq ?_
          refine bindP_nil ?_
          exact OpS_v rfl (o_or (u := undef) rfl rfl)
        exact OblL_nil
      case fin7 =>
        intro w119 x120
        have z121 := Bel.size x120
        replace hX := Bel.ex hX x120
        replace hx := hx.ext x120
        replace hy := hy.ext x120
        replace hz := hz.ext x120
        replace hb3 := hb3.ext x120
        replace hb4 := hb4.ext x120
        replace hb5 := hb5.ext x120
        replace hb7 := hb7.ext x120
        replace hb8 := hb8.ext x120
        replace hb9 := hb9.ext x120
        replace hb10 := hb10.ext x120
        replace hb11 := hb11.ext x120
        replace hb12 := hb12.ext x120
        refine bindP_eq ?_
        refine bindP_eq ?_
        refine bindP_eq ?_
        refine bindP_eq ?_
        refine bindP_eq ?_
        refine bindP_eq ?_
        refine bindP_eq ?_
        refine bindP_eq ?_
        refine bindP_eq ?_
        refine bindP_eq ?_
        refine bindP_eq ?_
        refine bindP_eq ?_
        refine bindP_eq ?_
        refine bindP_eq ?_
        refine bindP_eq ?_
        refine bindP_eq ?_
        refine bindP_eq ?_
        refine bindP_eq ?_
        refine bindP_eq ?_
        refine bindP_eq ?_
        refine bindP_eq ?_
        refine bindP_nil ?_
        refine Rg_nil ?_
        refine W_cond rfl (fun hc2 => ?_) (fun hc2 => ?_)
        · skip
          refine W_seq ?_
          refine W_region ?_
          refine Rg_run rfl o_assignc ?_
          refine Rg_nil ?_
          refine W_ret ?_
          refine ⟨_, res_tmp rfl rfl, ?_⟩
          refine ⟨congrArg Value.bool ?_, hX⟩
          all_goals (rw [implies_own] at hc2; simp at hc2)
        · skip
          refine W_skip ?_
          refine W_seq ?_
          refine W_region ?_
          refine Rg_run rfl (o_moveh (v := .bool _) rfl) ?_
          refine Rg_run rfl (o_not rfl) ?_
          refine Rg_run rfl (o_moveh (v := .bool _) rfl) ?_
          refine Rg_may 2 61 rfl rfl rfl (fun hg => (o_moveh (v := .bool _) rfl)) ?_
          refine Rg_may 2 61 rfl rfl rfl (fun hg => (o_not (gsel (u := undef) hg))) ?_
          refine Rg_run rfl (o_or (u := undef) rfl rfl) ?_
          refine Rg_run rfl (o_moveh (v := .bool _) rfl) ?_
          refine Rg_may 6 65 rfl rfl rfl (fun hg => (o_loadS Tryd.isAgg27 Tryd.sizeOf27 rfl hb7.at rfl)) ?_
          refine Rg_may 6 65 rfl rfl rfl (fun hg => (o_loadS Tryd.isAgg27 Tryd.sizeOf27 rfl hb9.at rfl)) ?_
          refine Rg_may 6 65 rfl rfl rfl (fun hg => (o_teql eq_perm (gsel (u := undef) hg) (gsel (u := undef) hg))) ?_
          refine Rg_run rfl (o_or (u := undef) rfl rfl) ?_
          refine Rg_run rfl (o_moveh (v := .bool _) rfl) ?_
          refine Rg_may 11 70 rfl rfl rfl (fun hg => (o_moveh (v := .bool _) rfl)) ?_
          refine Rg_may 11 70 rfl rfl rfl (fun hg => (o_not (gsel (u := undef) hg))) ?_
          refine Rg_may 11 70 rfl rfl rfl (fun hg => (o_moveh (v := .bool _) (gsel (u := undef) hg))) ?_
          refine Rg_may2 14 73 rfl rfl rfl (fun hg => (o_loadS Tryd.isAgg27 Tryd.sizeOf27 rfl hb9.at rfl)) ?_
          refine Rg_may2 14 73 rfl rfl rfl (fun hg => (o_loadS Tryd.isAgg27 Tryd.sizeOf27 rfl hb11.at rfl)) ?_
          refine Rg_mayCall2 14 73 rfl rfl rfl (fun hg => ⟨(o_call2 Tryd.call21 (gsel (u := undef) hg) (gsel (u := undef) hg)), implies_ok (False) _ y.ok _ z.ok _⟩) ?_
          intro w122 x123
          have z124 := Bel.size x123
          replace hX := Bel.ex hX x123
          replace hx := hx.ext x123
          replace hy := hy.ext x123
          replace hz := hz.ext x123
          replace hb3 := hb3.ext x123
          replace hb4 := hb4.ext x123
          replace hb5 := hb5.ext x123
          replace hb7 := hb7.ext x123
          replace hb8 := hb8.ext x123
          replace hb9 := hb9.ext x123
          replace hb10 := hb10.ext x123
          replace hb11 := hb11.ext x123
          replace hb12 := hb12.ext x123
          refine Rg_may2 14 73 rfl rfl rfl (fun hg => (o_not (gsel (u := undef) hg))) ?_
          refine Rg_may 11 70 rfl rfl rfl (fun hg => (o_or (u := undef) (gsel (u := undef) hg) (gand (u := undef) hg))) ?_
          refine Rg_may 11 70 rfl rfl rfl (fun hg => (o_moveh (v := .bool _) (gsel (u := undef) hg))) ?_
          refine Rg_may2 20 79 rfl rfl rfl (fun hg => (o_loadS Tryd.isAgg27 Tryd.sizeOf27 rfl hb7.at rfl)) ?_
          refine Rg_may2 20 79 rfl rfl rfl (fun hg => (o_loadS Tryd.isAgg27 Tryd.sizeOf27 rfl hb11.at rfl)) ?_
          refine Rg_mayCall2 20 79 rfl rfl rfl (fun hg => ⟨(o_call2 Tryd.call21 (gsel (u := undef) hg) (gsel (u := undef) hg)), implies_ok (False) _ x.ok _ z.ok _⟩) ?_
          intro w125 x126
          have z127 := Bel.size x126
          replace hX := Bel.ex hX x126
          replace hx := hx.ext x126
          replace hy := hy.ext x126
          replace hz := hz.ext x126
          replace hb3 := hb3.ext x126
          replace hb4 := hb4.ext x126
          replace hb5 := hb5.ext x126
          replace hb7 := hb7.ext x126
          replace hb8 := hb8.ext x126
          replace hb9 := hb9.ext x126
          replace hb10 := hb10.ext x126
          replace hb11 := hb11.ext x126
          replace hb12 := hb12.ext x126
          refine Rg_may 11 70 rfl rfl rfl (fun hg => (o_or (u := undef) (gsel (u := undef) hg) (gand (u := undef) hg))) ?_
          refine Rg_run rfl (o_and (u := undef) rfl rfl) ?_
          refine Rg_run rfl (o_assignh (v := .bool _) rfl) ?_
          refine Rg_nil ?_
          refine W_ret ?_
          refine ⟨_, res_tmp rfl rfl, ?_⟩
          refine ⟨congrArg Value.bool ?_, hX⟩
          all_goals (exact law_implies _ _ _)

theorem law_PermissionOrder (w : World) (x : RawV) (hx : Sl encB 1 (Lt w.heap.size) w x.a x.c x.names) (y : RawV) (hy : Sl encB 1 (Lt w.heap.size) w y.a y.c y.names) (z : RawV) (hz : Sl encB 1 (Lt w.heap.size) w z.a z.c z.names) : Ok Tryd.prog 6 #[.agg (encR x).toArray, .agg (encR y).toArray, .agg (encR z).toArray] w fun v w' => v = .bool (true) ∧ Ext False w w' := by
  refine Ok_of_W 82 Tryd.func6 rfl rfl rfl ?_
  have hX : Ext False w w := Bel.refl _ _
  refine W_seq ?_
  refine W_region ?_
  refine Rg_newB rfl (o_box (v := .agg _) rfl) ?_
  intro b3 w1 x2 hge3 hb3
  have hlt3 := hb3.lt
  change Box _ _ _ (encR _) at hb3
  have z3 := Bel.size x2
  replace hX := Bel.ex hX x2
  replace hx := hx.ext x2
  replace hy := hy.ext x2
  replace hz := hz.ext x2
  refine Rg_newB rfl (o_box (v := .agg _) rfl) ?_
  intro b4 w4 x5 hge4 hb4
  have hlt4 := hb4.lt
  change Box _ _ _ (encR _) at hb4
  have z6 := Bel.size x5
  replace hX := Bel.ex hX x5
  replace hx := hx.ext x5
  replace hy := hy.ext x5
  replace hz := hz.ext x5
  replace hb3 := hb3.ext x5
  refine Rg_newB rfl (o_box (v := .agg _) rfl) ?_
  intro b5 w7 x8 hge5 hb5
  have hlt5 := hb5.lt
  change Box _ _ _ (encR _) at hb5
  have z9 := Bel.size x8
  replace hX := Bel.ex hX x8
  replace hx := hx.ext x8
  replace hy := hy.ext x8
  replace hz := hz.ext x8
  replace hb3 := hb3.ext x8
  replace hb4 := hb4.ext x8
  refine Rg_run rfl o_assignc ?_
  refine Rg_nil ?_
  refine W_seq ?_
  refine W_seq ?_
  refine W_region ?_
  refine Rg_enter rfl (o_call0 Tryd.call13) (Ok.mono (awake_ok _) ?_)
  rintro _ w10 ⟨rfl, x11⟩
  have z12 := Bel.size x11
  replace hX := Bel.ex hX x11
  replace hx := hx.ext x11
  replace hy := hy.ext x11
  replace hz := hz.ext x11
  replace hb3 := hb3.ext x11
  replace hb4 := hb4.ext x11
  replace hb5 := hb5.ext x11
  refine Rg_run rfl (o_not rfl) ?_
  refine Rg_nil ?_
  refine W_cond rfl (fun hc1 => ?_) (fun hc1 => ?_)
  · skip
    refine W_seq ?_
    refine W_region ?_
    refine Rg_run rfl o_assignc ?_
    refine Rg_nil ?_
    refine W_ret ?_
    refine ⟨_, res_tmp rfl rfl, ?_⟩
    refine ⟨congrArg Value.bool ?_, hX⟩
    all_goals (cases hc1)
  · skip
    refine W_skip ?_
    refine W_seq ?_
    refine W_region ?_
    refine Rg_run rfl (o_loadS Tryd.isAgg24 Tryd.sizeOf24 rfl hb3.at rfl) ?_
    refine Rg_enter rfl (o_call1 Tryd.call14 rfl) (Ok.mono (make_ok _ _ hx.top) ?_)
    rintro _ w13 ⟨rfl, x14⟩
    have z15 := Bel.size x14
    replace hX := Bel.ex hX x14
    replace hx := hx.ext x14
    replace hy := hy.ext x14
    replace hz := hz.ext x14
    replace hb3 := hb3.ext x14
    replace hb4 := hb4.ext x14
    replace hb5 := hb5.ext x14
    refine Rg_run rfl (o_moveh (v := .tuple _) rfl) ?_
    refine Rg_run rfl (o_extract rfl rfl) ?_
    refine Rg_run rfl (o_extract rfl rfl) ?_
    refine Rg_newB rfl (o_alloc Tryd.zeroValue27) ?_
    intro b7 w16 x17 hge7 hb7
    have hlt7 := hb7.lt
    change Box _ _ _ ([str _, str _, .bool _]) at hb7
    have z18 := Bel.size x17
    replace hX := Bel.ex hX x17
    replace hx := hx.ext x17
    replace hy := hy.ext x17
    replace hz := hz.ext x17
    replace hb3 := hb3.ext x17
    replace hb4 := hb4.ext x17
    replace hb5 := hb5.ext x17
    refine Rg_newB rfl (o_alloc Tryd.zeroValue28) ?_
    intro b8 w19 x20 hge8 hb8
    have hlt8 := hb8.lt
    change Box _ _ _ ([str _, str _, .bool _]) at hb8
    have z21 := Bel.size x20
    replace hX := Bel.ex hX x20
    replace hx := hx.ext x20
    replace hy := hy.ext x20
    replace hz := hz.ext x20
    replace hb3 := hb3.ext x20
    replace hb4 := hb4.ext x20
    replace hb5 := hb5.ext x20
    replace hb7 := hb7.ext x20
    refine Rg_storeW (v := .agg _) rfl Tryd.sizeOf27 rfl rfl hb7 rfl rfl rfl ?_
    intro w22 c23 hb7
    change Box _ _ _ (encP _) at hb7
    have z24 := Bel.size c23
    replace hX := Bel.out hX c23 (fun g h1 h2 => by first | exact h2 | omega)
    replace hx := hx.keep c23 (fun g h1 h2 h3 => by omega)
    replace hy := hy.keep c23 (fun g h1 h2 h3 => by omega)
    replace hz := hz.keep c23 (fun g h1 h2 h3 => by omega)
    replace hb3 := hb3.keep c23 (fun h => by omega)
    replace hb4 := hb4.keep c23 (fun h => by omega)
    replace hb5 := hb5.keep c23 (fun h => by omega)
    replace hb8 := hb8.keep c23 (fun h => by omega)
    refine Rg_storeW (v := .agg _) rfl Tryd.sizeOf28 rfl rfl hb8 rfl rfl rfl ?_
    intro w25 c26 hb8
    change Box _ _ _ (encP _) at hb8
    have z27 := Bel.size c26
    replace hX := Bel.out hX c26 (fun g h1 h2 => by first | exact h2 | omega)
    replace hx := hx.keep c26 (fun g h1 h2 h3 => by omega)
    replace hy := hy.keep c26 (fun g h1 h2 h3 => by omega)
    replace hz := hz.keep c26 (fun g h1 h2 h3 => by omega)
    replace hb3 := hb3.keep c26 (fun h => by omega)
    replace hb4 := hb4.keep c26 (fun h => by omega)
    replace hb5 := hb5.keep c26 (fun h => by omega)
    replace hb7 := hb7.keep c26 (fun h => by omega)
    refine Rg_nil ?_
    refine W_seq ?_
    refine W_region ?_
    refine Rg_run rfl (o_loadS Tryd.isAgg24 Tryd.sizeOf24 rfl hb4.at rfl) ?_
    refine Rg_enter rfl (o_call1 Tryd.call14 rfl) (Ok.mono (make_ok _ _ hy.top) ?_)
    rintro _ w28 ⟨rfl, x29⟩
    have z30 := Bel.size x29
    replace hX := Bel.ex hX x29
    replace hx := hx.ext x29
    replace hy := hy.ext x29
    replace hz := hz.ext x29
    replace hb3 := hb3.ext x29
    replace hb4 := hb4.ext x29
    replace hb5 := hb5.ext x29
    replace hb7 := hb7.ext x29
    replace hb8 := hb8.ext x29
    refine Rg_run rfl (o_moveh (v := .tuple _) rfl) ?_
    refine Rg_run rfl (o_extract rfl rfl) ?_
    refine Rg_run rfl (o_extract rfl rfl) ?_
    refine Rg_newB rfl (o_alloc Tryd.zeroValue27) ?_
    intro b9 w31 x32 hge9 hb9
    have hlt9 := hb9.lt
    change Box _ _ _ ([str _, str _, .bool _]) at hb9
    have z33 := Bel.size x32
    replace hX := Bel.ex hX x32
    replace hx := hx.ext x32
    replace hy := hy.ext x32
    replace hz := hz.ext x32
    replace hb3 := hb3.ext x32
    replace hb4 := hb4.ext x32
    replace hb5 := hb5.ext x32
    replace hb7 := hb7.ext x32
    replace hb8 := hb8.ext x32
    refine Rg_newB rfl (o_alloc Tryd.zeroValue28) ?_
    intro b10 w34 x35 hge10 hb10
    have hlt10 := hb10.lt
    change Box _ _ _ ([str _, str _, .bool _]) at hb10
    have z36 := Bel.size x35
    replace hX := Bel.ex hX x35
    replace hx := hx.ext x35
    replace hy := hy.ext x35
    replace hz := hz.ext x35
    replace hb3 := hb3.ext x35
    replace hb4 := hb4.ext x35
    replace hb5 := hb5.ext x35
    replace hb7 := hb7.ext x35
    replace hb8 := hb8.ext x35
    replace hb9 := hb9.ext x35
    refine Rg_storeW (v := .agg _) rfl Tryd.sizeOf27 rfl rfl hb9 rfl rfl rfl ?_
    intro w37 c38 hb9
    change Box _ _ _ (encP _) at hb9
    have z39 := Bel.size c38
    replace hX := Bel.out hX c38 (fun g h1 h2 => by first | exact h2 | omega)
    replace hx := hx.keep c38 (fun g h1 h2 h3 => by omega)
    replace hy := hy.keep c38 (fun g h1 h2 h3 => by omega)
    replace hz := hz.keep c38 (fun g h1 h2 h3 => by omega)
    replace hb3 := hb3.keep c38 (fun h => by omega)
    replace hb4 := hb4.keep c38 (fun h => by omega)
    replace hb5 := hb5.keep c38 (fun h => by omega)
    replace hb7 := hb7.keep c38 (fun h => by omega)
    replace hb8 := hb8.keep c38 (fun h => by omega)
    replace hb10 := hb10.keep c38 (fun h => by omega)
    refine Rg_storeW (v := .agg _) rfl Tryd.sizeOf28 rfl rfl hb10 rfl rfl rfl ?_
    intro w40 c41 hb10
    change Box _ _ _ (encP _) at hb10
    have z42 := Bel.size c41
    replace hX := Bel.out hX c41 (fun g h1 h2 => by first | exact h2 | omega)
    replace hx := hx.keep c41 (fun g h1 h2 h3 => by omega)
    replace hy := hy.keep c41 (fun g h1 h2 h3 => by omega)
    replace hz := hz.keep c41 (fun g h1 h2 h3 => by omega)
    replace hb3 := hb3.keep c41 (fun h => by omega)
    replace hb4 := hb4.keep c41 (fun h => by omega)
    replace hb5 := hb5.keep c41 (fun h => by omega)
    replace hb7 := hb7.keep c41 (fun h => by omega)
    replace hb8 := hb8.keep c41 (fun h => by omega)
    replace hb9 := hb9.keep c41 (fun h => by omega)
    refine Rg_nil ?_
    refine W_seq ?_
    refine W_region ?_
    refine Rg_run rfl (o_loadS Tryd.isAgg24 Tryd.sizeOf24 rfl hb5.at rfl) ?_
    refine Rg_enter rfl (o_call1 Tryd.call14 rfl) (Ok.mono (make_ok _ _ hz.top) ?_)
    rintro _ w43 ⟨rfl, x44⟩
    have z45 := Bel.size x44
    replace hX := Bel.ex hX x44
    replace hx := hx.ext x44
    replace hy := hy.ext x44
    replace hz := hz.ext x44
    replace hb3 := hb3.ext x44
    replace hb4 := hb4.ext x44
    replace hb5 := hb5.ext x44
    replace hb7 := hb7.ext x44
    replace hb8 := hb8.ext x44
    replace hb9 := hb9.ext x44
    replace hb10 := hb10.ext x44
    refine Rg_run rfl (o_moveh (v := .tuple _) rfl) ?_
    refine Rg_run rfl (o_extract rfl rfl) ?_
    refine Rg_run rfl (o_extract rfl rfl) ?_
    refine Rg_newB rfl (o_alloc Tryd.zeroValue27) ?_
    intro b11 w46 x47 hge11 hb11
    have hlt11 := hb11.lt
    change Box _ _ _ ([str _, str _, .bool _]) at hb11
    have z48 := Bel.size x47
    replace hX := Bel.ex hX x47
    replace hx := hx.ext x47
    replace hy := hy.ext x47
    replace hz := hz.ext x47
    replace hb3 := hb3.ext x47
    replace hb4 := hb4.ext x47
    replace hb5 := hb5.ext x47
    replace hb7 := hb7.ext x47
    replace hb8 := hb8.ext x47
    replace hb9 := hb9.ext x47
    replace hb10 := hb10.ext x47
    refine Rg_newB rfl (o_alloc Tryd.zeroValue28) ?_
    intro b12 w49 x50 hge12 hb12
    have hlt12 := hb12.lt
    change Box _ _ _ ([str _, str _, .bool _]) at hb12
    have z51 := Bel.size x50
    replace hX := Bel.ex hX x50
    replace hx := hx.ext x50
    replace hy := hy.ext x50
    replace hz := hz.ext x50
    replace hb3 := hb3.ext x50
    replace hb4 := hb4.ext x50
    replace hb5 := hb5.ext x50
    replace hb7 := hb7.ext x50
    replace hb8 := hb8.ext x50
    replace hb9 := hb9.ext x50
    replace hb10 := hb10.ext x50
    replace hb11 := hb11.ext x50
    refine Rg_storeW (v := .agg _) rfl Tryd.sizeOf27 rfl rfl hb11 rfl rfl rfl ?_
    intro w52 c53 hb11
    change Box _ _ _ (encP _) at hb11
    have z54 := Bel.size c53
    replace hX := Bel.out hX c53 (fun g h1 h2 => by first | exact h2 | omega)
    replace hx := hx.keep c53 (fun g h1 h2 h3 => by omega)
    replace hy := hy.keep c53 (fun g h1 h2 h3 => by omega)
    replace hz := hz.keep c53 (fun g h1 h2 h3 => by omega)
    replace hb3 := hb3.keep c53 (fun h => by omega)
    replace hb4 := hb4.keep c53 (fun h => by omega)
    replace hb5 := hb5.keep c53 (fun h => by omega)
    replace hb7 := hb7.keep c53 (fun h => by omega)
    replace hb8 := hb8.keep c53 (fun h => by omega)
    replace hb9 := hb9.keep c53 (fun h => by omega)
    replace hb10 := hb10.keep c53 (fun h => by omega)
    replace hb12 := hb12.keep c53 (fun h => by omega)
    refine Rg_storeW (v := .agg _) rfl Tryd.sizeOf28 rfl rfl hb12 rfl rfl rfl ?_
    intro w55 c56 hb12
    change Box _ _ _ (encP _) at hb12
    have z57 := Bel.size c56
    replace hX := Bel.out hX c56 (fun g h1 h2 => by first | exact h2 | omega)
    replace hx := hx.keep c56 (fun g h1 h2 h3 => by omega)
    replace hy := hy.keep c56 (fun g h1 h2 h3 => by omega)
    replace hz := hz.keep c56 (fun g h1 h2 h3 => by omega)
    replace hb3 := hb3.keep c56 (fun h => by omega)
    replace hb4 := hb4.keep c56 (fun h => by omega)
    replace hb5 := hb5.keep c56 (fun h => by omega)
    replace hb7 := hb7.keep c56 (fun h => by omega)
    replace hb8 := hb8.keep c56 (fun h => by omega)
    replace hb9 := hb9.keep c56 (fun h => by omega)
    replace hb10 := hb10.keep c56 (fun h => by omega)
    replace hb11 := hb11.keep c56 (fun h => by omega)
    refine Rg_nil ?_
    refine W_seq ?_
    refine W_region ?_
    refine Rg_run rfl (o_loadS Tryd.isAgg27 Tryd.sizeOf27 rfl hb7.at rfl) ?_
    refine Rg_run rfl (o_loadS Tryd.isAgg27 Tryd.sizeOf27 rfl hb9.at rfl) ?_
    refine Rg_enter rfl (o_call2 Tryd.call23 rfl rfl) (Ok.mono (pmcompare_ok (False) _ x.ok _ y.ok _) ?_)
    rintro _ w58 ⟨rfl, x59⟩
    have z60 := Bel.size x59
    replace hX := Bel.ex hX x59
    replace hx := hx.ext x59
    replace hy := hy.ext x59
    replace hz := hz.ext x59
    replace hb3 := hb3.ext x59
    replace hb4 := hb4.ext x59
    replace hb5 := hb5.ext x59
    replace hb7 := hb7.ext x59
    replace hb8 := hb8.ext x59
    replace hb9 := hb9.ext x59
    replace hb10 := hb10.ext x59
    replace hb11 := hb11.ext x59
    replace hb12 := hb12.ext x59
    refine Rg_run rfl (o_assignh (v := .int _ _) rfl) ?_
    refine Rg_nil ?_
    refine W_seq ?_
    refine W_seq ?_
    refine W_region ?_
    refine Rg_run rfl (o_moveh (v := .int _ _) rfl) ?_
    refine Rg_run rfl (o_loadS Tryd.isAgg28 Tryd.sizeOf28 rfl hb8.at rfl) ?_
    refine Rg_run rfl (o_loadS Tryd.isAgg28 Tryd.sizeOf28 rfl hb10.at rfl) ?_
    refine Rg_enter rfl (o_call2 Tryd.call24 rfl rfl) (Ok.mono (rcompare_ok _ _ x.ok _ y.ok) ?_)
    rintro _ w61 ⟨rfl, x62⟩
    have z63 := Bel.size x62
    replace hX := Bel.ex hX x62
    replace hx := hx.ext x62
    replace hy := hy.ext x62
    replace hz := hz.ext x62
    replace hb3 := hb3.ext x62
    replace hb4 := hb4.ext x62
    replace hb5 := hb5.ext x62
    replace hb7 := hb7.ext x62
    replace hb8 := hb8.ext x62
    replace hb9 := hb9.ext x62
    replace hb10 := hb10.ext x62
    replace hb11 := hb11.ext x62
    replace hb12 := hb12.ext x62
    refine Rg_run rfl (o_neq rfl rfl) ?_
    refine Rg_run rfl (o_moveh (v := .bool _) rfl) ?_
    refine Rg_may 5 39 rfl rfl rfl (fun hg => (o_loadS Tryd.isAgg27 Tryd.sizeOf27 rfl hb9.at rfl)) ?_
    refine Rg_may 5 39 rfl rfl rfl (fun hg => (o_loadS Tryd.isAgg27 Tryd.sizeOf27 rfl hb7.at rfl)) ?_
    refine Rg_mayCall 5 39 rfl rfl rfl (fun hg => ⟨(o_call2 Tryd.call23 (gsel (u := undef) hg) (gsel (u := undef) hg)), pmcompare_ok (False) _ y.ok _ x.ok _⟩) ?_
    intro w64 x65
    have z66 := Bel.size x65
    replace hX := Bel.ex hX x65
    replace hx := hx.ext x65
    replace hy := hy.ext x65
    replace hz := hz.ext x65
    replace hb3 := hb3.ext x65
    replace hb4 := hb4.ext x65
    replace hb5 := hb5.ext x65
    replace hb7 := hb7.ext x65
    replace hb8 := hb8.ext x65
    replace hb9 := hb9.ext x65
    replace hb10 := hb10.ext x65
    replace hb11 := hb11.ext x65
    replace hb12 := hb12.ext x65
    refine Rg_may 5 39 rfl rfl rfl (fun hg => (o_moveh (v := .int _ _) rfl)) ?_
    refine Rg_may 5 39 rfl rfl rfl (fun hg => (o_neg (gsel (u := undef) hg) (by have := cmpM_bd x.perm y.perm; unfold I64; omega))) ?_
    refine Rg_may 5 39 rfl rfl rfl (fun hg => (o_neq (gsel (u := undef) hg) (gsel (u := undef) hg))) ?_
    refine Rg_run rfl (o_or (u := undef) rfl rfl) ?_
    refine Rg_run rfl (o_moveh (v := .bool _) rfl) ?_
    refine Rg_may 13 47 rfl rfl rfl (fun hg => (o_moveh (v := .int _ _) rfl)) ?_
    refine Rg_may 13 47 rfl rfl rfl (fun hg => (o_eql (gsel (u := undef) hg) rfl)) ?_
    refine Rg_may 13 47 rfl rfl rfl (fun hg => (o_loadS Tryd.isAgg27 Tryd.sizeOf27 rfl hb7.at rfl)) ?_
    refine Rg_may 13 47 rfl rfl rfl (fun hg => (o_loadS Tryd.isAgg27 Tryd.sizeOf27 rfl hb9.at rfl)) ?_
    refine Rg_may 13 47 rfl rfl rfl (fun hg => (o_teql eq_perm (gsel (u := undef) hg) (gsel (u := undef) hg))) ?_
    refine Rg_may 13 47 rfl rfl rfl (fun hg => (o_bneq Tryd.underlying4 (gsel (u := undef) hg) (gsel (u := undef) hg))) ?_
    refine Rg_run rfl (o_or (u := undef) rfl rfl) ?_
    refine Rg_nil ?_
    refine W_cond rfl (fun hc2 => ?_) (fun hc2 => ?_)
    · skip
      refine W_seq ?_
      refine W_region ?_
      refine Rg_run rfl o_assignc ?_
      refine Rg_nil ?_
      refine W_ret ?_
      refine ⟨_, res_tmp rfl rfl, ?_⟩
      refine ⟨congrArg Value.bool ?_, hX⟩
      all_goals (exact absurd hc2 (by rw [law_order1]; simp))
    · skip
      refine W_skip ?_
      refine W_seq ?_
      refine W_seq ?_
      refine W_region ?_
      refine Rg_run rfl (o_loadS Tryd.isAgg27 Tryd.sizeOf27 rfl hb7.at rfl) ?_
      refine Rg_enter rfl (o_call1 Tryd.call15 rfl) (Ok.mono (check_ok (False) _ x.ok _) ?_)
      rintro _ w67 ⟨rfl, x68⟩
      have z69 := Bel.size x68
      replace hX := Bel.ex hX x68
      replace hx := hx.ext x68
      replace hy := hy.ext x68
      replace hz := hz.ext x68
      replace hb3 := hb3.ext x68
      replace hb4 := hb4.ext x68
      replace hb5 := hb5.ext x68
      replace hb7 := hb7.ext x68
      replace hb8 := hb8.ext x68
      replace hb9 := hb9.ext x68
      replace hb10 := hb10.ext x68
      replace hb11 := hb11.ext x68
      replace hb12 := hb12.ext x68
      refine Rg_run rfl (o_neq rfl rfl) ?_
      refine Rg_run rfl (o_moveh (v := .bool _) rfl) ?_
      refine Rg_may 3 58 rfl rfl rfl (fun hg => (o_loadS Tryd.isAgg27 Tryd.sizeOf27 rfl hb9.at rfl)) ?_
      refine Rg_mayCall 3 58 rfl rfl rfl (fun hg => ⟨(o_call1 Tryd.call15 (gsel (u := undef) hg)), check_ok (False) _ y.ok _⟩) ?_
      intro w70 x71
      have z72 := Bel.size x71
      replace hX := Bel.ex hX x71
      replace hx := hx.ext x71
      replace hy := hy.ext x71
      replace hz := hz.ext x71
      replace hb3 := hb3.ext x71
      replace hb4 := hb4.ext x71
      replace hb5 := hb5.ext x71
      replace hb7 := hb7.ext x71
      replace hb8 := hb8.ext x71
      replace hb9 := hb9.ext x71
      replace hb10 := hb10.ext x71
      replace hb11 := hb11.ext x71
      replace hb12 := hb12.ext x71
      refine Rg_may 3 58 rfl rfl rfl (fun hg => (o_neq (gsel (u := undef) hg) rfl)) ?_
      refine Rg_run rfl (o_or (u := undef) rfl rfl) ?_
      refine Rg_run rfl (o_moveh (v := .bool _) rfl) ?_
      refine Rg_may 8 63 rfl rfl rfl (fun hg => (o_loadS Tryd.isAgg27 Tryd.sizeOf27 rfl hb11.at rfl)) ?_
      refine Rg_mayCall 8 63 rfl rfl rfl (fun hg => ⟨(o_call1 Tryd.call15 (gsel (u := undef) hg)), check_ok (False) _ z.ok _⟩) ?_
      intro w73 x74
      have z75 := Bel.size x74
      replace hX := Bel.ex hX x74
      replace hx := hx.ext x74
      replace hy := hy.ext x74
      replace hz := hz.ext x74
      replace hb3 := hb3.ext x74
      replace hb4 := hb4.ext x74
      replace hb5 := hb5.ext x74
      replace hb7 := hb7.ext x74
      replace hb8 := hb8.ext x74
      replace hb9 := hb9.ext x74
      replace hb10 := hb10.ext x74
      replace hb11 := hb11.ext x74
      replace hb12 := hb12.ext x74
      refine Rg_may 8 63 rfl rfl rfl (fun hg => (o_neq (gsel (u := undef) hg) rfl)) ?_
      refine Rg_run rfl (o_or (u := undef) rfl rfl) ?_
      refine Rg_nil ?_
      refine W_cond rfl (fun hc3 => ?_) (fun hc3 => ?_)
      · skip
        refine W_seq ?_
        refine W_region ?_
        refine Rg_run rfl o_assignc ?_
        refine Rg_nil ?_
        refine W_ret ?_
        refine ⟨_, res_tmp rfl rfl, ?_⟩
        refine ⟨congrArg Value.bool ?_, hX⟩
        all_goals (rfl)
      · skip
        refine W_skip ?_
        refine W_seq ?_
        refine W_region ?_
        refine Rg_run rfl (o_moveh (v := .int _ _) rfl) ?_
        refine Rg_run rfl (o_gtr rfl rfl) ?_
        refine Rg_run rfl (o_moveh (v := .bool _) rfl) ?_
        refine Rg_may 2 70 rfl rfl rfl (fun hg => (o_loadS Tryd.isAgg27 Tryd.sizeOf27 rfl hb9.at rfl)) ?_
        refine Rg_may 2 70 rfl rfl rfl (fun hg => (o_loadS Tryd.isAgg27 Tryd.sizeOf27 rfl hb11.at rfl)) ?_
        refine Rg_mayCall 2 70 rfl rfl rfl (fun hg => ⟨(o_call2 Tryd.call23 (gsel (u := undef) hg) (gsel (u := undef) hg)), pmcompare_ok (False) _ y.ok _ z.ok _⟩) ?_
        intro w76 x77
        have z78 := Bel.size x77
        replace hX := Bel.ex hX x77
        replace hx := hx.ext x77
        replace hy := hy.ext x77
        replace hz := hz.ext x77
        replace hb3 := hb3.ext x77
        replace hb4 := hb4.ext x77
        replace hb5 := hb5.ext x77
        replace hb7 := hb7.ext x77
        replace hb8 := hb8.ext x77
        replace hb9 := hb9.ext x77
        replace hb10 := hb10.ext x77
        replace hb11 := hb11.ext x77
        replace hb12 := hb12.ext x77
        refine Rg_may 2 70 rfl rfl rfl (fun hg => (o_gtr (gsel (u := undef) hg) rfl)) ?_
        refine Rg_run rfl (o_or (u := undef) rfl rfl) ?_
        refine Rg_run rfl (o_moveh (v := .bool _) rfl) ?_
        refine Rg_may 8 76 rfl rfl rfl (fun hg => (o_loadS Tryd.isAgg27 Tryd.sizeOf27 rfl hb7.at rfl)) ?_
        refine Rg_may 8 76 rfl rfl rfl (fun hg => (o_loadS Tryd.isAgg27 Tryd.sizeOf27 rfl hb11.at rfl)) ?_
        refine Rg_mayCall 8 76 rfl rfl rfl (fun hg => ⟨(o_call2 Tryd.call23 (gsel (u := undef) hg) (gsel (u := undef) hg)), pmcompare_ok (False) _ x.ok _ z.ok _⟩) ?_
        intro w79 x80
        have z81 := Bel.size x80
        replace hX := Bel.ex hX x80
        replace hx := hx.ext x80
        replace hy := hy.ext x80
        replace hz := hz.ext x80
        replace hb3 := hb3.ext x80
        replace hb4 := hb4.ext x80
        replace hb5 := hb5.ext x80
        replace hb7 := hb7.ext x80
        replace hb8 := hb8.ext x80
        replace hb9 := hb9.ext x80
        replace hb10 := hb10.ext x80
        replace hb11 := hb11.ext x80
        replace hb12 := hb12.ext x80
        refine Rg_may 8 76 rfl rfl rfl (fun hg => (o_leq (gsel (u := undef) hg) rfl)) ?_
        refine Rg_run rfl (o_or (u := undef) rfl rfl) ?_
        refine Rg_run rfl (o_assignh (v := .bool _) rfl) ?_
        refine Rg_nil ?_
        refine W_ret ?_
        refine ⟨_, res_tmp rfl rfl, ?_⟩
        refine ⟨congrArg Value.bool ?_, hX⟩
        all_goals (exact law_order2 x.ok y.ok z.ok hc3)

end Go.Proofs.YtgnphpimkfcmlaaDoor
