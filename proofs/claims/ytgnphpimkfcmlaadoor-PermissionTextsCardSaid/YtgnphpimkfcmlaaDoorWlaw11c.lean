/- Walks, printed by program: each theorem says what a function of the translation returns. -/
import Derived.Test.YtgnphpimkfcmlaaDoorWlaw11a
import Derived.Test.YtgnphpimkfcmlaaDoorPure11f
namespace Go.Proofs.YtgnphpimkfcmlaaDoor
open Go Go.Lx Go.RowKit
set_option maxRecDepth 100000
set_option linter.unusedVariables false
set_option linter.unusedSimpArgs false
set_option linter.unnecessarySimpa false
theorem law_PermissionTexts (w : World) (x : RawV) (hx : Sl encB 1 (Lt w.heap.size) w x.a x.c x.names) (s : Str) : Ok Tryd.prog 11 #[.agg (encR x).toArray, str s] w fun v w' => v = .bool (true) ∧ Ext False w w' := by
  refine Ok_of_W 82 Tryd.func11 rfl rfl rfl ?_
  have hX : Ext False w w := Bel.refl _ _
  refine W_seq ?_
  refine W_region ?_
  refine Rg_newB rfl (o_box (v := .agg _) rfl) ?_
  intro b2 w1 x2 hge2 hb2
  have hlt2 := hb2.lt
  change Box _ _ _ (encR _) at hb2
  have z3 := Bel.size x2
  replace hX := Bel.ex hX x2
  replace hx := hx.ext x2
  refine Rg_run rfl o_assignc ?_
  refine Rg_nil ?_
  refine W_seq ?_
  refine W_seq ?_
  refine W_region ?_
  refine Rg_enter rfl (o_call0 Tryd.call13) (Ok.mono (awake_ok _) ?_)
  rintro _ w4 ⟨rfl, x5⟩
  have z6 := Bel.size x5
  replace hX := Bel.ex hX x5
  replace hx := hx.ext x5
  replace hb2 := hb2.ext x5
  refine Rg_run rfl (o_not rfl) ?_
  refine Rg_nil ?_
  refine W_cond rfl (fun hc1 => ?_) (fun hc1 => ?_)
  · skip
    refine W_seq ?_
    refine W_region ?_
    refine Rg_run rfl o_assignc ?_
    refine Rg_nil ?_
    refine W_ret ?_
    refine ⟨_, res_tmp rfl rfl, ?_⟩
    refine ⟨congrArg Value.bool ?_, hX⟩
    all_goals (cases hc1)
  · skip
    refine W_skip ?_
    refine W_seq ?_
    refine W_region ?_
    refine Rg_run rfl (o_loadS Tryd.isAgg24 Tryd.sizeOf24 rfl hb2.at rfl) ?_
    refine Rg_enter rfl (o_call1 Tryd.call14 rfl) (Ok.mono (make_ok _ _ hx.top) ?_)
    rintro _ w7 ⟨rfl, x8⟩
    have z9 := Bel.size x8
    replace hX := Bel.ex hX x8
    replace hx := hx.ext x8
    replace hb2 := hb2.ext x8
    refine Rg_run rfl (o_moveh (v := .tuple _) rfl) ?_
    refine Rg_run rfl (o_extract rfl rfl) ?_
    refine Rg_run rfl (o_extract rfl rfl) ?_
    refine Rg_newB rfl (o_alloc Tryd.zeroValue27) ?_
    intro b5 w10 x11 hge5 hb5
    have hlt5 := hb5.lt
    change Box _ _ _ ([str _, str _, .bool _]) at hb5
    have z12 := Bel.size x11
    replace hX := Bel.ex hX x11
    replace hx := hx.ext x11
    replace hb2 := hb2.ext x11
    refine Rg_newB rfl (o_alloc Tryd.zeroValue28) ?_
    intro b6 w13 x14 hge6 hb6
    have hlt6 := hb6.lt
    change Box _ _ _ ([str _, str _, .bool _]) at hb6
    have z15 := Bel.size x14
    replace hX := Bel.ex hX x14
    replace hx := hx.ext x14
    replace hb2 := hb2.ext x14
    replace hb5 := hb5.ext x14
    refine Rg_storeW (v := .agg _) rfl Tryd.sizeOf27 rfl rfl hb5 rfl rfl rfl ?_
    intro w16 c17 hb5
    change Box _ _ _ (encP _) at hb5
    have z18 := Bel.size c17
    replace hX := Bel.out hX c17 (fun g h1 h2 => by first | exact h2 | omega)
    replace hx := hx.keep c17 (fun g h1 h2 h3 => by omega)
    replace hb2 := hb2.keep c17 (fun h => by omega)
    replace hb6 := hb6.keep c17 (fun h => by omega)
    refine Rg_storeW (v := .agg _) rfl Tryd.sizeOf28 rfl rfl hb6 rfl rfl rfl ?_
    intro w19 c20 hb6
    change Box _ _ _ (encP _) at hb6
    have z21 := Bel.size c20
    replace hX := Bel.out hX c20 (fun g h1 h2 => by first | exact h2 | omega)
    replace hx := hx.keep c20 (fun g h1 h2 h3 => by omega)
    replace hb2 := hb2.keep c20 (fun h => by omega)
    replace hb5 := hb5.keep c20 (fun h => by omega)
    refine Rg_nil ?_
    refine W_seq ?_
    refine W_region ?_
    refine Rg_run rfl (o_loadS Tryd.isAgg27 Tryd.sizeOf27 rfl hb5.at rfl) ?_
    refine Rg_enter rfl (o_call1 Tryd.call36 rfl) (Ok.mono (ptext_ok (False) _ _ x.ok) ?_)
    rintro _ w22 ⟨rfl, x23⟩
    have z24 := Bel.size x23
    replace hX := Bel.ex hX x23
    replace hx := hx.ext x23
    replace hb2 := hb2.ext x23
    replace hb5 := hb5.ext x23
    replace hb6 := hb6.ext x23
    refine Rg_run rfl (o_assignh (v := str _) rfl) ?_
    refine Rg_nil ?_
    refine W_seq ?_
    refine W_seq ?_
    refine W_region ?_
    refine Rg_run rfl (o_moveh (v := str _) rfl) ?_
    refine Rg_run rfl (o_loadS Tryd.isAgg28 Tryd.sizeOf28 rfl hb6.at rfl) ?_
    refine Rg_enter rfl (o_call1 Tryd.call37 rfl) (Ok.mono (rtext_ok _ _ x.ok) ?_)
    rintro _ w25 ⟨rfl, x26⟩
    have z27 := Bel.size x26
    replace hX := Bel.ex hX x26
    replace hx := hx.ext x26
    replace hb2 := hb2.ext x26
    replace hb5 := hb5.ext x26
    replace hb6 := hb6.ext x26
    refine Rg_run rfl (o_sneq rfl rfl) ?_
    refine Rg_nil ?_
    refine W_cond rfl (fun hc2 => ?_) (fun hc2 => ?_)
    · skip
      refine W_seq ?_
      refine W_region ?_
      refine Rg_run rfl o_assignc ?_
      refine Rg_nil ?_
      refine W_ret ?_
      refine ⟨_, res_tmp rfl rfl, ?_⟩
      refine ⟨congrArg Value.bool ?_, hX⟩
      all_goals (simp at hc2)
    · skip
      refine W_skip ?_
      refine W_seq ?_
      refine W_region ?_
      refine Rg_run rfl (o_moveh (v := str _) rfl) ?_
      refine Rg_enter rfl (o_call1 Tryd.call38 rfl) (Ok.mono (pparse_ok (False) _ _ text_rl) ?_)
      rintro _ w28 ⟨rfl, x29⟩
      have z30 := Bel.size x29
      replace hX := Bel.ex hX x29
      replace hx := hx.ext x29
      replace hb2 := hb2.ext x29
      replace hb5 := hb5.ext x29
      replace hb6 := hb6.ext x29
      refine Rg_run rfl (o_moveh (v := .tuple _) rfl) ?_
      generalize hps : parseS (textS x.perm) = ps
      refine Rg_run rfl (o_extract rfl rfl) ?_
      refine Rg_run rfl (o_extract rfl rfl) ?_
      refine Rg_alst rfl rfl Tryd.zeroValue27 rfl Tryd.sizeOf27 (fun _ => rfl) rfl rfl ?_
      intro b8 w31 x32 hge8 hb8
      have hlt8 := hb8.lt
      change Box _ _ _ (encP _) at hb8
      have z33 := Bel.size x32
      replace hX := Bel.ex hX x32
      replace hx := hx.ext x32
      replace hb2 := hb2.ext x32
      replace hb5 := hb5.ext x32
      replace hb6 := hb6.ext x32
      refine Rg_run rfl (o_assignh (v := .int _ _) rfl) ?_
      refine Rg_nil ?_
      refine W_seq ?_
      refine W_seq ?_
      refine W_region ?_
      refine Rg_run rfl (o_loadS Tryd.isAgg28 Tryd.sizeOf28 rfl hb6.at rfl) ?_
      refine Rg_enter rfl (o_call1 Tryd.call16 rfl) (Ok.mono (rcheck_ok _ _ x.ok) ?_)
      rintro _ w34 ⟨rfl, x35⟩
      have z36 := Bel.size x35
      replace hX := Bel.ex hX x35
      replace hx := hx.ext x35
      replace hb2 := hb2.ext x35
      replace hb5 := hb5.ext x35
      replace hb6 := hb6.ext x35
      replace hb8 := hb8.ext x35
      refine Rg_run rfl (o_neq rfl rfl) ?_
      refine Rg_nil ?_
      refine W_cond rfl (fun hc3 => ?_) (fun hc3 => ?_)
      · skip
        refine W_seq ?_
        refine W_region ?_
        refine Rg_run rfl (o_moveh (v := str _) rfl) ?_
        refine Rg_run rfl (o_seql rfl rfl) ?_
        refine Rg_run rfl (o_moveh (v := .bool _) rfl) ?_
        refine Rg_may 2 35 rfl rfl rfl (fun hg => (o_moveh (v := .int _ _) rfl)) ?_
        refine Rg_may 2 35 rfl rfl rfl (fun hg => (o_eql (gsel (u := undef) hg) rfl)) ?_
        refine Rg_run rfl (o_and (u := undef) rfl rfl) ?_
        refine Rg_run rfl (o_moveh (v := .bool _) rfl) ?_
        refine Rg_may 6 39 rfl rfl rfl (fun hg => (o_loadS Tryd.isAgg27 Tryd.sizeOf27 rfl hb8.at rfl)) ?_
        refine Rg_may 6 39 rfl rfl rfl (fun hg => (o_build (cells := encP pz) (vs := []) rfl (by kernel_rfl))) ?_
        refine Rg_may 6 39 rfl rfl rfl (fun hg => (o_teql eq_perm (gsel (u := undef) hg) (gsel (u := undef) hg))) ?_
        refine Rg_run rfl (o_and (u := undef) rfl rfl) ?_
        refine Rg_run rfl (o_assignh (v := .bool _) rfl) ?_
        refine Rg_nil ?_
        refine W_ret ?_
        refine ⟨_, res_tmp rfl rfl, ?_⟩
        refine ⟨congrArg Value.bool ?_, hX⟩
        all_goals (subst hps; rw [text_bad (by simpa using hc3), parse_nil]; decide)
      · skip
        refine W_skip ?_
        refine W_seq ?_
        refine W_region ?_
        refine Rg_run rfl (o_moveh (v := str _) rfl) ?_
        refine Rg_run rfl (o_moveh (v := str _) rfl) ?_
        refine Rg_run rfl (o_slen Tryd.underlying9 rfl) ?_
        refine Rg_run rfl (o_minN (a := s.length) (b := 60) rfl rfl) ?_
        refine Rg_run rfl (o_sto (j := min s.length 60) Tryd.underlying9 rfl rfl (by omega)) ?_
        refine Rg_run rfl (o_assignh (v := str _) rfl) ?_
        refine Rg_nil ?_
        refine W_seq ?_
        refine W_region ?_
        refine Rg_run rfl (o_moveh (v := str _) rfl) ?_
        refine Rg_enter rfl (o_call1 Tryd.call38 rfl) (Ok.mono (pparse_ok (False) _ _ (by rw [List.length_take]; omega)) ?_)
        rintro _ w37 ⟨rfl, x38⟩
        have z39 := Bel.size x38
        replace hX := Bel.ex hX x38
        replace hx := hx.ext x38
        replace hb2 := hb2.ext x38
        replace hb5 := hb5.ext x38
        replace hb6 := hb6.ext x38
        replace hb8 := hb8.ext x38
        refine Rg_run rfl (o_moveh (v := .tuple _) rfl) ?_
        generalize hpt : parseS (s.take (min s.length 60)) = pt
        refine Rg_run rfl (o_extract rfl rfl) ?_
        refine Rg_run rfl (o_extract rfl rfl) ?_
        refine Rg_alst rfl rfl Tryd.zeroValue27 rfl Tryd.sizeOf27 (fun _ => rfl) rfl rfl ?_
        intro b10 w40 x41 hge10 hb10
        have hlt10 := hb10.lt
        change Box _ _ _ (encP _) at hb10
        have z42 := Bel.size x41
        replace hX := Bel.ex hX x41
        replace hx := hx.ext x41
        replace hb2 := hb2.ext x41
        replace hb5 := hb5.ext x41
        replace hb6 := hb6.ext x41
        replace hb8 := hb8.ext x41
        refine Rg_run rfl (o_assignh (v := .int _ _) rfl) ?_
        refine Rg_nil ?_
        refine W_seq ?_
        refine W_seq ?_
        refine W_region ?_
        refine Rg_run rfl (o_moveh (v := .int _ _) rfl) ?_
        refine Rg_run rfl (o_neq rfl rfl) ?_
        refine Rg_run rfl (o_moveh (v := .bool _) rfl) ?_
        refine Rg_may 2 56 rfl rfl rfl (fun hg => (o_moveh (v := .int _ _) rfl)) ?_
        refine Rg_may 2 56 rfl rfl rfl (fun hg => (o_neq (gsel (u := undef) hg) rfl)) ?_
        refine Rg_may 2 56 rfl rfl rfl (fun hg => (o_moveh (v := .bool _) (gsel (u := undef) hg))) ?_
        refine Rg_may2 5 59 rfl rfl rfl (fun hg => (o_loadS Tryd.isAgg27 Tryd.sizeOf27 rfl hb10.at rfl)) ?_
        refine Rg_may2 5 59 rfl rfl rfl (fun hg => (o_build (cells := encP pz) (vs := []) rfl (by kernel_rfl))) ?_
        refine Rg_may2 5 59 rfl rfl rfl (fun hg => (o_tneq eq_perm (gsel (u := undef) hg) (gsel (u := undef) hg))) ?_
        refine Rg_may 2 56 rfl rfl rfl (fun hg => (o_or (u := undef) (gsel (u := undef) hg) (gand (u := undef) hg))) ?_
        refine Rg_run rfl (o_and (u := undef) rfl rfl) ?_
        refine Rg_run rfl (o_moveh (v := .bool _) rfl) ?_
        refine Rg_may 11 65 rfl rfl rfl (fun hg => (o_moveh (v := .int _ _) rfl)) ?_
        refine Rg_may 11 65 rfl rfl rfl (fun hg => (o_eql (gsel (u := undef) hg) rfl)) ?_
        refine Rg_may 11 65 rfl rfl rfl (fun hg => (o_moveh (v := .bool _) (gsel (u := undef) hg))) ?_
        refine Rg_may2 14 68 rfl rfl rfl (fun hg => (o_loadS Tryd.isAgg27 Tryd.sizeOf27 rfl hb10.at rfl)) ?_
        refine Rg_mayCall2 14 68 rfl rfl rfl (fun hg => ⟨(o_call1 Tryd.call36 (gsel (u := undef) hg)), ptext_ok (False) _ pt.1 (by rw [← hpt]; exact parseS_ok (by rw [List.length_take]; omega))⟩) ?_
        intro w43 x44
        have z45 := Bel.size x44
        replace hX := Bel.ex hX x44
        replace hx := hx.ext x44
        replace hb2 := hb2.ext x44
        replace hb5 := hb5.ext x44
        replace hb6 := hb6.ext x44
        replace hb8 := hb8.ext x44
        replace hb10 := hb10.ext x44
        refine Rg_may2 14 68 rfl rfl rfl (fun hg => (o_moveh (v := str _) rfl)) ?_
        refine Rg_may2 14 68 rfl rfl rfl (fun hg => (o_sneq (gsel (u := undef) hg) (gsel (u := undef) hg))) ?_
        refine Rg_may 11 65 rfl rfl rfl (fun hg => (o_and (u := undef) (gsel (u := undef) hg) (gand (u := undef) hg))) ?_
        refine Rg_run rfl (o_or (u := undef) rfl rfl) ?_
        refine Rg_nil ?_
        refine W_cond rfl (fun hc4 => ?_) (fun hc4 => ?_)
        · skip
          refine W_seq ?_
          refine W_region ?_
          refine Rg_run rfl o_assignc ?_
          refine Rg_nil ?_
          refine W_ret ?_
          refine ⟨_, res_tmp rfl rfl, ?_⟩
          refine ⟨congrArg Value.bool ?_, hX⟩
          all_goals (subst hpt; rw [text_law] at hc4; simp at hc4)
        · skip
          refine W_skip ?_
          refine W_seq ?_
          refine W_region ?_
          refine Rg_run rfl (o_moveh (v := .int _ _) rfl) ?_
          refine Rg_run rfl (o_eql rfl rfl) ?_
          refine Rg_run rfl (o_moveh (v := .bool _) rfl) ?_
          refine Rg_may 2 77 rfl rfl rfl (fun hg => (o_loadS Tryd.isAgg27 Tryd.sizeOf27 rfl hb8.at rfl)) ?_
          refine Rg_may 2 77 rfl rfl rfl (fun hg => (o_loadS Tryd.isAgg27 Tryd.sizeOf27 rfl hb5.at rfl)) ?_
          refine Rg_may 2 77 rfl rfl rfl (fun hg => (o_teql eq_perm (gsel (u := undef) hg) (gsel (u := undef) hg))) ?_
          refine Rg_run rfl (o_and (u := undef) rfl rfl) ?_
          refine Rg_run rfl (o_assignh (v := .bool _) rfl) ?_
          refine Rg_nil ?_
          refine W_ret ?_
          refine ⟨_, res_tmp rfl rfl, ?_⟩
          refine ⟨congrArg Value.bool ?_, hX⟩
          all_goals (subst hps; rw [text_parse (by simpa using hc3)]; simp)

end Go.Proofs.YtgnphpimkfcmlaaDoor
