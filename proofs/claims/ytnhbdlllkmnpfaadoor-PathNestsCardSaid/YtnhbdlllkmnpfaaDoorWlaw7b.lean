/- Walks, printed by program: each theorem says what a function of the translation returns. -/
import Derived.Test.YtnhbdlllkmnpfaaDoorWlaw7a
import Derived.Test.YtnhbdlllkmnpfaaDoorPure7b
namespace Go.Proofs.YtnhbdlllkmnpfaaDoor
open Go Go.Lx Go.RowKit
set_option maxRecDepth 100000
set_option linter.unusedVariables false
set_option linter.unusedSimpArgs false
set_option linter.unnecessarySimpa false
theorem law_PathWithin (w : World) (s : Str) (t : Str) : Ok Tryd.prog 3 #[str s, str t] w fun v w' => v = .bool (true) ∧ Ext False w w' := by
  refine Ok_of_W 52 Tryd.func3 rfl rfl rfl ?_
  have hX : Ext False w w := Bel.refl _ _
  refine W_seq ?_
  refine W_region ?_
  refine Rg_run rfl o_assignc ?_
  refine Rg_nil ?_
  refine W_seq ?_
  refine W_seq ?_
  refine W_region ?_
  refine Rg_enter rfl (o_call0 Tryd.call13) (Ok.mono (awake_ok _) ?_)
  rintro _ w1 ⟨rfl, x2⟩
  have z3 := Bel.size x2
  replace hX := Bel.ex hX x2
  refine Rg_run rfl (o_not rfl) ?_
  refine Rg_nil ?_
  refine W_cond rfl (fun hc1 => ?_) (fun hc1 => ?_)
  · skip
    refine W_seq ?_
    refine W_region ?_
    refine Rg_run rfl o_assignc ?_
    refine Rg_nil ?_
    refine W_ret ?_
    refine ⟨_, res_tmp rfl rfl, ?_⟩
    refine ⟨congrArg Value.bool ?_, hX⟩
    all_goals (cases hc1)
  · skip
    refine W_skip ?_
    refine W_seq ?_
    refine W_region ?_
    refine Rg_run rfl (o_moveh (v := str _) rfl) ?_
    refine Rg_enter rfl (o_call1 Tryd.call14 rfl) (Ok.mono (cut7_ok (False) _ _) ?_)
    rintro _ w4 ⟨rfl, x5⟩
    have z6 := Bel.size x5
    replace hX := Bel.ex hX x5
    refine Rg_run rfl (o_moveh (v := str _) rfl) ?_
    refine Rg_enter rfl (o_call1 Tryd.call14 rfl) (Ok.mono (cut7_ok (False) _ _) ?_)
    rintro _ w7 ⟨rfl, x8⟩
    have z9 := Bel.size x8
    replace hX := Bel.ex hX x8
    refine Rg_run rfl (o_assignh (v := str _) rfl) ?_
    refine Rg_run rfl (o_assignh (v := str _) rfl) ?_
    refine Rg_nil ?_
    refine W_seq ?_
    refine W_region ?_
    refine Rg_run rfl (o_moveh (v := str _) rfl) ?_
    refine Rg_run rfl (o_moveh (v := str _) rfl) ?_
    refine Rg_enter rfl (o_call2 Tryd.call15 rfl rfl) (Ok.mono (pcommon7_ok _ _ (by first | exact cut7_len _ | exact make_len7 _ | exact commonP_len _ _ | assumption | omega | (simp; done) | (simp; omega) | (simp at *; omega)) _ (by first | exact cut7_len _ | exact make_len7 _ | exact commonP_len _ _ | assumption | omega | (simp; done) | (simp; omega) | (simp at *; omega))) ?_)
    rintro _ w10 ⟨rfl, x11⟩
    have z12 := Bel.size x11
    replace hX := Bel.ex hX x11
    refine Rg_run rfl (o_moveh (v := .tuple _) rfl) ?_
    refine Rg_run rfl (o_extract rfl rfl) ?_
    refine Rg_run rfl (o_extract rfl rfl) ?_
    refine Rg_run rfl (o_assignh (v := str _) rfl) ?_
    refine Rg_run rfl (o_assignh (v := .bool _) rfl) ?_
    refine Rg_nil ?_
    refine W_seq ?_
    refine W_region ?_
    refine Rg_run rfl (o_moveh (v := str _) rfl) ?_
    refine Rg_run rfl (o_moveh (v := str _) rfl) ?_
    refine Rg_enter rfl (o_call2 Tryd.call16 rfl rfl) (Ok.mono (within_ok (False) _ _ (by first | exact cut7_len _ | exact make_len7 _ | exact commonP_len _ _ | assumption | omega | (simp; done) | (simp; omega) | (simp at *; omega)) (by first | exact cut7_len _ | exact make_len7 _ | exact commonP_len _ _ | assumption | omega | (simp; done) | (simp; omega) | (simp at *; omega)) _) ?_)
    rintro _ w13 ⟨rfl, x14⟩
    have z15 := Bel.size x14
    replace hX := Bel.ex hX x14
    refine Rg_run rfl (o_moveh (v := str _) rfl) ?_
    refine Rg_run rfl (o_moveh (v := str _) rfl) ?_
    refine Rg_enter rfl (o_call2 Tryd.call17 rfl rfl) (Ok.mono (r7within_ok _ _ (by first | exact cut7_len _ | exact make_len7 _ | exact commonP_len _ _ | assumption | omega | (simp; done) | (simp; omega) | (simp at *; omega)) _ (by first | exact cut7_len _ | exact make_len7 _ | exact commonP_len _ _ | assumption | omega | (simp; done) | (simp; omega) | (simp at *; omega))) ?_)
    rintro _ w16 ⟨rfl, x17⟩
    have z18 := Bel.size x17
    replace hX := Bel.ex hX x17
    refine Rg_run rfl (o_beql Tryd.underlying4 rfl rfl) ?_
    refine Rg_run rfl (o_moveh (v := .bool _) rfl) ?_
    refine Rg_may 7 26 rfl rfl rfl (fun hg => (o_moveh (v := str _) rfl)) ?_
    refine Rg_may 7 26 rfl rfl rfl (fun hg => (o_moveh (v := str _) rfl)) ?_
    refine Rg_mayCall 7 26 rfl rfl rfl (fun hg => ⟨(o_call2 Tryd.call16 (gsel (u := undef) hg) (gsel (u := undef) hg)), within_ok (False) _ _ (by first | exact cut7_len _ | exact make_len7 _ | exact commonP_len _ _ | assumption | omega | (simp; done) | (simp; omega) | (simp at *; omega)) (by first | exact cut7_len _ | exact make_len7 _ | exact commonP_len _ _ | assumption | omega | (simp; done) | (simp; omega) | (simp at *; omega)) _⟩) ?_
    intro w19 x20
    have z21 := Bel.size x20
    replace hX := Bel.ex hX x20
    refine Rg_may 7 26 rfl rfl rfl (fun hg => (o_moveh (v := str _) rfl)) ?_
    refine Rg_may 7 26 rfl rfl rfl (fun hg => (o_moveh (v := str _) rfl)) ?_
    refine Rg_mayCall 7 26 rfl rfl rfl (fun hg => ⟨(o_call2 Tryd.call17 (gsel (u := undef) hg) (gsel (u := undef) hg)), r7within_ok _ _ (by first | exact cut7_len _ | exact make_len7 _ | exact commonP_len _ _ | assumption | omega | (simp; done) | (simp; omega) | (simp at *; omega)) _ (by first | exact cut7_len _ | exact make_len7 _ | exact commonP_len _ _ | assumption | omega | (simp; done) | (simp; omega) | (simp at *; omega))⟩) ?_
    intro w22 x23
    have z24 := Bel.size x23
    replace hX := Bel.ex hX x23
    refine Rg_may 7 26 rfl rfl rfl (fun hg => (o_beql Tryd.underlying4 (gsel (u := undef) hg) (gsel (u := undef) hg))) ?_
    refine Rg_run rfl (o_and (u := undef) rfl rfl) ?_
    refine Rg_run rfl (o_moveh (v := .bool _) rfl) ?_
    refine Rg_may 16 35 rfl rfl rfl (fun hg => (o_moveh (v := str _) rfl)) ?_
    refine Rg_may 16 35 rfl rfl rfl (fun hg => (o_moveh (v := str _) rfl)) ?_
    refine Rg_may 16 35 rfl rfl rfl (fun hg => (o_moveh (v := str _) rfl)) ?_
    refine Rg_mayCall 16 35 rfl rfl rfl (fun hg => ⟨(o_call2 Tryd.call18 (gsel (u := undef) hg) (gsel (u := undef) hg)), r7comm_ok _ _ (by first | exact cut7_len _ | exact make_len7 _ | exact commonP_len _ _ | assumption | omega | (simp; done) | (simp; omega) | (simp at *; omega)) _ (by first | exact cut7_len _ | exact make_len7 _ | exact commonP_len _ _ | assumption | omega | (simp; done) | (simp; omega) | (simp at *; omega))⟩) ?_
    intro w25 x26
    have z27 := Bel.size x26
    replace hX := Bel.ex hX x26
    refine Rg_may 16 35 rfl rfl rfl (fun hg => (o_seql (gsel (u := undef) hg) (gsel (u := undef) hg))) ?_
    refine Rg_run rfl (o_and (u := undef) rfl rfl) ?_
    refine Rg_run rfl (o_moveh (v := .bool _) rfl) ?_
    refine Rg_may 23 42 rfl rfl rfl (fun hg => (o_moveh (v := .bool _) rfl)) ?_
    refine Rg_may 23 42 rfl rfl rfl (fun hg => (o_moveh (v := str _) rfl)) ?_
    refine Rg_mayCall 23 42 rfl rfl rfl (fun hg => ⟨(o_call1 Tryd.call19 (gsel (u := undef) hg)), r7valid_ok _ _ (by first | exact cut7_len _ | exact make_len7 _ | exact commonP_len _ _ | assumption | omega | (simp; done) | (simp; omega) | (simp at *; omega))⟩) ?_
    intro w28 x29
    have z30 := Bel.size x29
    replace hX := Bel.ex hX x29
    refine Rg_may 23 42 rfl rfl rfl (fun hg => (o_moveh (v := .bool _) (gsel (u := undef) hg))) ?_
    refine Rg_may2 27 46 rfl rfl rfl (fun hg => (o_moveh (v := str _) rfl)) ?_
    refine Rg_mayCall2 27 46 rfl rfl rfl (fun hg => ⟨(o_call1 Tryd.call19 (gsel (u := undef) hg)), r7valid_ok _ _ (by first | exact cut7_len _ | exact make_len7 _ | exact commonP_len _ _ | assumption | omega | (simp; done) | (simp; omega) | (simp at *; omega))⟩) ?_
    intro w31 x32
    have z33 := Bel.size x32
    replace hX := Bel.ex hX x32
    refine Rg_may 23 42 rfl rfl rfl (fun hg => (o_and (u := undef) (gsel (u := undef) hg) (gand (u := undef) hg))) ?_
    refine Rg_may 23 42 rfl rfl rfl (fun hg => (o_beql Tryd.underlying4 (gsel (u := undef) hg) (gsel (u := undef) hg))) ?_
    refine Rg_run rfl (o_and (u := undef) rfl rfl) ?_
    refine Rg_run rfl (o_assignh (v := .bool _) rfl) ?_
    refine Rg_nil ?_
    refine W_ret ?_
    refine ⟨_, res_tmp rfl rfl, ?_⟩
    refine ⟨congrArg Value.bool ?_, hX⟩
    all_goals (simp)

theorem law_PathCompares (w : World) (s : Str) (t : Str) : Ok Tryd.prog 4 #[str s, str t] w fun v w' => v = .bool (true) ∧ Ext False w w' := by
  refine Ok_of_W 33 Tryd.func4 rfl rfl rfl ?_
  have hX : Ext False w w := Bel.refl _ _
  refine W_seq ?_
  refine W_region ?_
  refine Rg_run rfl o_assignc ?_
  refine Rg_nil ?_
  refine W_seq ?_
  refine W_seq ?_
  refine W_region ?_
  refine Rg_enter rfl (o_call0 Tryd.call13) (Ok.mono (awake_ok _) ?_)
  rintro _ w1 ⟨rfl, x2⟩
  have z3 := Bel.size x2
  replace hX := Bel.ex hX x2
  refine Rg_run rfl (o_not rfl) ?_
  refine Rg_nil ?_
  refine W_cond rfl (fun hc1 => ?_) (fun hc1 => ?_)
  · skip
    refine W_seq ?_
    refine W_region ?_
    refine Rg_run rfl o_assignc ?_
    refine Rg_nil ?_
    refine W_ret ?_
    refine ⟨_, res_tmp rfl rfl, ?_⟩
    refine ⟨congrArg Value.bool ?_, hX⟩
    all_goals (cases hc1)
  · skip
    refine W_skip ?_
    refine W_seq ?_
    refine W_region ?_
    refine Rg_run rfl (o_moveh (v := str _) rfl) ?_
    refine Rg_enter rfl (o_call1 Tryd.call14 rfl) (Ok.mono (cut7_ok (False) _ _) ?_)
    rintro _ w4 ⟨rfl, x5⟩
    have z6 := Bel.size x5
    replace hX := Bel.ex hX x5
    refine Rg_run rfl (o_moveh (v := str _) rfl) ?_
    refine Rg_enter rfl (o_call1 Tryd.call14 rfl) (Ok.mono (cut7_ok (False) _ _) ?_)
    rintro _ w7 ⟨rfl, x8⟩
    have z9 := Bel.size x8
    replace hX := Bel.ex hX x8
    refine Rg_run rfl (o_assignh (v := str _) rfl) ?_
    refine Rg_run rfl (o_assignh (v := str _) rfl) ?_
    refine Rg_nil ?_
    refine W_seq ?_
    refine W_region ?_
    refine Rg_run rfl o_assignc ?_
    refine Rg_nil ?_
    refine W_seq ?_
    refine W_block ?_
    refine W_seq ?_
    refine W_region ?_
    refine Rg_run rfl (o_moveh (v := str _) rfl) ?_
    refine Rg_run rfl (o_moveh (v := str _) rfl) ?_
    refine Rg_enter rfl (o_call2 Tryd.call20 rfl rfl) (Ok.mono (r7less_ok _ _ (by first | exact cut7_len _ | exact make_len7 _ | exact commonP_len _ _ | assumption | omega | (simp; done) | (simp; omega) | (simp at *; omega)) _ (by first | exact cut7_len _ | exact make_len7 _ | exact commonP_len _ _ | assumption | omega | (simp; done) | (simp; omega) | (simp at *; omega))) ?_)
    rintro _ w10 ⟨rfl, x11⟩
    have z12 := Bel.size x11
    replace hX := Bel.ex hX x11
    refine Rg_run rfl (o_assignh (v := .bool _) rfl) ?_
    refine Rg_nil ?_
    refine W_cond rfl (fun hc2 => ?_) (fun hc2 => ?_)
    · skip
      refine W_region ?_
      refine Rg_run rfl o_assignc ?_
      refine Rg_nil ?_
      refine W_seq ?_
      refine W_region ?_
      refine Rg_run rfl (o_moveh (v := str _) rfl) ?_
      refine Rg_run rfl (o_moveh (v := str _) rfl) ?_
      refine Rg_enter rfl (o_call2 Tryd.call21 rfl rfl) (Ok.mono (pcompare_ok (False) _ _ (by first | exact cut7_len _ | exact make_len7 _ | exact commonP_len _ _ | assumption | omega | (simp; done) | (simp; omega) | (simp at *; omega)) (by first | exact cut7_len _ | exact make_len7 _ | exact commonP_len _ _ | assumption | omega | (simp; done) | (simp; omega) | (simp at *; omega)) _) ?_)
      rintro _ w13 ⟨rfl, x14⟩
      have z15 := Bel.size x14
      replace hX := Bel.ex hX x14
      refine Rg_run rfl (o_moveh (v := .int _ _) rfl) ?_
      refine Rg_run rfl (o_eql rfl rfl) ?_
      refine Rg_run rfl (o_moveh (v := .bool _) rfl) ?_
      refine Rg_may 5 25 rfl rfl rfl (fun hg => (o_moveh (v := str _) rfl)) ?_
      refine Rg_may 5 25 rfl rfl rfl (fun hg => (o_moveh (v := str _) rfl)) ?_
      refine Rg_mayCall 5 25 rfl rfl rfl (fun hg => ⟨(o_call2 Tryd.call21 (gsel (u := undef) hg) (gsel (u := undef) hg)), pcompare_ok (False) _ _ (by first | exact cut7_len _ | exact make_len7 _ | exact commonP_len _ _ | assumption | omega | (simp; done) | (simp; omega) | (simp at *; omega)) (by first | exact cut7_len _ | exact make_len7 _ | exact commonP_len _ _ | assumption | omega | (simp; done) | (simp; omega) | (simp at *; omega)) _⟩) ?_
      intro w16 x17
      have z18 := Bel.size x17
      replace hX := Bel.ex hX x17
      refine Rg_may 5 25 rfl rfl rfl (fun hg => (o_moveh (v := .int _ _) rfl)) ?_
      refine Rg_may 5 25 rfl rfl rfl (fun hg => (o_neg (gsel (u := undef) hg) (by unfold I64; decide))) ?_
      refine Rg_may 5 25 rfl rfl rfl (fun hg => (o_eql (gsel (u := undef) hg) (gsel (u := undef) hg))) ?_
      refine Rg_run rfl (o_and (u := undef) rfl rfl) ?_
      refine Rg_run rfl (o_assignh (v := .bool _) rfl) ?_
      refine Rg_nil ?_
      refine W_ret ?_
      refine ⟨_, res_tmp rfl rfl, ?_⟩
      refine ⟨congrArg Value.bool ?_, hX⟩
      all_goals (have h := law_cmp (cut7 s) (cut7 t); simp [hc2] at h ⊢; exact h)
    · skip
      refine W_seq ?_
      refine W_region ?_
      refine Rg_run rfl (o_moveh (v := str _) rfl) ?_
      refine Rg_run rfl (o_moveh (v := str _) rfl) ?_
      refine Rg_enter rfl (o_call2 Tryd.call20 rfl rfl) (Ok.mono (r7less_ok _ _ (by first | exact cut7_len _ | exact make_len7 _ | exact commonP_len _ _ | assumption | omega | (simp; done) | (simp; omega) | (simp at *; omega)) _ (by first | exact cut7_len _ | exact make_len7 _ | exact commonP_len _ _ | assumption | omega | (simp; done) | (simp; omega) | (simp at *; omega))) ?_)
      rintro _ w19 ⟨rfl, x20⟩
      have z21 := Bel.size x20
      replace hX := Bel.ex hX x20
      refine Rg_run rfl (o_assignh (v := .bool _) rfl) ?_
      refine Rg_nil ?_
      refine W_cond rfl (fun hc3 => ?_) (fun hc3 => ?_)
      · skip
        refine W_region ?_
        refine Rg_run rfl o_assignc ?_
        refine Rg_nil ?_
        refine W_seq ?_
        refine W_region ?_
        refine Rg_run rfl (o_moveh (v := str _) rfl) ?_
        refine Rg_run rfl (o_moveh (v := str _) rfl) ?_
        refine Rg_enter rfl (o_call2 Tryd.call21 rfl rfl) (Ok.mono (pcompare_ok (False) _ _ (by first | exact cut7_len _ | exact make_len7 _ | exact commonP_len _ _ | assumption | omega | (simp; done) | (simp; omega) | (simp at *; omega)) (by first | exact cut7_len _ | exact make_len7 _ | exact commonP_len _ _ | assumption | omega | (simp; done) | (simp; omega) | (simp at *; omega)) _) ?_)
        rintro _ w22 ⟨rfl, x23⟩
        have z24 := Bel.size x23
        replace hX := Bel.ex hX x23
        refine Rg_run rfl (o_moveh (v := .int _ _) rfl) ?_
        refine Rg_run rfl (o_eql rfl rfl) ?_
        refine Rg_run rfl (o_moveh (v := .bool _) rfl) ?_
        refine Rg_may 5 25 rfl rfl rfl (fun hg => (o_moveh (v := str _) rfl)) ?_
        refine Rg_may 5 25 rfl rfl rfl (fun hg => (o_moveh (v := str _) rfl)) ?_
        refine Rg_mayCall 5 25 rfl rfl rfl (fun hg => ⟨(o_call2 Tryd.call21 (gsel (u := undef) hg) (gsel (u := undef) hg)), pcompare_ok (False) _ _ (by first | exact cut7_len _ | exact make_len7 _ | exact commonP_len _ _ | assumption | omega | (simp; done) | (simp; omega) | (simp at *; omega)) (by first | exact cut7_len _ | exact make_len7 _ | exact commonP_len _ _ | assumption | omega | (simp; done) | (simp; omega) | (simp at *; omega)) _⟩) ?_
        intro w25 x26
        have z27 := Bel.size x26
        replace hX := Bel.ex hX x26
        refine Rg_may 5 25 rfl rfl rfl (fun hg => (o_moveh (v := .int _ _) rfl)) ?_
        refine Rg_may 5 25 rfl rfl rfl (fun hg => (o_neg (gsel (u := undef) hg) (by unfold I64; decide))) ?_
        refine Rg_may 5 25 rfl rfl rfl (fun hg => (o_eql (gsel (u := undef) hg) (gsel (u := undef) hg))) ?_
        refine Rg_run rfl (o_and (u := undef) rfl rfl) ?_
        refine Rg_run rfl (o_assignh (v := .bool _) rfl) ?_
        refine Rg_nil ?_
        refine W_ret ?_
        refine ⟨_, res_tmp rfl rfl, ?_⟩
        refine ⟨congrArg Value.bool ?_, hX⟩
        all_goals (have h := law_cmp (cut7 s) (cut7 t); simp [hc2, hc3] at h ⊢; exact h)
      · skip
        refine W_skip ?_
        refine W_seq ?_
        refine W_region ?_
        refine Rg_run rfl (o_moveh (v := str _) rfl) ?_
        refine Rg_run rfl (o_moveh (v := str _) rfl) ?_
        refine Rg_enter rfl (o_call2 Tryd.call21 rfl rfl) (Ok.mono (pcompare_ok (False) _ _ (by first | exact cut7_len _ | exact make_len7 _ | exact commonP_len _ _ | assumption | omega | (simp; done) | (simp; omega) | (simp at *; omega)) (by first | exact cut7_len _ | exact make_len7 _ | exact commonP_len _ _ | assumption | omega | (simp; done) | (simp; omega) | (simp at *; omega)) _) ?_)
        rintro _ w28 ⟨rfl, x29⟩
        have z30 := Bel.size x29
        replace hX := Bel.ex hX x29
        refine Rg_run rfl (o_moveh (v := .int _ _) rfl) ?_
        refine Rg_run rfl (o_eql rfl rfl) ?_
        refine Rg_run rfl (o_moveh (v := .bool _) rfl) ?_
        refine Rg_may 5 25 rfl rfl rfl (fun hg => (o_moveh (v := str _) rfl)) ?_
        refine Rg_may 5 25 rfl rfl rfl (fun hg => (o_moveh (v := str _) rfl)) ?_
        refine Rg_mayCall 5 25 rfl rfl rfl (fun hg => ⟨(o_call2 Tryd.call21 (gsel (u := undef) hg) (gsel (u := undef) hg)), pcompare_ok (False) _ _ (by first | exact cut7_len _ | exact make_len7 _ | exact commonP_len _ _ | assumption | omega | (simp; done) | (simp; omega) | (simp at *; omega)) (by first | exact cut7_len _ | exact make_len7 _ | exact commonP_len _ _ | assumption | omega | (simp; done) | (simp; omega) | (simp at *; omega)) _⟩) ?_
        intro w31 x32
        have z33 := Bel.size x32
        replace hX := Bel.ex hX x32
        refine Rg_may 5 25 rfl rfl rfl (fun hg => (o_moveh (v := .int _ _) rfl)) ?_
        refine Rg_may 5 25 rfl rfl rfl (fun hg => (o_neg (gsel (u := undef) hg) (by unfold I64; decide))) ?_
        refine Rg_may 5 25 rfl rfl rfl (fun hg => (o_eql (gsel (u := undef) hg) (gsel (u := undef) hg))) ?_
        refine Rg_run rfl (o_and (u := undef) rfl rfl) ?_
        refine Rg_run rfl (o_assignh (v := .bool _) rfl) ?_
        refine Rg_nil ?_
        refine W_ret ?_
        refine ⟨_, res_tmp rfl rfl, ?_⟩
        refine ⟨congrArg Value.bool ?_, hX⟩
        all_goals (have h := law_cmp (cut7 s) (cut7 t); simp [hc2, hc3] at h ⊢; exact h)

theorem law_PathTells (w : World) (s : Str) : Ok Tryd.prog 6 #[str s] w fun v w' => v = .bool (true) ∧ Ext False w w' := by
  refine Ok_of_W 65 Tryd.func6 rfl rfl rfl ?_
  have hX : Ext False w w := Bel.refl _ _
  refine W_seq ?_
  refine W_region ?_
  refine Rg_run rfl o_assignc ?_
  refine Rg_nil ?_
  refine W_seq ?_
  refine W_seq ?_
  refine W_region ?_
  refine Rg_enter rfl (o_call0 Tryd.call13) (Ok.mono (awake_ok _) ?_)
  rintro _ w1 ⟨rfl, x2⟩
  have z3 := Bel.size x2
  replace hX := Bel.ex hX x2
  refine Rg_run rfl (o_not rfl) ?_
  refine Rg_nil ?_
  refine W_cond rfl (fun hc1 => ?_) (fun hc1 => ?_)
  · skip
    refine W_seq ?_
    refine W_region ?_
    refine Rg_run rfl o_assignc ?_
    refine Rg_nil ?_
    refine W_ret ?_
    refine ⟨_, res_tmp rfl rfl, ?_⟩
    refine ⟨congrArg Value.bool ?_, hX⟩
    all_goals (first | (cases hc1; done) | (simp; done) | (have hp := law_tell1 hc2 hc3; simp_all [depthS]; done) | (have hp := law_tell2 hc2 hc3; simp_all [depthS]; done) | (have hp := law_tell3 hc2; simp_all [depthS]; done) | (simp_all; done))
  · skip
    refine W_skip ?_
    refine W_seq ?_
    refine W_region ?_
    refine Rg_run rfl (o_moveh (v := str _) rfl) ?_
    refine Rg_enter rfl (o_call1 Tryd.call14 rfl) (Ok.mono (cut7_ok (False) _ _) ?_)
    rintro _ w4 ⟨rfl, x5⟩
    have z6 := Bel.size x5
    replace hX := Bel.ex hX x5
    refine Rg_run rfl (o_assignh (v := str _) rfl) ?_
    refine Rg_nil ?_
    refine W_seq ?_
    refine W_region ?_
    refine Rg_run rfl (o_moveh (v := str _) rfl) ?_
    refine Rg_enter rfl (o_call1 Tryd.call23 rfl) (Ok.mono (r7names_ok _ _ (cut7_len _)) ?_)
    rintro _ w7 ⟨⟨a14, c14, rfl, hs14⟩, x8⟩
    have z9 := Bel.size x8
    replace hX := Bel.ex hX x8
    refine Rg_run rfl o_assignc ?_
    refine Rg_run rfl (o_assignh (v := .slice _ _ _) rfl) ?_
    refine Rg_nil ?_
    refine W_seq ?_
    refine W_region ?_
    refine Rg_run rfl o_assignc ?_
    refine Rg_run rfl o_assignc ?_
    refine Rg_nil ?_
    refine W_seq ?_
    refine W_seq ?_
    refine W_region ?_
    refine Rg_run rfl (o_moveh (v := str _) rfl) ?_
    refine Rg_enter rfl (o_call1 Tryd.call19 rfl) (Ok.mono (r7valid_ok _ _ (by first | exact cut7_len _ | exact make_len7 _ | exact commonP_len _ _ | assumption | omega | (simp; done) | (simp; omega) | (simp at *; omega))) ?_)
    rintro _ w10 ⟨rfl, x11⟩
    have z12 := Bel.size x11
    replace hX := Bel.ex hX x11
    replace hs14 := hs14.ext x11
    refine Rg_nil ?_
    refine W_cond rfl (fun hc2 => ?_) (fun hc2 => ?_)
    · skip
      refine W_seq ?_
      refine W_region ?_
      refine Rg_run rfl (o_moveh (v := .slice _ _ _) rfl) ?_
      refine Rg_run rfl (o_llen Tryd.underlying35 rfl) ?_
      refine Rg_run rfl (o_assignh (v := .int _ _) rfl) ?_
      refine Rg_nil ?_
      refine W_seq ?_
      refine W_region ?_
      refine Rg_run rfl (o_moveh (v := .int _ _) rfl) ?_
      refine Rg_run rfl (o_gtr rfl rfl) ?_
      refine Rg_nil ?_
      refine W_cond rfl (fun hc3 => ?_) (fun hc3 => ?_)
      · skip
        replace hc3 := of_decide_eq_true hc3
        refine W_region ?_
        refine Rg_run rfl (o_moveh (v := .slice _ _ _) rfl) ?_
        refine Rg_run rfl (o_moveh (v := .int _ _) rfl) ?_
        refine Rg_run rfl (o_sub rfl rfl (by have := splitL_len (cut7 s); unfold I64; omega)) ?_
        refine Rg_run rfl (o_slto (j := (splitL (cut7 s)).length - 1) Tryd.underlying35 Tryd.sizeOf9 rfl (congrArg (Value.int .i64) (by omega)) (by have := hs14.le; omega)) ?_
        refine Rg_enter rfl (o_call1 Tryd.call24 rfl) (Ok.mono (r7ofK_ok _ _ (cut7 s) _ _ hs14 (by omega)) ?_)
        rintro _ w13 ⟨rfl, x14⟩
        have z15 := Bel.size x14
        replace hX := Bel.ex hX x14
        replace hs14 := hs14.ext x14
        refine Rg_run rfl (o_assignh (v := str _) rfl) ?_
        refine Rg_run rfl o_assignc ?_
        refine Rg_nil ?_
        refine W_seq ?_
        refine W_region ?_
        refine Rg_run rfl (o_moveh (v := str _) rfl) ?_
        refine Rg_enter rfl (o_call1 Tryd.call25 rfl) (Ok.mono (pparent_ok _ _ (by first | exact cut7_len _ | exact make_len7 _ | exact commonP_len _ _ | assumption | omega | (simp; done) | (simp; omega) | (simp at *; omega))) ?_)
        rintro _ w16 ⟨rfl, x17⟩
        have z18 := Bel.size x17
        replace hX := Bel.ex hX x17
        replace hs14 := hs14.ext x17
        refine Rg_run rfl (o_moveh (v := .tuple _) rfl) ?_
        refine Rg_run rfl (o_extract rfl rfl) ?_
        refine Rg_run rfl (o_extract rfl rfl) ?_
        refine Rg_run rfl (o_assignh (v := str _) rfl) ?_
        refine Rg_run rfl (o_assignh (v := .bool _) rfl) ?_
        refine Rg_nil ?_
        refine W_seq ?_
        refine W_region ?_
        refine Rg_run rfl (o_moveh (v := str _) rfl) ?_
        refine Rg_enter rfl (o_call1 Tryd.call26 rfl) (Ok.mono (pvalid_ok (False) _ (by first | exact cut7_len _ | exact make_len7 _ | exact commonP_len _ _ | assumption | omega | (simp; done) | (simp; omega) | (simp at *; omega)) _) ?_)
        rintro _ w19 ⟨rfl, x20⟩
        have z21 := Bel.size x20
        replace hX := Bel.ex hX x20
        replace hs14 := hs14.ext x20
        refine Rg_run rfl (o_moveh (v := str _) rfl) ?_
        refine Rg_enter rfl (o_call1 Tryd.call19 rfl) (Ok.mono (r7valid_ok _ _ (by first | exact cut7_len _ | exact make_len7 _ | exact commonP_len _ _ | assumption | omega | (simp; done) | (simp; omega) | (simp at *; omega))) ?_)
        rintro _ w22 ⟨rfl, x23⟩
        have z24 := Bel.size x23
        replace hX := Bel.ex hX x23
        replace hs14 := hs14.ext x23
        refine Rg_run rfl (o_beql Tryd.underlying4 rfl rfl) ?_
        refine Rg_run rfl (o_moveh (v := .bool _) rfl) ?_
        refine Rg_may 5 36 rfl rfl rfl (fun hg => (o_moveh (v := str _) rfl)) ?_
        refine Rg_split 36 rfl (fun hs25 => ?_) (fun hs25 => ?_)
        · skip
          refine Rg_on 5 36 rfl (congrArg Value.bool hs25) ?_
          refine Rg_enter rfl (o_call1 Tryd.call28 (gsel (u := undef) (by rw [hs25]; rfl))) (Ok.mono (pnames_ok _ _ (cut7_len _)) ?_)
          rintro _ w26 ⟨⟨a38, c38, rfl, hs38⟩, x27⟩
          have z28 := Bel.size x27
          replace hX := Bel.ex hX x27
          replace hs14 := hs14.ext x27
          refine Rg_on 5 36 rfl (congrArg Value.bool hs25) ?_
          refine Rg_run rfl (o_moveh (v := .slice _ _ _) rfl) ?_
          refine Rg_on 5 36 rfl (congrArg Value.bool hs25) ?_
          refine Rg_enter rfl (o_call2 Tryd.call27 rfl rfl) (Ok.mono (sequal_ok (False) _ _ _ _ _ _ (splitL (cut7 s)) (splitL (cut7 s)) _ hs38 hs14) ?_)
          rintro _ w29 ⟨rfl, x30⟩
          have z31 := Bel.size x30
          replace hX := Bel.ex hX x30
          replace hs14 := hs14.ext x30
          replace hs38 := hs38.ext x30
          refine Rg_run rfl (o_pickT (v := .bool _) (congrArg Value.bool hs25) rfl) ?_
          refine Rg_run rfl (o_moveh (v := .bool _) rfl) ?_
          refine Rg_may 11 42 rfl rfl rfl (fun hg => (o_moveh (v := str _) rfl)) ?_
          refine Rg_mayCall 11 42 rfl rfl rfl (fun hg => ⟨(o_call1 Tryd.call29 (gsel (u := undef) hg)), depth_ok (False) _ (by first | exact cut7_len _ | exact make_len7 _ | exact commonP_len _ _ | assumption | omega | (simp; done) | (simp; omega) | (simp at *; omega)) _⟩) ?_
          intro w32 x33
          have z34 := Bel.size x33
          replace hX := Bel.ex hX x33
          replace hs14 := hs14.ext x33
          replace hs38 := hs38.ext x33
          refine Rg_may 11 42 rfl rfl rfl (fun hg => (o_moveh (v := .int _ _) rfl)) ?_
          refine Rg_may 11 42 rfl rfl rfl (fun hg => (o_eql (gsel (u := undef) hg) (gsel (u := undef) hg))) ?_
          refine Rg_run rfl (o_and (u := undef) rfl rfl) ?_
          refine Rg_run rfl (o_moveh (v := .bool _) rfl) ?_
          refine Rg_may 17 48 rfl rfl rfl (fun hg => (o_moveh (v := str _) rfl)) ?_
          refine Rg_may 17 48 rfl rfl rfl (fun hg => (o_moveh (v := str _) rfl)) ?_
          refine Rg_may 17 48 rfl rfl rfl (fun hg => (o_seql (gsel (u := undef) hg) (gsel (u := undef) hg))) ?_
          refine Rg_run rfl (o_and (u := undef) rfl rfl) ?_
          refine Rg_run rfl (o_moveh (v := .bool _) rfl) ?_
          refine Rg_may 22 53 rfl rfl rfl (fun hg => (o_moveh (v := .bool _) rfl)) ?_
          refine Rg_may 22 53 rfl rfl rfl (fun hg => (o_moveh (v := .bool _) rfl)) ?_
          refine Rg_may 22 53 rfl rfl rfl (fun hg => (o_beql Tryd.underlying4 (gsel (u := undef) hg) (gsel (u := undef) hg))) ?_
          refine Rg_run rfl (o_and (u := undef) rfl rfl) ?_
          refine Rg_run rfl (o_moveh (v := .bool _) rfl) ?_
          refine Rg_may 27 58 rfl rfl rfl (fun hg => (o_moveh (v := str _) rfl)) ?_
          refine Rg_split 58 rfl (fun hs35 => ?_) (fun hs35 => ?_)
          · skip
            refine Rg_on 27 58 rfl (congrArg Value.bool hs35) ?_
            refine Rg_enter rfl (o_call1 Tryd.call30 (gsel (u := undef) (by rw [hs35]; rfl))) (Ok.mono (panc_ok _ _ (cut7_len _)) ?_)
            rintro v60 w36 ⟨hown60, x37⟩
            have z38 := Bel.size x37
            replace hX := Bel.ex hX x37
            replace hs14 := hs14.ext x37
            replace hs38 := hs38.ext x37
            obtain ⟨a60, c60, hv60, hs60⟩ := hown60.sl encS_ok; subst hv60
            refine Rg_on 27 58 rfl (congrArg Value.bool hs35) ?_
            refine Rg_run rfl (o_moveh (v := str _) rfl) ?_
            refine Rg_on 27 58 rfl (congrArg Value.bool hs35) ?_
            refine Rg_enter rfl (o_call1 Tryd.call31 rfl) (Ok.mono (r7anc_ok _ _ (cut7_len _)) ?_)
            rintro v62 w39 ⟨hown62, x40⟩
            have z41 := Bel.size x40
            replace hX := Bel.ex hX x40
            replace hs14 := hs14.ext x40
            replace hs38 := hs38.ext x40
            replace hs60 := hs60.ext x40
            obtain ⟨a62, c62, hv62, hs62⟩ := hown62.sl encS_ok; subst hv62
            refine Rg_on 27 58 rfl (congrArg Value.bool hs35) ?_
            refine Rg_enter rfl (o_call2 Tryd.call27 rfl rfl) (Ok.mono (sequal_ok (False) _ _ _ _ _ _ (ancS (cut7 s)) (ancS (cut7 s)) _ hs60 hs62) ?_)
            rintro _ w42 ⟨rfl, x43⟩
            have z44 := Bel.size x43
            replace hX := Bel.ex hX x43
            replace hs14 := hs14.ext x43
            replace hs38 := hs38.ext x43
            replace hs60 := hs60.ext x43
            replace hs62 := hs62.ext x43
            refine Rg_run rfl (o_pickT (v := .bool _) (congrArg Value.bool hs35) rfl) ?_
            refine Rg_run rfl (o_assignh (v := .bool _) rfl) ?_
            refine Rg_nil ?_
            refine W_ret ?_
            refine ⟨_, res_tmp rfl rfl, ?_⟩
            refine ⟨congrArg Value.bool ?_, hX⟩
            all_goals (first | (cases hc1; done) | (simp; done) | (have hp := law_tell1 hc2 hc3; simp_all [depthS]; done) | (have hp := law_tell2 hc2 hc3; simp_all [depthS]; done) | (have hp := law_tell3 hc2; simp_all [depthS]; done) | (simp_all; done))
          · skip
            refine Rg_off 27 58 rfl rfl (congrArg Value.bool hs35) rfl rfl ?_
            refine Rg_off 27 58 rfl rfl (congrArg Value.bool hs35) rfl rfl ?_
            refine Rg_off 27 58 rfl rfl (congrArg Value.bool hs35) rfl rfl ?_
            refine Rg_off 27 58 rfl rfl (congrArg Value.bool hs35) rfl rfl ?_
            refine Rg_run rfl (o_pickF (v := .bool _) (congrArg Value.bool hs35) rfl) ?_
            refine Rg_run rfl (o_assignh (v := .bool _) rfl) ?_
            refine Rg_nil ?_
            refine W_ret ?_
            refine ⟨_, res_tmp rfl rfl, ?_⟩
            refine ⟨congrArg Value.bool ?_, hX⟩
            all_goals (first | (cases hc1; done) | (simp; done) | (have hp := law_tell1 hc2 hc3; simp_all [depthS]; done) | (have hp := law_tell2 hc2 hc3; simp_all [depthS]; done) | (have hp := law_tell3 hc2; simp_all [depthS]; done) | (simp_all; done))
        · skip
          refine Rg_off 5 36 rfl rfl (congrArg Value.bool hs25) rfl rfl ?_
          refine Rg_off 5 36 rfl rfl (congrArg Value.bool hs25) rfl rfl ?_
          refine Rg_off 5 36 rfl rfl (congrArg Value.bool hs25) rfl rfl ?_
          refine Rg_run rfl (o_pickF (v := .bool _) (congrArg Value.bool hs25) rfl) ?_
          refine Rg_run rfl (o_moveh (v := .bool _) rfl) ?_
          refine Rg_off 11 42 rfl rfl rfl rfl rfl ?_
          refine Rg_off 11 42 rfl rfl rfl rfl rfl ?_
          refine Rg_off 11 42 rfl rfl rfl rfl rfl ?_
          refine Rg_off 11 42 rfl rfl rfl rfl rfl ?_
          refine Rg_run rfl (o_pickF (v := .bool _) rfl rfl) ?_
          refine Rg_run rfl (o_moveh (v := .bool _) rfl) ?_
          refine Rg_off 17 48 rfl rfl rfl rfl rfl ?_
          refine Rg_off 17 48 rfl rfl rfl rfl rfl ?_
          refine Rg_off 17 48 rfl rfl rfl rfl rfl ?_
          refine Rg_run rfl (o_pickF (v := .bool _) rfl rfl) ?_
          refine Rg_run rfl (o_moveh (v := .bool _) rfl) ?_
          refine Rg_off 22 53 rfl rfl rfl rfl rfl ?_
          refine Rg_off 22 53 rfl rfl rfl rfl rfl ?_
          refine Rg_off 22 53 rfl rfl rfl rfl rfl ?_
          refine Rg_run rfl (o_pickF (v := .bool _) rfl rfl) ?_
          refine Rg_run rfl (o_moveh (v := .bool _) rfl) ?_
          refine Rg_off 27 58 rfl rfl rfl rfl rfl ?_
          refine Rg_off 27 58 rfl rfl rfl rfl rfl ?_
          refine Rg_off 27 58 rfl rfl rfl rfl rfl ?_
          refine Rg_off 27 58 rfl rfl rfl rfl rfl ?_
          refine Rg_off 27 58 rfl rfl rfl rfl rfl ?_
          refine Rg_run rfl (o_pickF (v := .bool _) rfl rfl) ?_
          refine Rg_run rfl (o_assignh (v := .bool _) rfl) ?_
          refine Rg_nil ?_
          refine W_ret ?_
          refine ⟨_, res_tmp rfl rfl, ?_⟩
          refine ⟨congrArg Value.bool ?_, hX⟩
          all_goals (first | (cases hc1; done) | (simp; done) | (have hp := law_tell1 hc2 hc3; simp_all [depthS]; done) | (have hp := law_tell2 hc2 hc3; simp_all [depthS]; done) | (have hp := law_tell3 hc2; simp_all [depthS]; done) | (simp_all; done))
      · skip
        replace hc3 := of_decide_eq_false hc3
        refine W_skip ?_
        refine W_seq ?_
        refine W_region ?_
        refine Rg_run rfl (o_moveh (v := str _) rfl) ?_
        refine Rg_enter rfl (o_call1 Tryd.call25 rfl) (Ok.mono (pparent_ok _ _ (by first | exact cut7_len _ | exact make_len7 _ | exact commonP_len _ _ | assumption | omega | (simp; done) | (simp; omega) | (simp at *; omega))) ?_)
        rintro _ w45 ⟨rfl, x46⟩
        have z47 := Bel.size x46
        replace hX := Bel.ex hX x46
        replace hs14 := hs14.ext x46
        refine Rg_run rfl (o_moveh (v := .tuple _) rfl) ?_
        refine Rg_run rfl (o_extract rfl rfl) ?_
        refine Rg_run rfl (o_extract rfl rfl) ?_
        refine Rg_run rfl (o_assignh (v := str _) rfl) ?_
        refine Rg_run rfl (o_assignh (v := .bool _) rfl) ?_
        refine Rg_nil ?_
        refine W_seq ?_
        refine W_region ?_
        refine Rg_run rfl (o_moveh (v := str _) rfl) ?_
        refine Rg_enter rfl (o_call1 Tryd.call26 rfl) (Ok.mono (pvalid_ok (False) _ (by first | exact cut7_len _ | exact make_len7 _ | exact commonP_len _ _ | assumption | omega | (simp; done) | (simp; omega) | (simp at *; omega)) _) ?_)
        rintro _ w48 ⟨rfl, x49⟩
        have z50 := Bel.size x49
        replace hX := Bel.ex hX x49
        replace hs14 := hs14.ext x49
        refine Rg_run rfl (o_moveh (v := str _) rfl) ?_
        refine Rg_enter rfl (o_call1 Tryd.call19 rfl) (Ok.mono (r7valid_ok _ _ (by first | exact cut7_len _ | exact make_len7 _ | exact commonP_len _ _ | assumption | omega | (simp; done) | (simp; omega) | (simp at *; omega))) ?_)
        rintro _ w51 ⟨rfl, x52⟩
        have z53 := Bel.size x52
        replace hX := Bel.ex hX x52
        replace hs14 := hs14.ext x52
        refine Rg_run rfl (o_beql Tryd.underlying4 rfl rfl) ?_
        refine Rg_run rfl (o_moveh (v := .bool _) rfl) ?_
        refine Rg_may 5 36 rfl rfl rfl (fun hg => (o_moveh (v := str _) rfl)) ?_
        refine Rg_split 36 rfl (fun hs54 => ?_) (fun hs54 => ?_)
        · skip
          refine Rg_on 5 36 rfl (congrArg Value.bool hs54) ?_
          refine Rg_enter rfl (o_call1 Tryd.call28 (gsel (u := undef) (by rw [hs54]; rfl))) (Ok.mono (pnames_ok _ _ (cut7_len _)) ?_)
          rintro _ w55 ⟨⟨a38, c38, rfl, hs38⟩, x56⟩
          have z57 := Bel.size x56
          replace hX := Bel.ex hX x56
          replace hs14 := hs14.ext x56
          refine Rg_on 5 36 rfl (congrArg Value.bool hs54) ?_
          refine Rg_run rfl (o_moveh (v := .slice _ _ _) rfl) ?_
          refine Rg_on 5 36 rfl (congrArg Value.bool hs54) ?_
          refine Rg_enter rfl (o_call2 Tryd.call27 rfl rfl) (Ok.mono (sequal_ok (False) _ _ _ _ _ _ (splitL (cut7 s)) (splitL (cut7 s)) _ hs38 hs14) ?_)
          rintro _ w58 ⟨rfl, x59⟩
          have z60 := Bel.size x59
          replace hX := Bel.ex hX x59
          replace hs14 := hs14.ext x59
          replace hs38 := hs38.ext x59
          refine Rg_run rfl (o_pickT (v := .bool _) (congrArg Value.bool hs54) rfl) ?_
          refine Rg_run rfl (o_moveh (v := .bool _) rfl) ?_
          refine Rg_may 11 42 rfl rfl rfl (fun hg => (o_moveh (v := str _) rfl)) ?_
          refine Rg_mayCall 11 42 rfl rfl rfl (fun hg => ⟨(o_call1 Tryd.call29 (gsel (u := undef) hg)), depth_ok (False) _ (by first | exact cut7_len _ | exact make_len7 _ | exact commonP_len _ _ | assumption | omega | (simp; done) | (simp; omega) | (simp at *; omega)) _⟩) ?_
          intro w61 x62
          have z63 := Bel.size x62
          replace hX := Bel.ex hX x62
          replace hs14 := hs14.ext x62
          replace hs38 := hs38.ext x62
          refine Rg_may 11 42 rfl rfl rfl (fun hg => (o_moveh (v := .int _ _) rfl)) ?_
          refine Rg_may 11 42 rfl rfl rfl (fun hg => (o_eql (gsel (u := undef) hg) (gsel (u := undef) hg))) ?_
          refine Rg_run rfl (o_and (u := undef) rfl rfl) ?_
          refine Rg_run rfl (o_moveh (v := .bool _) rfl) ?_
          refine Rg_may 17 48 rfl rfl rfl (fun hg => (o_moveh (v := str _) rfl)) ?_
          refine Rg_may 17 48 rfl rfl rfl (fun hg => (o_moveh (v := str _) rfl)) ?_
          refine Rg_may 17 48 rfl rfl rfl (fun hg => (o_seql (gsel (u := undef) hg) (gsel (u := undef) hg))) ?_
          refine Rg_run rfl (o_and (u := undef) rfl rfl) ?_
          refine Rg_run rfl (o_moveh (v := .bool _) rfl) ?_
          refine Rg_may 22 53 rfl rfl rfl (fun hg => (o_moveh (v := .bool _) rfl)) ?_
          refine Rg_may 22 53 rfl rfl rfl (fun hg => (o_moveh (v := .bool _) rfl)) ?_
          refine Rg_may 22 53 rfl rfl rfl (fun hg => (o_beql Tryd.underlying4 (gsel (u := undef) hg) (gsel (u := undef) hg))) ?_
          refine Rg_run rfl (o_and (u := undef) rfl rfl) ?_
          refine Rg_run rfl (o_moveh (v := .bool _) rfl) ?_
          refine Rg_may 27 58 rfl rfl rfl (fun hg => (o_moveh (v := str _) rfl)) ?_
          refine Rg_split 58 rfl (fun hs64 => ?_) (fun hs64 => ?_)
          · skip
            refine Rg_on 27 58 rfl (congrArg Value.bool hs64) ?_
            refine Rg_enter rfl (o_call1 Tryd.call30 (gsel (u := undef) (by rw [hs64]; rfl))) (Ok.mono (panc_ok _ _ (cut7_len _)) ?_)
            rintro v60 w65 ⟨hown60, x66⟩
            have z67 := Bel.size x66
            replace hX := Bel.ex hX x66
            replace hs14 := hs14.ext x66
            replace hs38 := hs38.ext x66
            obtain ⟨a60, c60, hv60, hs60⟩ := hown60.sl encS_ok; subst hv60
            refine Rg_on 27 58 rfl (congrArg Value.bool hs64) ?_
            refine Rg_run rfl (o_moveh (v := str _) rfl) ?_
            refine Rg_on 27 58 rfl (congrArg Value.bool hs64) ?_
            refine Rg_enter rfl (o_call1 Tryd.call31 rfl) (Ok.mono (r7anc_ok _ _ (cut7_len _)) ?_)
            rintro v62 w68 ⟨hown62, x69⟩
            have z70 := Bel.size x69
            replace hX := Bel.ex hX x69
            replace hs14 := hs14.ext x69
            replace hs38 := hs38.ext x69
            replace hs60 := hs60.ext x69
            obtain ⟨a62, c62, hv62, hs62⟩ := hown62.sl encS_ok; subst hv62
            refine Rg_on 27 58 rfl (congrArg Value.bool hs64) ?_
            refine Rg_enter rfl (o_call2 Tryd.call27 rfl rfl) (Ok.mono (sequal_ok (False) _ _ _ _ _ _ (ancS (cut7 s)) (ancS (cut7 s)) _ hs60 hs62) ?_)
            rintro _ w71 ⟨rfl, x72⟩
            have z73 := Bel.size x72
            replace hX := Bel.ex hX x72
            replace hs14 := hs14.ext x72
            replace hs38 := hs38.ext x72
            replace hs60 := hs60.ext x72
            replace hs62 := hs62.ext x72
            refine Rg_run rfl (o_pickT (v := .bool _) (congrArg Value.bool hs64) rfl) ?_
            refine Rg_run rfl (o_assignh (v := .bool _) rfl) ?_
            refine Rg_nil ?_
            refine W_ret ?_
            refine ⟨_, res_tmp rfl rfl, ?_⟩
            refine ⟨congrArg Value.bool ?_, hX⟩
            all_goals (first | (cases hc1; done) | (simp; done) | (have hp := law_tell1 hc2 hc3; simp_all [depthS]; done) | (have hp := law_tell2 hc2 hc3; simp_all [depthS]; done) | (have hp := law_tell3 hc2; simp_all [depthS]; done) | (simp_all; done))
          · skip
            refine Rg_off 27 58 rfl rfl (congrArg Value.bool hs64) rfl rfl ?_
            refine Rg_off 27 58 rfl rfl (congrArg Value.bool hs64) rfl rfl ?_
            refine Rg_off 27 58 rfl rfl (congrArg Value.bool hs64) rfl rfl ?_
            refine Rg_off 27 58 rfl rfl (congrArg Value.bool hs64) rfl rfl ?_
            refine Rg_run rfl (o_pickF (v := .bool _) (congrArg Value.bool hs64) rfl) ?_
            refine Rg_run rfl (o_assignh (v := .bool _) rfl) ?_
            refine Rg_nil ?_
            refine W_ret ?_
            refine ⟨_, res_tmp rfl rfl, ?_⟩
            refine ⟨congrArg Value.bool ?_, hX⟩
            all_goals (first | (cases hc1; done) | (simp; done) | (have hp := law_tell1 hc2 hc3; simp_all [depthS]; done) | (have hp := law_tell2 hc2 hc3; simp_all [depthS]; done) | (have hp := law_tell3 hc2; simp_all [depthS]; done) | (simp_all; done))
        · skip
          refine Rg_off 5 36 rfl rfl (congrArg Value.bool hs54) rfl rfl ?_
          refine Rg_off 5 36 rfl rfl (congrArg Value.bool hs54) rfl rfl ?_
          refine Rg_off 5 36 rfl rfl (congrArg Value.bool hs54) rfl rfl ?_
          refine Rg_run rfl (o_pickF (v := .bool _) (congrArg Value.bool hs54) rfl) ?_
          refine Rg_run rfl (o_moveh (v := .bool _) rfl) ?_
          refine Rg_off 11 42 rfl rfl rfl rfl rfl ?_
          refine Rg_off 11 42 rfl rfl rfl rfl rfl ?_
          refine Rg_off 11 42 rfl rfl rfl rfl rfl ?_
          refine Rg_off 11 42 rfl rfl rfl rfl rfl ?_
          refine Rg_run rfl (o_pickF (v := .bool _) rfl rfl) ?_
          refine Rg_run rfl (o_moveh (v := .bool _) rfl) ?_
          refine Rg_off 17 48 rfl rfl rfl rfl rfl ?_
          refine Rg_off 17 48 rfl rfl rfl rfl rfl ?_
          refine Rg_off 17 48 rfl rfl rfl rfl rfl ?_
          refine Rg_run rfl (o_pickF (v := .bool _) rfl rfl) ?_
          refine Rg_run rfl (o_moveh (v := .bool _) rfl) ?_
          refine Rg_off 22 53 rfl rfl rfl rfl rfl ?_
          refine Rg_off 22 53 rfl rfl rfl rfl rfl ?_
          refine Rg_off 22 53 rfl rfl rfl rfl rfl ?_
          refine Rg_run rfl (o_pickF (v := .bool _) rfl rfl) ?_
          refine Rg_run rfl (o_moveh (v := .bool _) rfl) ?_
          refine Rg_off 27 58 rfl rfl rfl rfl rfl ?_
          refine Rg_off 27 58 rfl rfl rfl rfl rfl ?_
          refine Rg_off 27 58 rfl rfl rfl rfl rfl ?_
          refine Rg_off 27 58 rfl rfl rfl rfl rfl ?_
          refine Rg_off 27 58 rfl rfl rfl rfl rfl ?_
          refine Rg_run rfl (o_pickF (v := .bool _) rfl rfl) ?_
          refine Rg_run rfl (o_assignh (v := .bool _) rfl) ?_
          refine Rg_nil ?_
          refine W_ret ?_
          refine ⟨_, res_tmp rfl rfl, ?_⟩
          refine ⟨congrArg Value.bool ?_, hX⟩
          all_goals (first | (cases hc1; done) | (simp; done) | (have hp := law_tell1 hc2 hc3; simp_all [depthS]; done) | (have hp := law_tell2 hc2 hc3; simp_all [depthS]; done) | (have hp := law_tell3 hc2; simp_all [depthS]; done) | (simp_all; done))
    · skip
      refine W_skip ?_
      refine W_seq ?_
      refine W_region ?_
      refine Rg_run rfl (o_moveh (v := str _) rfl) ?_
      refine Rg_enter rfl (o_call1 Tryd.call25 rfl) (Ok.mono (pparent_ok _ _ (by first | exact cut7_len _ | exact make_len7 _ | exact commonP_len _ _ | assumption | omega | (simp; done) | (simp; omega) | (simp at *; omega))) ?_)
      rintro _ w74 ⟨rfl, x75⟩
      have z76 := Bel.size x75
      replace hX := Bel.ex hX x75
      replace hs14 := hs14.ext x75
      refine Rg_run rfl (o_moveh (v := .tuple _) rfl) ?_
      refine Rg_run rfl (o_extract rfl rfl) ?_
      refine Rg_run rfl (o_extract rfl rfl) ?_
      refine Rg_run rfl (o_assignh (v := str _) rfl) ?_
      refine Rg_run rfl (o_assignh (v := .bool _) rfl) ?_
      refine Rg_nil ?_
      refine W_seq ?_
      refine W_region ?_
      refine Rg_run rfl (o_moveh (v := str _) rfl) ?_
      refine Rg_enter rfl (o_call1 Tryd.call26 rfl) (Ok.mono (pvalid_ok (False) _ (by first | exact cut7_len _ | exact make_len7 _ | exact commonP_len _ _ | assumption | omega | (simp; done) | (simp; omega) | (simp at *; omega)) _) ?_)
      rintro _ w77 ⟨rfl, x78⟩
      have z79 := Bel.size x78
      replace hX := Bel.ex hX x78
      replace hs14 := hs14.ext x78
      refine Rg_run rfl (o_moveh (v := str _) rfl) ?_
      refine Rg_enter rfl (o_call1 Tryd.call19 rfl) (Ok.mono (r7valid_ok _ _ (by first | exact cut7_len _ | exact make_len7 _ | exact commonP_len _ _ | assumption | omega | (simp; done) | (simp; omega) | (simp at *; omega))) ?_)
      rintro _ w80 ⟨rfl, x81⟩
      have z82 := Bel.size x81
      replace hX := Bel.ex hX x81
      replace hs14 := hs14.ext x81
      refine Rg_run rfl (o_beql Tryd.underlying4 rfl rfl) ?_
      refine Rg_run rfl (o_moveh (v := .bool _) rfl) ?_
      refine Rg_may 5 36 rfl rfl rfl (fun hg => (o_moveh (v := str _) rfl)) ?_
      refine Rg_split 36 rfl (fun hs83 => ?_) (fun hs83 => ?_)
      · skip
        refine Rg_on 5 36 rfl (congrArg Value.bool hs83) ?_
        refine Rg_enter rfl (o_call1 Tryd.call28 (gsel (u := undef) (by rw [hs83]; rfl))) (Ok.mono (pnames_ok _ _ (cut7_len _)) ?_)
        rintro _ w84 ⟨⟨a38, c38, rfl, hs38⟩, x85⟩
        have z86 := Bel.size x85
        replace hX := Bel.ex hX x85
        replace hs14 := hs14.ext x85
        refine Rg_on 5 36 rfl (congrArg Value.bool hs83) ?_
        refine Rg_run rfl (o_moveh (v := .slice _ _ _) rfl) ?_
        refine Rg_on 5 36 rfl (congrArg Value.bool hs83) ?_
        refine Rg_enter rfl (o_call2 Tryd.call27 rfl rfl) (Ok.mono (sequal_ok (False) _ _ _ _ _ _ (splitL (cut7 s)) (splitL (cut7 s)) _ hs38 hs14) ?_)
        rintro _ w87 ⟨rfl, x88⟩
        have z89 := Bel.size x88
        replace hX := Bel.ex hX x88
        replace hs14 := hs14.ext x88
        replace hs38 := hs38.ext x88
        refine Rg_run rfl (o_pickT (v := .bool _) (congrArg Value.bool hs83) rfl) ?_
        refine Rg_run rfl (o_moveh (v := .bool _) rfl) ?_
        refine Rg_may 11 42 rfl rfl rfl (fun hg => (o_moveh (v := str _) rfl)) ?_
        refine Rg_mayCall 11 42 rfl rfl rfl (fun hg => ⟨(o_call1 Tryd.call29 (gsel (u := undef) hg)), depth_ok (False) _ (by first | exact cut7_len _ | exact make_len7 _ | exact commonP_len _ _ | assumption | omega | (simp; done) | (simp; omega) | (simp at *; omega)) _⟩) ?_
        intro w90 x91
        have z92 := Bel.size x91
        replace hX := Bel.ex hX x91
        replace hs14 := hs14.ext x91
        replace hs38 := hs38.ext x91
        refine Rg_may 11 42 rfl rfl rfl (fun hg => (o_moveh (v := .int _ _) rfl)) ?_
        refine Rg_may 11 42 rfl rfl rfl (fun hg => (o_eql (gsel (u := undef) hg) (gsel (u := undef) hg))) ?_
        refine Rg_run rfl (o_and (u := undef) rfl rfl) ?_
        refine Rg_run rfl (o_moveh (v := .bool _) rfl) ?_
        refine Rg_may 17 48 rfl rfl rfl (fun hg => (o_moveh (v := str _) rfl)) ?_
        refine Rg_may 17 48 rfl rfl rfl (fun hg => (o_moveh (v := str _) rfl)) ?_
        refine Rg_may 17 48 rfl rfl rfl (fun hg => (o_seql (gsel (u := undef) hg) (gsel (u := undef) hg))) ?_
        refine Rg_run rfl (o_and (u := undef) rfl rfl) ?_
        refine Rg_run rfl (o_moveh (v := .bool _) rfl) ?_
        refine Rg_may 22 53 rfl rfl rfl (fun hg => (o_moveh (v := .bool _) rfl)) ?_
        refine Rg_may 22 53 rfl rfl rfl (fun hg => (o_moveh (v := .bool _) rfl)) ?_
        refine Rg_may 22 53 rfl rfl rfl (fun hg => (o_beql Tryd.underlying4 (gsel (u := undef) hg) (gsel (u := undef) hg))) ?_
        refine Rg_run rfl (o_and (u := undef) rfl rfl) ?_
        refine Rg_run rfl (o_moveh (v := .bool _) rfl) ?_
        refine Rg_may 27 58 rfl rfl rfl (fun hg => (o_moveh (v := str _) rfl)) ?_
        refine Rg_split 58 rfl (fun hs93 => ?_) (fun hs93 => ?_)
        · skip
          refine Rg_on 27 58 rfl (congrArg Value.bool hs93) ?_
          refine Rg_enter rfl (o_call1 Tryd.call30 (gsel (u := undef) (by rw [hs93]; rfl))) (Ok.mono (panc_ok _ _ (cut7_len _)) ?_)
          rintro v60 w94 ⟨hown60, x95⟩
          have z96 := Bel.size x95
          replace hX := Bel.ex hX x95
          replace hs14 := hs14.ext x95
          replace hs38 := hs38.ext x95
          obtain ⟨a60, c60, hv60, hs60⟩ := hown60.sl encS_ok; subst hv60
          refine Rg_on 27 58 rfl (congrArg Value.bool hs93) ?_
          refine Rg_run rfl (o_moveh (v := str _) rfl) ?_
          refine Rg_on 27 58 rfl (congrArg Value.bool hs93) ?_
          refine Rg_enter rfl (o_call1 Tryd.call31 rfl) (Ok.mono (r7anc_ok _ _ (cut7_len _)) ?_)
          rintro v62 w97 ⟨hown62, x98⟩
          have z99 := Bel.size x98
          replace hX := Bel.ex hX x98
          replace hs14 := hs14.ext x98
          replace hs38 := hs38.ext x98
          replace hs60 := hs60.ext x98
          obtain ⟨a62, c62, hv62, hs62⟩ := hown62.sl encS_ok; subst hv62
          refine Rg_on 27 58 rfl (congrArg Value.bool hs93) ?_
          refine Rg_enter rfl (o_call2 Tryd.call27 rfl rfl) (Ok.mono (sequal_ok (False) _ _ _ _ _ _ (ancS (cut7 s)) (ancS (cut7 s)) _ hs60 hs62) ?_)
          rintro _ w100 ⟨rfl, x101⟩
          have z102 := Bel.size x101
          replace hX := Bel.ex hX x101
          replace hs14 := hs14.ext x101
          replace hs38 := hs38.ext x101
          replace hs60 := hs60.ext x101
          replace hs62 := hs62.ext x101
          refine Rg_run rfl (o_pickT (v := .bool _) (congrArg Value.bool hs93) rfl) ?_
          refine Rg_run rfl (o_assignh (v := .bool _) rfl) ?_
          refine Rg_nil ?_
          refine W_ret ?_
          refine ⟨_, res_tmp rfl rfl, ?_⟩
          refine ⟨congrArg Value.bool ?_, hX⟩
          all_goals (first | (cases hc1; done) | (simp; done) | (have hp := law_tell1 hc2 hc3; simp_all [depthS]; done) | (have hp := law_tell2 hc2 hc3; simp_all [depthS]; done) | (have hp := law_tell3 hc2; simp_all [depthS]; done) | (simp_all; done))
        · skip
          refine Rg_off 27 58 rfl rfl (congrArg Value.bool hs93) rfl rfl ?_
          refine Rg_off 27 58 rfl rfl (congrArg Value.bool hs93) rfl rfl ?_
          refine Rg_off 27 58 rfl rfl (congrArg Value.bool hs93) rfl rfl ?_
          refine Rg_off 27 58 rfl rfl (congrArg Value.bool hs93) rfl rfl ?_
          refine Rg_run rfl (o_pickF (v := .bool _) (congrArg Value.bool hs93) rfl) ?_
          refine Rg_run rfl (o_assignh (v := .bool _) rfl) ?_
          refine Rg_nil ?_
          refine W_ret ?_
          refine ⟨_, res_tmp rfl rfl, ?_⟩
          refine ⟨congrArg Value.bool ?_, hX⟩
          all_goals (first | (cases hc1; done) | (simp; done) | (have hp := law_tell1 hc2 hc3; simp_all [depthS]; done) | (have hp := law_tell2 hc2 hc3; simp_all [depthS]; done) | (have hp := law_tell3 hc2; simp_all [depthS]; done) | (simp_all; done))
      · skip
        refine Rg_off 5 36 rfl rfl (congrArg Value.bool hs83) rfl rfl ?_
        refine Rg_off 5 36 rfl rfl (congrArg Value.bool hs83) rfl rfl ?_
        refine Rg_off 5 36 rfl rfl (congrArg Value.bool hs83) rfl rfl ?_
        refine Rg_run rfl (o_pickF (v := .bool _) (congrArg Value.bool hs83) rfl) ?_
        refine Rg_run rfl (o_moveh (v := .bool _) rfl) ?_
        refine Rg_off 11 42 rfl rfl rfl rfl rfl ?_
        refine Rg_off 11 42 rfl rfl rfl rfl rfl ?_
        refine Rg_off 11 42 rfl rfl rfl rfl rfl ?_
        refine Rg_off 11 42 rfl rfl rfl rfl rfl ?_
        refine Rg_run rfl (o_pickF (v := .bool _) rfl rfl) ?_
        refine Rg_run rfl (o_moveh (v := .bool _) rfl) ?_
        refine Rg_off 17 48 rfl rfl rfl rfl rfl ?_
        refine Rg_off 17 48 rfl rfl rfl rfl rfl ?_
        refine Rg_off 17 48 rfl rfl rfl rfl rfl ?_
        refine Rg_run rfl (o_pickF (v := .bool _) rfl rfl) ?_
        refine Rg_run rfl (o_moveh (v := .bool _) rfl) ?_
        refine Rg_off 22 53 rfl rfl rfl rfl rfl ?_
        refine Rg_off 22 53 rfl rfl rfl rfl rfl ?_
        refine Rg_off 22 53 rfl rfl rfl rfl rfl ?_
        refine Rg_run rfl (o_pickF (v := .bool _) rfl rfl) ?_
        refine Rg_run rfl (o_moveh (v := .bool _) rfl) ?_
        refine Rg_off 27 58 rfl rfl rfl rfl rfl ?_
        refine Rg_off 27 58 rfl rfl rfl rfl rfl ?_
        refine Rg_off 27 58 rfl rfl rfl rfl rfl ?_
        refine Rg_off 27 58 rfl rfl rfl rfl rfl ?_
        refine Rg_off 27 58 rfl rfl rfl rfl rfl ?_
        refine Rg_run rfl (o_pickF (v := .bool _) rfl rfl) ?_
        refine Rg_run rfl (o_assignh (v := .bool _) rfl) ?_
        refine Rg_nil ?_
        refine W_ret ?_
        refine ⟨_, res_tmp rfl rfl, ?_⟩
        refine ⟨congrArg Value.bool ?_, hX⟩
        all_goals (first | (cases hc1; done) | (simp; done) | (have hp := law_tell1 hc2 hc3; simp_all [depthS]; done) | (have hp := law_tell2 hc2 hc3; simp_all [depthS]; done) | (have hp := law_tell3 hc2; simp_all [depthS]; done) | (simp_all; done))

theorem law_PathNil (w : World) (s : Str) : Ok Tryd.prog 10 #[str s] w fun v w' => v = .bool (true) ∧ Ext False w w' := by
  refine Ok_of_W 78 Tryd.func10 rfl rfl rfl ?_
  have hX : Ext False w w := Bel.refl _ _
  refine W_seq ?_
  refine W_region ?_
  refine Rg_run rfl o_assignc ?_
  refine Rg_nil ?_
  refine W_seq ?_
  refine W_seq ?_
  refine W_region ?_
  refine Rg_enter rfl (o_call0 Tryd.call13) (Ok.mono (awake_ok _) ?_)
  rintro _ w1 ⟨rfl, x2⟩
  have z3 := Bel.size x2
  replace hX := Bel.ex hX x2
  refine Rg_run rfl (o_not rfl) ?_
  refine Rg_nil ?_
  refine W_cond rfl (fun hc1 => ?_) (fun hc1 => ?_)
  · skip
    refine W_seq ?_
    refine W_region ?_
    refine Rg_run rfl o_assignc ?_
    refine Rg_nil ?_
    refine W_ret ?_
    refine ⟨_, res_tmp rfl rfl, ?_⟩
    refine ⟨congrArg Value.bool ?_, hX⟩
    all_goals (cases hc1)
  · skip
    refine W_skip ?_
    refine W_seq ?_
    refine W_region ?_
    refine Rg_run rfl o_assignc ?_
    refine Rg_nil ?_
    refine W_seq ?_
    refine W_region ?_
    refine Rg_run rfl (o_moveh (v := str _) rfl) ?_
    refine Rg_enter rfl (o_call1 Tryd.call14 rfl) (Ok.mono (cut7_ok (False) _ _) ?_)
    rintro _ w4 ⟨rfl, x5⟩
    have z6 := Bel.size x5
    replace hX := Bel.ex hX x5
    refine Rg_run rfl (o_assignh (v := str _) rfl) ?_
    refine Rg_nil ?_
    refine W_seq ?_
    refine W_region ?_
    refine Rg_run rfl (o_moveh (v := .pointer _) rfl) ?_
    refine Rg_run rfl (o_moveh (v := str _) rfl) ?_
    refine Rg_enter rfl (o_call2 Tryd.call43 rfl rfl) (Ok.mono (tadd_nil _ _) ?_)
    rintro _ w7 ⟨rfl, x8⟩
    have z9 := Bel.size x8
    replace hX := Bel.ex hX x8
    refine Rg_run rfl (o_moveh (v := .tuple _) rfl) ?_
    refine Rg_run rfl (o_extract rfl rfl) ?_
    refine Rg_run rfl (o_extract rfl rfl) ?_
    refine Rg_run rfl (o_assignh (v := .pointer _) rfl) ?_
    refine Rg_run rfl (o_assignh (v := .int _ _) rfl) ?_
    refine Rg_nil ?_
    refine W_seq ?_
    refine W_region ?_
    refine Rg_run rfl (o_moveh (v := .pointer _) rfl) ?_
    refine Rg_run rfl (o_moveh (v := str _) rfl) ?_
    refine Rg_enter rfl (o_call2 Tryd.call42 rfl rfl) (Ok.mono (trem_nil _ _) ?_)
    rintro _ w10 ⟨rfl, x11⟩
    have z12 := Bel.size x11
    replace hX := Bel.ex hX x11
    refine Rg_run rfl (o_moveh (v := .tuple _) rfl) ?_
    refine Rg_run rfl (o_extract rfl rfl) ?_
    refine Rg_run rfl (o_extract rfl rfl) ?_
    refine Rg_run rfl (o_assignh (v := .pointer _) rfl) ?_
    refine Rg_run rfl (o_assignh (v := .int _ _) rfl) ?_
    refine Rg_nil ?_
    refine W_seq ?_
    refine W_region ?_
    refine Rg_run rfl (o_moveh (v := .pointer _) rfl) ?_
    refine Rg_run rfl (o_peq Tryd.underlying42 rfl rfl) ?_
    refine Rg_run rfl (o_moveh (v := .bool _) rfl) ?_
    refine Rg_on 2 26 rfl (congrArg Value.bool (by decide)) ?_
    refine Rg_run rfl (o_moveh (v := .pointer _) rfl) ?_
    refine Rg_on 2 26 rfl (congrArg Value.bool (by decide)) ?_
    refine Rg_run rfl (o_peq Tryd.underlying42 rfl rfl) ?_
    refine Rg_run rfl (o_pickT (v := .bool _) (congrArg Value.bool (by decide)) rfl) ?_
    refine Rg_run rfl (o_moveh (v := .bool _) rfl) ?_
    refine Rg_on 6 30 rfl (congrArg Value.bool (by decide)) ?_
    refine Rg_run rfl (o_moveh (v := .int _ _) rfl) ?_
    refine Rg_on 6 30 rfl (congrArg Value.bool (by decide)) ?_
    refine Rg_run rfl (o_eql rfl rfl) ?_
    refine Rg_run rfl (o_pickT (v := .bool _) (congrArg Value.bool (by decide)) rfl) ?_
    refine Rg_run rfl (o_moveh (v := .bool _) rfl) ?_
    refine Rg_on 10 34 rfl (congrArg Value.bool (by decide)) ?_
    refine Rg_run rfl (o_moveh (v := .int _ _) rfl) ?_
    refine Rg_on 10 34 rfl (congrArg Value.bool (by decide)) ?_
    refine Rg_run rfl (o_eql rfl rfl) ?_
    refine Rg_run rfl (o_pickT (v := .bool _) (congrArg Value.bool (by decide)) rfl) ?_
    refine Rg_run rfl (o_moveh (v := .bool _) rfl) ?_
    refine Rg_on 14 38 rfl (congrArg Value.bool (by decide)) ?_
    refine Rg_run rfl (o_moveh (v := .pointer _) rfl) ?_
    refine Rg_on 14 38 rfl (congrArg Value.bool (by decide)) ?_
    refine Rg_run rfl (o_moveh (v := str _) rfl) ?_
    refine Rg_on 14 38 rfl (congrArg Value.bool (by decide)) ?_
    refine Rg_enter rfl (o_call2 Tryd.call36 rfl rfl) (Ok.mono (thas_nil _ _) ?_)
    rintro _ w13 ⟨rfl, x14⟩
    have z15 := Bel.size x14
    replace hX := Bel.ex hX x14
    refine Rg_on 14 38 rfl (congrArg Value.bool (by decide)) ?_
    refine Rg_run rfl (o_not rfl) ?_
    refine Rg_run rfl (o_pickT (v := .bool _) (congrArg Value.bool (by decide)) rfl) ?_
    refine Rg_run rfl (o_moveh (v := .bool _) rfl) ?_
    refine Rg_on 20 44 rfl (congrArg Value.bool (by decide)) ?_
    refine Rg_run rfl (o_moveh (v := .pointer _) rfl) ?_
    refine Rg_on 20 44 rfl (congrArg Value.bool (by decide)) ?_
    refine Rg_run rfl (o_moveh (v := str _) rfl) ?_
    refine Rg_on 20 44 rfl (congrArg Value.bool (by decide)) ?_
    refine Rg_enter rfl (o_call2 Tryd.call38 rfl rfl) (Ok.mono (tchild_nil _ _) ?_)
    rintro _ w16 ⟨rfl, x17⟩
    have z18 := Bel.size x17
    replace hX := Bel.ex hX x17
    refine Rg_on 20 44 rfl (congrArg Value.bool (by decide)) ?_
    refine Rg_run rfl (o_llen Tryd.underlying35 rfl) ?_
    refine Rg_on 20 44 rfl (congrArg Value.bool (by decide)) ?_
    refine Rg_run rfl (o_eql rfl rfl) ?_
    refine Rg_run rfl (o_pickT (v := .bool _) (congrArg Value.bool (by decide)) rfl) ?_
    refine Rg_run rfl (o_moveh (v := .bool _) rfl) ?_
    refine Rg_on 27 51 rfl (congrArg Value.bool (by decide)) ?_
    refine Rg_run rfl (o_moveh (v := .pointer _) rfl) ?_
    refine Rg_on 27 51 rfl (congrArg Value.bool (by decide)) ?_
    refine Rg_run rfl (o_moveh (v := str _) rfl) ?_
    refine Rg_on 27 51 rfl (congrArg Value.bool (by decide)) ?_
    refine Rg_enter rfl (o_call2 Tryd.call34 rfl rfl) (Ok.mono (tbelow_nil _ _) ?_)
    rintro _ w19 ⟨rfl, x20⟩
    have z21 := Bel.size x20
    replace hX := Bel.ex hX x20
    refine Rg_on 27 51 rfl (congrArg Value.bool (by decide)) ?_
    refine Rg_run rfl (o_llen Tryd.underlying35 rfl) ?_
    refine Rg_on 27 51 rfl (congrArg Value.bool (by decide)) ?_
    refine Rg_run rfl (o_eql rfl rfl) ?_
    refine Rg_run rfl (o_pickT (v := .bool _) (congrArg Value.bool (by decide)) rfl) ?_
    refine Rg_run rfl (o_moveh (v := .bool _) rfl) ?_
    refine Rg_on 34 58 rfl (congrArg Value.bool (by decide)) ?_
    refine Rg_run rfl (o_moveh (v := .pointer _) rfl) ?_
    refine Rg_on 34 58 rfl (congrArg Value.bool (by decide)) ?_
    refine Rg_enter rfl (o_call1 Tryd.call33 rfl) (Ok.mono (tlen_nil _) ?_)
    rintro _ w22 ⟨rfl, x23⟩
    have z24 := Bel.size x23
    replace hX := Bel.ex hX x23
    refine Rg_on 34 58 rfl (congrArg Value.bool (by decide)) ?_
    refine Rg_run rfl (o_eql rfl rfl) ?_
    refine Rg_run rfl (o_pickT (v := .bool _) (congrArg Value.bool (by decide)) rfl) ?_
    refine Rg_run rfl (o_moveh (v := .bool _) rfl) ?_
    refine Rg_on 39 63 rfl (congrArg Value.bool (by decide)) ?_
    refine Rg_run rfl (o_moveh (v := .pointer _) rfl) ?_
    refine Rg_on 39 63 rfl (congrArg Value.bool (by decide)) ?_
    refine Rg_enter rfl (o_call2 Tryd.call45 rfl rfl) (Ok.mono (teq_nn _) ?_)
    rintro _ w25 ⟨rfl, x26⟩
    have z27 := Bel.size x26
    replace hX := Bel.ex hX x26
    refine Rg_run rfl (o_pickT (v := .bool _) (congrArg Value.bool (by decide)) rfl) ?_
    refine Rg_run rfl (o_moveh (v := .bool _) rfl) ?_
    refine Rg_on 43 67 rfl (congrArg Value.bool (by decide)) ?_
    refine Rg_run rfl (o_moveh (v := .pointer _) rfl) ?_
    refine Rg_on 43 67 rfl (congrArg Value.bool (by decide)) ?_
    refine Rg_enter rfl (o_call0 Tryd.call46) (Ok.mono (tnew_ok _) ?_)
    rintro _ w28 ⟨tb69, tm69, rfl, hgb69, hlb69, hgm69, hlm69, hne69, hbt69, hmt69, x29⟩
    have z30 := Bel.size x29
    replace hX := Bel.ex hX x29
    refine Rg_on 43 67 rfl (congrArg Value.bool (by decide)) ?_
    refine Rg_enter rfl (o_call2 Tryd.call45 rfl rfl) (Ok.mono (teq_nt _ _) ?_)
    rintro _ w31 ⟨rfl, x32⟩
    have z33 := Bel.size x32
    replace hX := Bel.ex hX x32
    replace hbt69 := hbt69.ext x32
    replace hmt69 := hmt69.ext x32
    refine Rg_on 43 67 rfl (congrArg Value.bool (by decide)) ?_
    refine Rg_run rfl (o_not rfl) ?_
    refine Rg_run rfl (o_pickT (v := .bool _) (congrArg Value.bool (by decide)) rfl) ?_
    refine Rg_run rfl (o_moveh (v := .bool _) rfl) ?_
    refine Rg_on 49 73 rfl (congrArg Value.bool (by decide)) ?_
    refine Rg_enter rfl (o_call0 Tryd.call46) (Ok.mono (tnew_ok _) ?_)
    rintro _ w34 ⟨tb74, tm74, rfl, hgb74, hlb74, hgm74, hlm74, hne74, hbt74, hmt74, x35⟩
    have z36 := Bel.size x35
    replace hX := Bel.ex hX x35
    replace hbt69 := hbt69.ext x35
    replace hmt69 := hmt69.ext x35
    refine Rg_on 49 73 rfl (congrArg Value.bool (by decide)) ?_
    refine Rg_enter rfl (o_call2 Tryd.call45 rfl rfl) (Ok.mono (teq_tn _ _) ?_)
    rintro _ w37 ⟨rfl, x38⟩
    have z39 := Bel.size x38
    replace hX := Bel.ex hX x38
    replace hbt69 := hbt69.ext x38
    replace hmt69 := hmt69.ext x38
    replace hbt74 := hbt74.ext x38
    replace hmt74 := hmt74.ext x38
    refine Rg_on 49 73 rfl (congrArg Value.bool (by decide)) ?_
    refine Rg_run rfl (o_not rfl) ?_
    refine Rg_run rfl (o_pickT (v := .bool _) (congrArg Value.bool (by decide)) rfl) ?_
    refine Rg_run rfl (o_assignh (v := .bool _) rfl) ?_
    refine Rg_nil ?_
    refine W_ret ?_
    refine ⟨_, res_tmp rfl rfl, ?_⟩
    refine ⟨congrArg Value.bool ?_, hX⟩
    all_goals (rfl)

end Go.Proofs.YtnhbdlllkmnpfaaDoor
