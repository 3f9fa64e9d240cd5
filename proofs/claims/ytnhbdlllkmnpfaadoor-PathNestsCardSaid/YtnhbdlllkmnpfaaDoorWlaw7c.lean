/- Walks, printed by program: each theorem says what a function of the translation returns. -/
import Derived.Test.YtnhbdlllkmnpfaaDoorWlaw7b
namespace Go.Proofs.YtnhbdlllkmnpfaaDoor
open Go Go.Lx Go.RowKit
set_option maxRecDepth 100000
set_option linter.unusedVariables false
set_option linter.unusedSimpArgs false
set_option linter.unnecessarySimpa false
theorem law_PathOrders (w : World) (x : Three7) (hx0 : Sl encB 1 (Lt w.heap.size) w x.a0 x.c0 x.l0) (hx1 : Sl encB 1 (Lt w.heap.size) w x.a1 x.c1 x.l1) (hx2 : Sl encB 1 (Lt w.heap.size) w x.a2 x.c2 x.l2) : Ok Tryd.prog 5 #[.agg (enc37 x).toArray] w fun v w' => v = .bool (true) ∧ Ext False w w' := by
  have ha := make_ok7 x.l0; have hb := make_ok7 x.l1; have hc := make_ok7 x.l2; have la := make_len7 x.l0; have lb := make_len7 x.l1; have lc := make_len7 x.l2
  refine Ok_of_W 110 Tryd.func5 rfl rfl rfl ?_
  have hX : Ext False w w := Bel.refl _ _
  refine W_seq ?_
  refine W_region ?_
  refine Rg_newB rfl (o_box (v := .agg _) rfl) ?_
  intro b1 w1 x2 hge1 hb1
  have hlt1 := hb1.lt
  change Box _ _ _ (enc37 _) at hb1
  have z3 := Bel.size x2
  replace hX := Bel.ex hX x2
  replace hx0 := hx0.ext x2
  replace hx1 := hx1.ext x2
  replace hx2 := hx2.ext x2
  refine Rg_run rfl o_assignc ?_
  refine Rg_nil ?_
  refine W_seq ?_
  refine W_seq ?_
  refine W_region ?_
  refine Rg_enter rfl (o_call0 Tryd.call13) (Ok.mono (awake_ok _) ?_)
  rintro _ w4 ⟨rfl, x5⟩
  have z6 := Bel.size x5
  replace hX := Bel.ex hX x5
  replace hx0 := hx0.ext x5
  replace hx1 := hx1.ext x5
  replace hx2 := hx2.ext x5
  replace hb1 := hb1.ext x5
  refine Rg_run rfl (o_not rfl) ?_
  refine Rg_nil ?_
  refine W_cond rfl (fun hc1 => ?_) (fun hc1 => ?_)
  · skip
    refine W_seq ?_
    refine W_region ?_
    refine Rg_run rfl o_assignc ?_
    refine Rg_nil ?_
    refine W_ret ?_
    refine ⟨_, res_tmp rfl rfl, ?_⟩
    refine ⟨congrArg Value.bool ?_, hX⟩
    all_goals (cases hc1)
  · skip
    refine W_skip ?_
    refine W_seq ?_
    apply W_draw (β := False) [peq _, peq _, peq _, peq _, peq _, peq _, peq _, peq _, peq _, peq _, peq _, peq _] 12 mixed (by kernel_rfl) rfl ⟨peq_stable _, peq_stable _, peq_stable _, peq_stable _, peq_stable _, peq_stable _, peq_stable _, peq_stable _, peq_stable _, peq_stable _, peq_stable _, peq_stable _, trivial⟩ ?ob3 ?fin3
    case ob3 =>
      refine OblL_cons (fun w7 x8 => ?_) ?_
      · skip
        have hx0 := hx0.ext x8
        have hx1 := hx1.ext x8
        have hx2 := hx2.ext x8
        have hb1 := hb1.ext x8
        refine bindP_nil ?_
        exact OpS_v rfl (o_iaA (i := 0) Tryd.underlying32 Tryd.sizeOf30 rfl rfl (by decide))
      refine OblL_cons (fun w9 x10 => ?_) ?_
      · skip
        have hx0 := hx0.ext x10
        have hx1 := hx1.ext x10
        have hx2 := hx2.ext x10
        have hb1 := hb1.ext x10
        refine bindP_eq ?_
        refine bindP_nil ?_
        exact OpS_v rfl (o_load1 Tryd.isAgg30 rfl (hb1.at.get 0 rfl))
      refine OblL_cons (fun w11 x12 => ?_) ?_
      · skip
        have hx0 := hx0.ext x12
        have hx1 := hx1.ext x12
        have hx2 := hx2.ext x12
        have hb1 := hb1.ext x12
        refine bindP_eq ?_
        refine bindP_nil ?_
        exact OpS_call rfl (o_call1 Tryd.call22 rfl) (r7make_ok _ _ _ hx0.trd)
      refine OblL_cons (fun w13 x14 => ?_) ?_
      · skip
        have hx0 := hx0.ext x14
        have hx1 := hx1.ext x14
        have hx2 := hx2.ext x14
        have hb1 := hb1.ext x14
        refine bindP_nil ?_
        exact OpS_v rfl (o_iaA (i := 1) Tryd.underlying32 Tryd.sizeOf30 rfl rfl (by decide))
      refine OblL_cons (fun w15 x16 => ?_) ?_
      · skip
        have hx0 := hx0.ext x16
        have hx1 := hx1.ext x16
        have hx2 := hx2.ext x16
        have hb1 := hb1.ext x16
        refine bindP_eq ?_
        refine bindP_nil ?_
        exact OpS_v rfl (o_load1 Tryd.isAgg30 rfl (hb1.at.get 1 rfl))
      refine OblL_cons (fun w17 x18 => ?_) ?_
      · skip
        have hx0 := hx0.ext x18
        have hx1 := hx1.ext x18
        have hx2 := hx2.ext x18
        have hb1 := hb1.ext x18
        refine bindP_eq ?_
        refine bindP_eq ?_
        refine bindP_nil ?_
        exact OpS_call rfl (o_call1 Tryd.call22 rfl) (r7make_ok _ _ _ hx1.trd)
      refine OblL_cons (fun w19 x20 => ?_) ?_
      · skip
        have hx0 := hx0.ext x20
        have hx1 := hx1.ext x20
        have hx2 := hx2.ext x20
        have hb1 := hb1.ext x20
        refine bindP_nil ?_
        exact OpS_v rfl (o_iaA (i := 2) Tryd.underlying32 Tryd.sizeOf30 rfl rfl (by decide))
      refine OblL_cons (fun w21 x22 => ?_) ?_
      · skip
        have hx0 := hx0.ext x22
        have hx1 := hx1.ext x22
        have hx2 := hx2.ext x22
        have hb1 := hb1.ext x22
        refine bindP_eq ?_
        refine bindP_nil ?_
        exact OpS_v rfl (o_load1 Tryd.isAgg30 rfl (hb1.at.get 2 rfl))
      refine OblL_cons (fun w23 x24 => ?_) ?_
      · skip
        have hx0 := hx0.ext x24
        have hx1 := hx1.ext x24
        have hx2 := hx2.ext x24
        have hb1 := hb1.ext x24
        refine bindP_eq ?_
        refine bindP_eq ?_
        refine bindP_nil ?_
        exact OpS_call rfl (o_call1 Tryd.call22 rfl) (r7make_ok _ _ _ hx2.trd)
      refine OblL_cons (fun w25 x26 => ?_) ?_
      · skip
        have hx0 := hx0.ext x26
        have hx1 := hx1.ext x26
        have hx2 := hx2.ext x26
        have hb1 := hb1.ext x26
        refine bindP_eq ?_
        refine bindP_eq ?_
        refine bindP_eq ?_
        refine bindP_eq ?_
        refine bindP_eq ?_
        refine bindP_nil ?_
        exact OpS_v rfl (o_assignh (v := str _) rfl)
      refine OblL_cons (fun w27 x28 => ?_) ?_
      · skip
        have hx0 := hx0.ext x28
        have hx1 := hx1.ext x28
        have hx2 := hx2.ext x28
        have hb1 := hb1.ext x28
        refine bindP_eq ?_
        refine bindP_eq ?_
        refine bindP_eq ?_
        refine bindP_eq ?_
        refine bindP_eq ?_
        refine bindP_eq ?_
        refine bindP_eq ?_
        refine bindP_eq ?_
        refine bindP_eq ?_
        refine bindP_nil ?_
        exact OpS_v rfl (o_assignh (v := str _) rfl)
      refine OblL_cons (fun w29 x30 => ?_) ?_
      · skip
        have hx0 := hx0.ext x30
        have hx1 := hx1.ext x30
        have hx2 := hx2.ext x30
        have hb1 := hb1.ext x30
        refine bindP_eq ?_
        refine bindP_eq ?_
        refine bindP_eq ?_
        refine bindP_eq ?_
        refine bindP_eq ?_
        refine bindP_eq ?_
        refine bindP_eq ?_
        refine bindP_eq ?_
        refine bindP_eq ?_
        refine bindP_eq ?_
        refine bindP_eq ?_
        refine bindP_eq ?_
        refine bindP_eq ?_
        refine bindP_nil ?_
        exact OpS_v rfl (o_assignh (v := str _) rfl)
      exact OblL_nil
    case fin3 =>
      intro w31 x32
      have z33 := Bel.size x32
      replace hX := Bel.ex hX x32
      replace hx0 := hx0.ext x32
      replace hx1 := hx1.ext x32
      replace hx2 := hx2.ext x32
      replace hb1 := hb1.ext x32
      refine bindP_eq ?_
      refine bindP_eq ?_
      refine bindP_eq ?_
      refine bindP_eq ?_
      refine bindP_eq ?_
      refine bindP_eq ?_
      refine bindP_eq ?_
      refine bindP_eq ?_
      refine bindP_eq ?_
      refine bindP_eq ?_
      refine bindP_eq ?_
      refine bindP_eq ?_
      refine bindP_nil ?_
      refine Rg_nil ?_
      refine W_seq ?_
      refine W_seq ?_
      refine W_region ?_
      generalize makeS x.l0 = a at ha la ⊢
      generalize makeS x.l1 = b at hb lb ⊢
      generalize makeS x.l2 = c at hc lc ⊢
      refine Rg_run rfl (o_moveh (v := str _) rfl) ?_
      refine Rg_run rfl (o_moveh (v := str _) rfl) ?_
      refine Rg_enter rfl (o_call2 Tryd.call21 rfl rfl) (Ok.mono (pcompare_ok (False) _ _ (by first | exact cut7_len _ | exact make_len7 _ | exact commonP_len _ _ | assumption | omega | (simp; done) | (simp; omega) | (simp at *; omega)) (by first | exact cut7_len _ | exact make_len7 _ | exact commonP_len _ _ | assumption | omega | (simp; done) | (simp; omega) | (simp at *; omega)) _) ?_)
      rintro _ w34 ⟨rfl, x35⟩
      have z36 := Bel.size x35
      replace hX := Bel.ex hX x35
      replace hx0 := hx0.ext x35
      replace hx1 := hx1.ext x35
      replace hx2 := hx2.ext x35
      replace hb1 := hb1.ext x35
      refine Rg_run rfl (o_leq rfl rfl) ?_
      refine Rg_run rfl (o_moveh (v := .bool _) rfl) ?_
      refine Rg_may 4 23 rfl rfl rfl (fun hg => (o_moveh (v := str _) rfl)) ?_
      refine Rg_may 4 23 rfl rfl rfl (fun hg => (o_moveh (v := str _) rfl)) ?_
      refine Rg_mayCall 4 23 rfl rfl rfl (fun hg => ⟨(o_call2 Tryd.call21 (gsel (u := undef) hg) (gsel (u := undef) hg)), pcompare_ok (False) _ _ (by first | exact cut7_len _ | exact make_len7 _ | exact commonP_len _ _ | assumption | omega | (simp; done) | (simp; omega) | (simp at *; omega)) (by first | exact cut7_len _ | exact make_len7 _ | exact commonP_len _ _ | assumption | omega | (simp; done) | (simp; omega) | (simp at *; omega)) _⟩) ?_
      intro w37 x38
      have z39 := Bel.size x38
      replace hX := Bel.ex hX x38
      replace hx0 := hx0.ext x38
      replace hx1 := hx1.ext x38
      replace hx2 := hx2.ext x38
      replace hb1 := hb1.ext x38
      refine Rg_may 4 23 rfl rfl rfl (fun hg => (o_leq (gsel (u := undef) hg) rfl)) ?_
      refine Rg_run rfl (o_and (u := undef) rfl rfl) ?_
      refine Rg_run rfl (o_moveh (v := .bool _) rfl) ?_
      refine Rg_may 10 29 rfl rfl rfl (fun hg => (o_moveh (v := str _) rfl)) ?_
      refine Rg_may 10 29 rfl rfl rfl (fun hg => (o_moveh (v := str _) rfl)) ?_
      refine Rg_mayCall 10 29 rfl rfl rfl (fun hg => ⟨(o_call2 Tryd.call21 (gsel (u := undef) hg) (gsel (u := undef) hg)), pcompare_ok (False) _ _ (by first | exact cut7_len _ | exact make_len7 _ | exact commonP_len _ _ | assumption | omega | (simp; done) | (simp; omega) | (simp at *; omega)) (by first | exact cut7_len _ | exact make_len7 _ | exact commonP_len _ _ | assumption | omega | (simp; done) | (simp; omega) | (simp at *; omega)) _⟩) ?_
      intro w40 x41
      have z42 := Bel.size x41
      replace hX := Bel.ex hX x41
      replace hx0 := hx0.ext x41
      replace hx1 := hx1.ext x41
      replace hx2 := hx2.ext x41
      replace hb1 := hb1.ext x41
      refine Rg_may 10 29 rfl rfl rfl (fun hg => (o_gtr (gsel (u := undef) hg) rfl)) ?_
      refine Rg_run rfl (o_and (u := undef) rfl rfl) ?_
      refine Rg_run rfl (o_moveh (v := .bool _) rfl) ?_
      refine Rg_may 16 35 rfl rfl rfl (fun hg => (o_moveh (v := str _) rfl)) ?_
      refine Rg_may 16 35 rfl rfl rfl (fun hg => (o_moveh (v := str _) rfl)) ?_
      refine Rg_mayCall 16 35 rfl rfl rfl (fun hg => ⟨(o_call2 Tryd.call21 (gsel (u := undef) hg) (gsel (u := undef) hg)), pcompare_ok (False) _ _ (by first | exact cut7_len _ | exact make_len7 _ | exact commonP_len _ _ | assumption | omega | (simp; done) | (simp; omega) | (simp at *; omega)) (by first | exact cut7_len _ | exact make_len7 _ | exact commonP_len _ _ | assumption | omega | (simp; done) | (simp; omega) | (simp at *; omega)) _⟩) ?_
      intro w43 x44
      have z45 := Bel.size x44
      replace hX := Bel.ex hX x44
      replace hx0 := hx0.ext x44
      replace hx1 := hx1.ext x44
      replace hx2 := hx2.ext x44
      replace hb1 := hb1.ext x44
      refine Rg_may 16 35 rfl rfl rfl (fun hg => (o_eql (gsel (u := undef) hg) rfl)) ?_
      refine Rg_may 16 35 rfl rfl rfl (fun hg => (o_moveh (v := .bool _) (gsel (u := undef) hg))) ?_
      refine Rg_may2 21 40 rfl rfl rfl (fun hg => (o_moveh (v := str _) rfl)) ?_
      refine Rg_may2 21 40 rfl rfl rfl (fun hg => (o_moveh (v := str _) rfl)) ?_
      refine Rg_may2 21 40 rfl rfl rfl (fun hg => (o_sneq (gsel (u := undef) hg) (gsel (u := undef) hg))) ?_
      refine Rg_may 16 35 rfl rfl rfl (fun hg => (o_and (u := undef) (gsel (u := undef) hg) (gand (u := undef) hg))) ?_
      refine Rg_run rfl (o_or (u := undef) rfl rfl) ?_
      refine Rg_nil ?_
      refine W_cond rfl (fun hc2 => ?_) (fun hc2 => ?_)
      · skip
        refine W_seq ?_
        refine W_region ?_
        refine Rg_run rfl o_assignc ?_
        refine Rg_nil ?_
        refine W_ret ?_
        refine ⟨_, res_tmp rfl rfl, ?_⟩
        refine ⟨congrArg Value.bool ?_, hX⟩
        all_goals
          simp at hc2; rcases hc2 with ⟨⟨a1, a2⟩, a3⟩ | ⟨a1, a2⟩
          · have := law_ord1 ha hb hc a1 a2; omega
          · exact absurd (law_ord0 ha hb a1) a2
      · skip
        refine W_skip ?_
        refine W_seq ?_
        refine W_seq ?_
        refine W_region ?_
        refine Rg_run rfl (o_moveh (v := str _) rfl) ?_
        refine Rg_run rfl (o_moveh (v := str _) rfl) ?_
        refine Rg_enter rfl (o_call2 Tryd.call16 rfl rfl) (Ok.mono (within_ok (False) _ _ (by first | exact cut7_len _ | exact make_len7 _ | exact commonP_len _ _ | assumption | omega | (simp; done) | (simp; omega) | (simp at *; omega)) (by first | exact cut7_len _ | exact make_len7 _ | exact commonP_len _ _ | assumption | omega | (simp; done) | (simp; omega) | (simp at *; omega)) _) ?_)
        rintro _ w46 ⟨rfl, x47⟩
        have z48 := Bel.size x47
        replace hX := Bel.ex hX x47
        replace hx0 := hx0.ext x47
        replace hx1 := hx1.ext x47
        replace hx2 := hx2.ext x47
        replace hb1 := hb1.ext x47
        refine Rg_run rfl (o_moveh (v := .bool _) rfl) ?_
        refine Rg_may 3 49 rfl rfl rfl (fun hg => (o_moveh (v := str _) rfl)) ?_
        refine Rg_may 3 49 rfl rfl rfl (fun hg => (o_moveh (v := str _) rfl)) ?_
        refine Rg_mayCall 3 49 rfl rfl rfl (fun hg => ⟨(o_call2 Tryd.call21 (gsel (u := undef) hg) (gsel (u := undef) hg)), pcompare_ok (False) _ _ (by first | exact cut7_len _ | exact make_len7 _ | exact commonP_len _ _ | assumption | omega | (simp; done) | (simp; omega) | (simp at *; omega)) (by first | exact cut7_len _ | exact make_len7 _ | exact commonP_len _ _ | assumption | omega | (simp; done) | (simp; omega) | (simp at *; omega)) _⟩) ?_
        intro w49 x50
        have z51 := Bel.size x50
        replace hX := Bel.ex hX x50
        replace hx0 := hx0.ext x50
        replace hx1 := hx1.ext x50
        replace hx2 := hx2.ext x50
        replace hb1 := hb1.ext x50
        refine Rg_may 3 49 rfl rfl rfl (fun hg => (o_gtr (gsel (u := undef) hg) rfl)) ?_
        refine Rg_run rfl (o_and (u := undef) rfl rfl) ?_
        refine Rg_nil ?_
        refine W_cond rfl (fun hc3 => ?_) (fun hc3 => ?_)
        · skip
          refine W_seq ?_
          refine W_region ?_
          refine Rg_run rfl o_assignc ?_
          refine Rg_nil ?_
          refine W_ret ?_
          refine ⟨_, res_tmp rfl rfl, ?_⟩
          refine ⟨congrArg Value.bool ?_, hX⟩
          all_goals (simp at hc3; have := law_ord2 ha hb hc3.1; omega)
        · skip
          refine W_skip ?_
          refine W_seq ?_
          refine W_seq ?_
          refine W_region ?_
          refine Rg_run rfl (o_moveh (v := str _) rfl) ?_
          refine Rg_run rfl (o_moveh (v := str _) rfl) ?_
          refine Rg_enter rfl (o_call2 Tryd.call16 rfl rfl) (Ok.mono (within_ok (False) _ _ (by first | exact cut7_len _ | exact make_len7 _ | exact commonP_len _ _ | assumption | omega | (simp; done) | (simp; omega) | (simp at *; omega)) (by first | exact cut7_len _ | exact make_len7 _ | exact commonP_len _ _ | assumption | omega | (simp; done) | (simp; omega) | (simp at *; omega)) _) ?_)
          rintro _ w52 ⟨rfl, x53⟩
          have z54 := Bel.size x53
          replace hX := Bel.ex hX x53
          replace hx0 := hx0.ext x53
          replace hx1 := hx1.ext x53
          replace hx2 := hx2.ext x53
          replace hb1 := hb1.ext x53
          refine Rg_run rfl (o_moveh (v := .bool _) rfl) ?_
          refine Rg_may 3 58 rfl rfl rfl (fun hg => (o_moveh (v := str _) rfl)) ?_
          refine Rg_may 3 58 rfl rfl rfl (fun hg => (o_moveh (v := str _) rfl)) ?_
          refine Rg_mayCall 3 58 rfl rfl rfl (fun hg => ⟨(o_call2 Tryd.call21 (gsel (u := undef) hg) (gsel (u := undef) hg)), pcompare_ok (False) _ _ (by first | exact cut7_len _ | exact make_len7 _ | exact commonP_len _ _ | assumption | omega | (simp; done) | (simp; omega) | (simp at *; omega)) (by first | exact cut7_len _ | exact make_len7 _ | exact commonP_len _ _ | assumption | omega | (simp; done) | (simp; omega) | (simp at *; omega)) _⟩) ?_
          intro w55 x56
          have z57 := Bel.size x56
          replace hX := Bel.ex hX x56
          replace hx0 := hx0.ext x56
          replace hx1 := hx1.ext x56
          replace hx2 := hx2.ext x56
          replace hb1 := hb1.ext x56
          refine Rg_may 3 58 rfl rfl rfl (fun hg => (o_leq (gsel (u := undef) hg) rfl)) ?_
          refine Rg_run rfl (o_and (u := undef) rfl rfl) ?_
          refine Rg_run rfl (o_moveh (v := .bool _) rfl) ?_
          refine Rg_may 9 64 rfl rfl rfl (fun hg => (o_moveh (v := str _) rfl)) ?_
          refine Rg_may 9 64 rfl rfl rfl (fun hg => (o_moveh (v := str _) rfl)) ?_
          refine Rg_mayCall 9 64 rfl rfl rfl (fun hg => ⟨(o_call2 Tryd.call21 (gsel (u := undef) hg) (gsel (u := undef) hg)), pcompare_ok (False) _ _ (by first | exact cut7_len _ | exact make_len7 _ | exact commonP_len _ _ | assumption | omega | (simp; done) | (simp; omega) | (simp at *; omega)) (by first | exact cut7_len _ | exact make_len7 _ | exact commonP_len _ _ | assumption | omega | (simp; done) | (simp; omega) | (simp at *; omega)) _⟩) ?_
          intro w58 x59
          have z60 := Bel.size x59
          replace hX := Bel.ex hX x59
          replace hx0 := hx0.ext x59
          replace hx1 := hx1.ext x59
          replace hx2 := hx2.ext x59
          replace hb1 := hb1.ext x59
          refine Rg_may 9 64 rfl rfl rfl (fun hg => (o_leq (gsel (u := undef) hg) rfl)) ?_
          refine Rg_run rfl (o_and (u := undef) rfl rfl) ?_
          refine Rg_run rfl (o_moveh (v := .bool _) rfl) ?_
          refine Rg_may 15 70 rfl rfl rfl (fun hg => (o_moveh (v := str _) rfl)) ?_
          refine Rg_may 15 70 rfl rfl rfl (fun hg => (o_moveh (v := str _) rfl)) ?_
          refine Rg_mayCall 15 70 rfl rfl rfl (fun hg => ⟨(o_call2 Tryd.call16 (gsel (u := undef) hg) (gsel (u := undef) hg)), within_ok (False) _ _ (by first | exact cut7_len _ | exact make_len7 _ | exact commonP_len _ _ | assumption | omega | (simp; done) | (simp; omega) | (simp at *; omega)) (by first | exact cut7_len _ | exact make_len7 _ | exact commonP_len _ _ | assumption | omega | (simp; done) | (simp; omega) | (simp at *; omega)) _⟩) ?_
          intro w61 x62
          have z63 := Bel.size x62
          replace hX := Bel.ex hX x62
          replace hx0 := hx0.ext x62
          replace hx1 := hx1.ext x62
          replace hx2 := hx2.ext x62
          replace hb1 := hb1.ext x62
          refine Rg_may 15 70 rfl rfl rfl (fun hg => (o_not (gsel (u := undef) hg))) ?_
          refine Rg_run rfl (o_and (u := undef) rfl rfl) ?_
          refine Rg_nil ?_
          refine W_cond rfl (fun hc4 => ?_) (fun hc4 => ?_)
          · skip
            refine W_seq ?_
            refine W_region ?_
            refine Rg_run rfl o_assignc ?_
            refine Rg_nil ?_
            refine W_ret ?_
            refine ⟨_, res_tmp rfl rfl, ?_⟩
            refine ⟨congrArg Value.bool ?_, hX⟩
            all_goals (simp at hc4; have := law_ord3 ha hb hc hc4.1.1.1 hc4.1.1.2 hc4.1.2; rw [this] at hc4; simp at hc4)
          · skip
            refine W_skip ?_
            refine W_seq ?_
            refine W_region ?_
            refine Rg_run rfl (o_moveh (v := str _) rfl) ?_
            refine Rg_run rfl (o_moveh (v := str _) rfl) ?_
            refine Rg_enter rfl (o_call2 Tryd.call15 rfl rfl) (Ok.mono (pcommon7_ok _ _ (by first | exact cut7_len _ | exact make_len7 _ | exact commonP_len _ _ | assumption | omega | (simp; done) | (simp; omega) | (simp at *; omega)) _ (by first | exact cut7_len _ | exact make_len7 _ | exact commonP_len _ _ | assumption | omega | (simp; done) | (simp; omega) | (simp at *; omega))) ?_)
            rintro _ w64 ⟨rfl, x65⟩
            have z66 := Bel.size x65
            replace hX := Bel.ex hX x65
            replace hx0 := hx0.ext x65
            replace hx1 := hx1.ext x65
            replace hx2 := hx2.ext x65
            replace hb1 := hb1.ext x65
            refine Rg_run rfl (o_moveh (v := .tuple _) rfl) ?_
            refine Rg_run rfl (o_extract rfl rfl) ?_
            refine Rg_run rfl (o_extract rfl rfl) ?_
            refine Rg_run rfl (o_assignh (v := str _) rfl) ?_
            refine Rg_run rfl (o_assignh (v := .bool _) rfl) ?_
            refine Rg_nil ?_
            refine W_seq ?_
            refine W_region ?_
            have ld := commonP_len a b; have hcom := law_com ha hb hc; rw [ha, hb] at hcom; rw [ha, hb]; generalize commonP a b = d at ld hcom ⊢
            refine Rg_run rfl (o_moveh (v := .bool _) rfl) ?_
            refine Rg_run rfl (o_moveh (v := .bool _) rfl) ?_
            refine Rg_may 1 83 rfl rfl rfl (fun hg => (o_moveh (v := str _) rfl)) ?_
            refine Rg_may 1 83 rfl rfl rfl (fun hg => (o_moveh (v := str _) rfl)) ?_
            refine Rg_mayCall 1 83 rfl rfl rfl (fun hg => ⟨(o_call2 Tryd.call16 (gsel (u := undef) hg) (gsel (u := undef) hg)), within_ok (False) _ _ (by first | exact cut7_len _ | exact make_len7 _ | exact commonP_len _ _ | assumption | omega | (simp; done) | (simp; omega) | (simp at *; omega)) (by first | exact cut7_len _ | exact make_len7 _ | exact commonP_len _ _ | assumption | omega | (simp; done) | (simp; omega) | (simp at *; omega)) _⟩) ?_
            intro w67 x68
            have z69 := Bel.size x68
            replace hX := Bel.ex hX x68
            replace hx0 := hx0.ext x68
            replace hx1 := hx1.ext x68
            replace hx2 := hx2.ext x68
            replace hb1 := hb1.ext x68
            refine Rg_run rfl (o_and (u := undef) rfl rfl) ?_
            refine Rg_run rfl (o_moveh (v := .bool _) rfl) ?_
            refine Rg_may 6 88 rfl rfl rfl (fun hg => (o_moveh (v := str _) rfl)) ?_
            refine Rg_may 6 88 rfl rfl rfl (fun hg => (o_moveh (v := str _) rfl)) ?_
            refine Rg_mayCall 6 88 rfl rfl rfl (fun hg => ⟨(o_call2 Tryd.call16 (gsel (u := undef) hg) (gsel (u := undef) hg)), within_ok (False) _ _ (by first | exact cut7_len _ | exact make_len7 _ | exact commonP_len _ _ | assumption | omega | (simp; done) | (simp; omega) | (simp at *; omega)) (by first | exact cut7_len _ | exact make_len7 _ | exact commonP_len _ _ | assumption | omega | (simp; done) | (simp; omega) | (simp at *; omega)) _⟩) ?_
            intro w70 x71
            have z72 := Bel.size x71
            replace hX := Bel.ex hX x71
            replace hx0 := hx0.ext x71
            replace hx1 := hx1.ext x71
            replace hx2 := hx2.ext x71
            replace hb1 := hb1.ext x71
            refine Rg_run rfl (o_and (u := undef) rfl rfl) ?_
            refine Rg_run rfl (o_moveh (v := .bool _) rfl) ?_
            refine Rg_may 11 93 rfl rfl rfl (fun hg => (o_moveh (v := str _) rfl)) ?_
            refine Rg_may 11 93 rfl rfl rfl (fun hg => (o_moveh (v := str _) rfl)) ?_
            refine Rg_mayCall 11 93 rfl rfl rfl (fun hg => ⟨(o_call2 Tryd.call16 (gsel (u := undef) hg) (gsel (u := undef) hg)), within_ok (False) _ _ (by first | exact cut7_len _ | exact make_len7 _ | exact commonP_len _ _ | assumption | omega | (simp; done) | (simp; omega) | (simp at *; omega)) (by first | exact cut7_len _ | exact make_len7 _ | exact commonP_len _ _ | assumption | omega | (simp; done) | (simp; omega) | (simp at *; omega)) _⟩) ?_
            intro w73 x74
            have z75 := Bel.size x74
            replace hX := Bel.ex hX x74
            replace hx0 := hx0.ext x74
            replace hx1 := hx1.ext x74
            replace hx2 := hx2.ext x74
            replace hb1 := hb1.ext x74
            refine Rg_may 11 93 rfl rfl rfl (fun hg => (o_not (gsel (u := undef) hg))) ?_
            refine Rg_may 11 93 rfl rfl rfl (fun hg => (o_moveh (v := .bool _) (gsel (u := undef) hg))) ?_
            refine Rg_may2 16 98 rfl rfl rfl (fun hg => (o_moveh (v := str _) rfl)) ?_
            refine Rg_may2 16 98 rfl rfl rfl (fun hg => (o_moveh (v := str _) rfl)) ?_
            refine Rg_mayCall2 16 98 rfl rfl rfl (fun hg => ⟨(o_call2 Tryd.call16 (gsel (u := undef) hg) (gsel (u := undef) hg)), within_ok (False) _ _ (by first | exact cut7_len _ | exact make_len7 _ | exact commonP_len _ _ | assumption | omega | (simp; done) | (simp; omega) | (simp at *; omega)) (by first | exact cut7_len _ | exact make_len7 _ | exact commonP_len _ _ | assumption | omega | (simp; done) | (simp; omega) | (simp at *; omega)) _⟩) ?_
            intro w76 x77
            have z78 := Bel.size x77
            replace hX := Bel.ex hX x77
            replace hx0 := hx0.ext x77
            replace hx1 := hx1.ext x77
            replace hx2 := hx2.ext x77
            replace hb1 := hb1.ext x77
            refine Rg_may2 16 98 rfl rfl rfl (fun hg => (o_not (gsel (u := undef) hg))) ?_
            refine Rg_may 11 93 rfl rfl rfl (fun hg => (o_or (u := undef) (gsel (u := undef) hg) (gand (u := undef) hg))) ?_
            refine Rg_may 11 93 rfl rfl rfl (fun hg => (o_moveh (v := .bool _) (gsel (u := undef) hg))) ?_
            refine Rg_may2 22 104 rfl rfl rfl (fun hg => (o_moveh (v := str _) rfl)) ?_
            refine Rg_may2 22 104 rfl rfl rfl (fun hg => (o_moveh (v := str _) rfl)) ?_
            refine Rg_mayCall2 22 104 rfl rfl rfl (fun hg => ⟨(o_call2 Tryd.call16 (gsel (u := undef) hg) (gsel (u := undef) hg)), within_ok (False) _ _ (by first | exact cut7_len _ | exact make_len7 _ | exact commonP_len _ _ | assumption | omega | (simp; done) | (simp; omega) | (simp at *; omega)) (by first | exact cut7_len _ | exact make_len7 _ | exact commonP_len _ _ | assumption | omega | (simp; done) | (simp; omega) | (simp at *; omega)) _⟩) ?_
            intro w79 x80
            have z81 := Bel.size x80
            replace hX := Bel.ex hX x80
            replace hx0 := hx0.ext x80
            replace hx1 := hx1.ext x80
            replace hx2 := hx2.ext x80
            replace hb1 := hb1.ext x80
            refine Rg_may 11 93 rfl rfl rfl (fun hg => (o_or (u := undef) (gsel (u := undef) hg) (gand (u := undef) hg))) ?_
            refine Rg_run rfl (o_and (u := undef) rfl rfl) ?_
            refine Rg_run rfl (o_assignh (v := .bool _) rfl) ?_
            refine Rg_nil ?_
            refine W_ret ?_
            refine ⟨_, res_tmp rfl rfl, ?_⟩
            refine ⟨congrArg Value.bool ?_, hX⟩
            all_goals (exact hcom)

end Go.Proofs.YtnhbdlllkmnpfaaDoor
