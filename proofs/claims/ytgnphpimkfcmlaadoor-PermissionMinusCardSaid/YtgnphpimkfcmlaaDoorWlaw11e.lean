/- Walks, printed by program: each theorem says what a function of the translation returns. -/
import Derived.Test.YtgnphpimkfcmlaaDoorWlist11
import Derived.Test.YtgnphpimkfcmlaaDoorPure11g
namespace Go.Proofs.YtgnphpimkfcmlaaDoor
open Go Go.Lx Go.RowKit
set_option maxRecDepth 100000
set_option linter.unusedVariables false
set_option linter.unusedSimpArgs false
set_option linter.unnecessarySimpa false
theorem law_PermissionSame (w : World) (vl : Value) (l : List RawV) (hl : Rd encR 3 (Lt w.heap.size) w vl l) (dl : ∀ z ∈ l, Sl encB 1 (Lt w.heap.size) w z.a z.c z.names) (vm : Value) (m : List RawV) (hm : Rd encR 3 (Lt w.heap.size) w vm m) (dm : ∀ z ∈ m, Sl encB 1 (Lt w.heap.size) w z.a z.c z.names) : Ok Tryd.prog 8 #[vl, vm] w fun v w' => v = .bool (true) ∧ Ext False w w' := by
  obtain ⟨al, cl, rfl, hl⟩ := hl; have ml := hl.len
  obtain ⟨am, cm, rfl, hm⟩ := hm; have mm := hm.len
  have n8l := rawL_len l; have n8m := rawL_len m
  refine Ok_of_W 54 Tryd.func8 rfl rfl rfl ?_
  have hX : Ext False w w := Bel.refl _ _
  refine W_seq ?_
  refine W_region ?_
  refine Rg_run rfl o_assignc ?_
  refine Rg_nil ?_
  refine W_seq ?_
  refine W_seq ?_
  refine W_region ?_
  refine Rg_enter rfl (o_call0 Tryd.call13) (Ok.mono (awake_ok _) ?_)
  rintro _ w1 ⟨rfl, x2⟩
  have z3 := Bel.size x2
  replace hX := Bel.ex hX x2
  replace dl := (fun z hz => (dl z hz).ext x2)
  replace dm := (fun z hz => (dm z hz).ext x2)
  replace hl := hl.ext x2
  replace hm := hm.ext x2
  refine Rg_run rfl (o_not rfl) ?_
  refine Rg_nil ?_
  refine W_cond rfl (fun hc1 => ?_) (fun hc1 => ?_)
  · skip
    refine W_seq ?_
    refine W_region ?_
    refine Rg_run rfl o_assignc ?_
    refine Rg_nil ?_
    refine W_ret ?_
    refine ⟨_, res_tmp rfl rfl, ?_⟩
    refine ⟨congrArg Value.bool ?_, hX⟩
    all_goals (cases hc1)
  · skip
    refine W_skip ?_
    refine W_seq ?_
    refine W_region ?_
    refine Rg_run rfl (o_moveh (v := .slice _ _ _) rfl) ?_
    refine Rg_enter rfl (o_call1 Tryd.call25 rfl) (Ok.mono (list_ok _ _ _ hl.trd (fun z hz => (dl z hz).top)) ?_)
    rintro _ w4 ⟨a14, c14, e14, f14, rfl, hs14, ht14, x5⟩
    have z6 := Bel.size x5
    replace hX := Bel.ex hX x5
    replace dl := (fun z hz => (dl z hz).ext x5)
    replace dm := (fun z hz => (dm z hz).ext x5)
    replace hl := hl.ext x5
    replace hm := hm.ext x5
    refine Rg_run rfl (o_moveh (v := .tuple _) rfl) ?_
    refine Rg_run rfl (o_extract rfl rfl) ?_
    refine Rg_run rfl (o_extract rfl rfl) ?_
    refine Rg_run rfl (o_assignh (v := .slice _ _ _) rfl) ?_
    refine Rg_run rfl (o_assignh (v := .slice _ _ _) rfl) ?_
    refine Rg_nil ?_
    refine W_seq ?_
    refine W_region ?_
    refine Rg_run rfl (o_moveh (v := .slice _ _ _) rfl) ?_
    refine Rg_enter rfl (o_call1 Tryd.call25 rfl) (Ok.mono (list_ok _ _ _ hm.trd (fun z hz => (dm z hz).top)) ?_)
    rintro _ w7 ⟨a19, c19, e19, f19, rfl, hs19, ht19, x8⟩
    have z9 := Bel.size x8
    replace hX := Bel.ex hX x8
    replace dl := (fun z hz => (dl z hz).ext x8)
    replace dm := (fun z hz => (dm z hz).ext x8)
    replace hl := hl.ext x8
    replace hm := hm.ext x8
    replace hs14 := hs14.ext x8
    replace ht14 := ht14.ext x8
    refine Rg_run rfl (o_moveh (v := .tuple _) rfl) ?_
    refine Rg_run rfl (o_extract rfl rfl) ?_
    refine Rg_run rfl (o_extract rfl rfl) ?_
    refine Rg_run rfl (o_assignh (v := .slice _ _ _) rfl) ?_
    refine Rg_run rfl (o_assignh (v := .slice _ _ _) rfl) ?_
    refine Rg_nil ?_
    refine W_seq ?_
    refine W_region ?_
    refine Rg_run rfl (o_moveh (v := .slice _ _ _) rfl) ?_
    refine Rg_enter rfl (o_call1 Tryd.call28 rfl) (Ok.mono (rnormal_ok _ _ _ ht14.trd (by omega) (rawL_ok _)) ?_)
    rintro v23 w10 ⟨hrd23, x11⟩
    have z12 := Bel.size x11
    replace hX := Bel.ex hX x11
    replace dl := (fun z hz => (dl z hz).ext x11)
    replace dm := (fun z hz => (dm z hz).ext x11)
    replace hl := hl.ext x11
    replace hm := hm.ext x11
    replace hs14 := hs14.ext x11
    replace ht14 := ht14.ext x11
    replace hs19 := hs19.ext x11
    replace ht19 := ht19.ext x11
    refine Rg_run rfl (o_moveh (v := .slice _ _ _) rfl) ?_
    refine Rg_enter rfl (o_call1 Tryd.call28 rfl) (Ok.mono (rnormal_ok _ _ _ ht19.trd (by omega) (rawL_ok _)) ?_)
    rintro v25 w13 ⟨hrd25, x14⟩
    have z15 := Bel.size x14
    replace hX := Bel.ex hX x14
    replace dl := (fun z hz => (dl z hz).ext x14)
    replace dm := (fun z hz => (dm z hz).ext x14)
    replace hl := hl.ext x14
    replace hm := hm.ext x14
    replace hs14 := hs14.ext x14
    replace ht14 := ht14.ext x14
    replace hs19 := hs19.ext x14
    replace ht19 := ht19.ext x14
    replace hrd23 := hrd23.ext x14
    refine Rg_enter rfl (o_call2 Tryd.call31 rfl rfl) (Ok.mono (rsame_ok (False) _ _ _ hrd23.top (by have := normS_len (rawL l); omega) (normS_ok (rawL_ok _)) _ _ hrd25.top (by have := normS_len (rawL m); omega) (normS_ok (rawL_ok _))) ?_)
    rintro _ w16 ⟨rfl, x17⟩
    have z18 := Bel.size x17
    replace hX := Bel.ex hX x17
    replace dl := (fun z hz => (dl z hz).ext x17)
    replace dm := (fun z hz => (dm z hz).ext x17)
    replace hl := hl.ext x17
    replace hm := hm.ext x17
    replace hs14 := hs14.ext x17
    replace ht14 := ht14.ext x17
    replace hs19 := hs19.ext x17
    replace ht19 := ht19.ext x17
    replace hrd23 := hrd23.ext x17
    replace hrd25 := hrd25.ext x17
    refine Rg_run rfl (o_assignh (v := .bool _) rfl) ?_
    refine Rg_nil ?_
    refine W_seq ?_
    refine W_region ?_
    obtain ⟨n0, hn0⟩ : ∃ n, n = w16.heap.size := ⟨_, rfl⟩
    refine Rg_run rfl (o_moveh (v := .slice _ _ _) rfl) ?_
    refine Rg_run rfl (o_moveh (v := .slice _ _ _) rfl) ?_
    refine Rg_enter rfl (o_call2 Tryd.call30 rfl rfl) (Ok.mono (psame_ok _ _ _ hs14.trd (by omega) (rawL_ok _) _ _ hs19.trd (by omega) (rawL_ok _)) ?_)
    rintro _ w19 ⟨rfl, x20⟩
    have z21 := Bel.size x20
    replace hX := Bel.ex hX x20
    replace dl := (fun z hz => (dl z hz).ext x20)
    replace dm := (fun z hz => (dm z hz).ext x20)
    replace hl := hl.ext x20
    replace hm := hm.ext x20
    replace hs14 := hs14.ext x20
    replace ht14 := ht14.ext x20
    replace hs19 := hs19.ext x20
    replace ht19 := ht19.ext x20
    replace hrd23 := hrd23.ext x20
    replace hrd25 := hrd25.ext x20
    refine Rg_run rfl (o_moveh (v := .bool _) rfl) ?_
    refine Rg_run rfl (o_beql Tryd.underlying4 rfl rfl) ?_
    refine Rg_run rfl (o_moveh (v := .bool _) rfl) ?_
    refine Rg_may 5 32 rfl rfl rfl (fun hg => (o_moveh (v := .slice _ _ _) rfl)) ?_
    refine Rg_may 5 32 rfl rfl rfl (fun hg => (o_moveh (v := .slice _ _ _) rfl)) ?_
    refine Rg_mayCall 5 32 rfl rfl rfl (fun hg => ⟨(o_call2 Tryd.call30 (gsel (u := undef) hg) (gsel (u := undef) hg)), psame_ok _ _ _ hs19.trd (by omega) (rawL_ok _) _ _ hs14.trd (by omega) (rawL_ok _)⟩) ?_
    intro w22 x23
    have z24 := Bel.size x23
    replace hX := Bel.ex hX x23
    replace dl := (fun z hz => (dl z hz).ext x23)
    replace dm := (fun z hz => (dm z hz).ext x23)
    replace hl := hl.ext x23
    replace hm := hm.ext x23
    replace hs14 := hs14.ext x23
    replace ht14 := ht14.ext x23
    replace hs19 := hs19.ext x23
    replace ht19 := ht19.ext x23
    replace hrd23 := hrd23.ext x23
    replace hrd25 := hrd25.ext x23
    refine Rg_may 5 32 rfl rfl rfl (fun hg => (o_moveh (v := .bool _) rfl)) ?_
    refine Rg_may 5 32 rfl rfl rfl (fun hg => (o_beql Tryd.underlying4 (gsel (u := undef) hg) (gsel (u := undef) hg))) ?_
    refine Rg_run rfl (o_and (u := undef) rfl rfl) ?_
    refine Rg_run rfl (o_moveh (v := .bool _) rfl) ?_
    refine Rg_may 12 39 rfl rfl rfl (fun hg => (o_moveh (v := .slice _ _ _) rfl)) ?_
    refine Rg_split 39 rfl (fun hs25 => ?_) (fun hs25 => ?_)
    · skip
      refine Rg_on 12 39 rfl (congrArg Value.bool hs25) ?_
      refine Rg_bs (vs := []) (([] : List Perm)) rfl encP_ok el_perm rfl rfl trivial rfl rfl rfl rfl ?_
      intro a41 w26 x27 hown41
      have z28 := Bel.size x27
      replace hX := Bel.ex hX x27
      replace dl := (fun z hz => (dl z hz).ext x27)
      replace dm := (fun z hz => (dm z hz).ext x27)
      replace hl := hl.ext x27
      replace hm := hm.ext x27
      replace hs14 := hs14.ext x27
      replace ht14 := ht14.ext x27
      replace hs19 := hs19.ext x27
      replace ht19 := ht19.ext x27
      replace hrd23 := hrd23.ext x27
      replace hrd25 := hrd25.ext x27
      replace hown41 := hown41.mono (D' := fun g => n0 ≤ g) (fun g h1 h2 => by omega)
      refine Rg_on 12 39 rfl (congrArg Value.bool hs25) ?_
      refine Rg_run rfl (o_moveh (v := .slice _ _ _) rfl) ?_
      refine Rg_on 12 39 rfl (congrArg Value.bool hs25) ?_
      refine Rg_app rfl encP_ok el_perm rfl rfl hown41 hs19 rfl (by simp; omega) (fun g h => by omega) ?_
      intro v43 w29 x30 hown41
      have z31 := Bel.size x30
      replace hX := Bel.out hX x30 (fun g h1 h2 => by first | exact h2 | omega)
      replace dl := fun z hz => (dl z hz).keep x30 (fun g h1 h2 h3 => by omega)
      replace dm := fun z hz => (dm z hz).keep x30 (fun g h1 h2 h3 => by omega)
      replace hl := hl.keep x30 (fun g h1 h2 h3 => by omega)
      replace hm := hm.keep x30 (fun g h1 h2 h3 => by omega)
      replace hs14 := hs14.keep x30 (fun g h1 h2 h3 => by omega)
      replace ht14 := ht14.keep x30 (fun g h1 h2 h3 => by omega)
      replace hs19 := hs19.keep x30 (fun g h1 h2 h3 => by omega)
      replace ht19 := ht19.keep x30 (fun g h1 h2 h3 => by omega)
      refine Rg_on 12 39 rfl (congrArg Value.bool hs25) ?_
      refine Rg_run rfl (o_moveh (v := .slice _ _ _) rfl) ?_
      refine Rg_on 12 39 rfl (congrArg Value.bool hs25) ?_
      refine Rg_app rfl encP_ok el_perm rfl rfl hown41 hs14 rfl (by simp; omega) (fun g h => by omega) ?_
      intro v45 w32 x33 hown41
      have z34 := Bel.size x33
      replace hX := Bel.out hX x33 (fun g h1 h2 => by first | exact h2 | omega)
      replace dl := fun z hz => (dl z hz).keep x33 (fun g h1 h2 h3 => by omega)
      replace dm := fun z hz => (dm z hz).keep x33 (fun g h1 h2 h3 => by omega)
      replace hl := hl.keep x33 (fun g h1 h2 h3 => by omega)
      replace hm := hm.keep x33 (fun g h1 h2 h3 => by omega)
      replace hs14 := hs14.keep x33 (fun g h1 h2 h3 => by omega)
      replace ht14 := ht14.keep x33 (fun g h1 h2 h3 => by omega)
      replace hs19 := hs19.keep x33 (fun g h1 h2 h3 => by omega)
      replace ht19 := ht19.keep x33 (fun g h1 h2 h3 => by omega)
      refine Rg_on 12 39 rfl (congrArg Value.bool hs25) ?_
      refine Rg_enter rfl (o_call2 Tryd.call30 (gsel (u := undef) (by rw [hs25]; rfl)) rfl) (Ok.mono (psame_ok _ _ _ hs14.trd (by omega) (rawL_ok _) _ _ (hown41.trd encP_ok) (by simp; omega) (app_ok (rawL_ok _) (rawL_ok _))) ?_)
      rintro _ w35 ⟨rfl, x36⟩
      have z37 := Bel.size x36
      replace hX := Bel.ex hX x36
      replace dl := (fun z hz => (dl z hz).ext x36)
      replace dm := (fun z hz => (dm z hz).ext x36)
      replace hl := hl.ext x36
      replace hm := hm.ext x36
      replace hs14 := hs14.ext x36
      replace ht14 := ht14.ext x36
      replace hs19 := hs19.ext x36
      replace ht19 := ht19.ext x36
      replace hown41 := hown41.ext x36
      refine Rg_on 12 39 rfl (congrArg Value.bool hs25) ?_
      refine Rg_run rfl (o_moveh (v := .slice _ _ _) rfl) ?_
      refine Rg_on 12 39 rfl (congrArg Value.bool hs25) ?_
      refine Rg_run rfl (o_moveh (v := .slice _ _ _) rfl) ?_
      refine Rg_on 12 39 rfl (congrArg Value.bool hs25) ?_
      refine Rg_enter rfl (o_call2 Tryd.call32 rfl rfl) (Ok.mono (rminus_ok _ _ _ ht19.trd (by omega) (rawL_ok _) _ _ ht14.trd (by omega) (rawL_ok _)) ?_)
      rintro _ w38 ⟨⟨a49, c49, rfl, hs49⟩, x39⟩
      have z40 := Bel.size x39
      replace hX := Bel.ex hX x39
      replace dl := (fun z hz => (dl z hz).ext x39)
      replace dm := (fun z hz => (dm z hz).ext x39)
      replace hl := hl.ext x39
      replace hm := hm.ext x39
      replace hs14 := hs14.ext x39
      replace ht14 := ht14.ext x39
      replace hs19 := hs19.ext x39
      replace ht19 := ht19.ext x39
      replace hown41 := hown41.ext x39
      refine Rg_on 12 39 rfl (congrArg Value.bool hs25) ?_
      refine Rg_run rfl (o_llen Tryd.underlying47 rfl) ?_
      refine Rg_on 12 39 rfl (congrArg Value.bool hs25) ?_
      refine Rg_run rfl (o_eql rfl rfl) ?_
      refine Rg_on 12 39 rfl (congrArg Value.bool hs25) ?_
      refine Rg_run rfl (o_beql Tryd.underlying4 rfl rfl) ?_
      refine Rg_run rfl (o_pickT (v := .bool _) (congrArg Value.bool hs25) rfl) ?_
      refine Rg_run rfl (o_assignh (v := .bool _) rfl) ?_
      refine Rg_nil ?_
      refine W_ret ?_
      refine ⟨_, res_tmp rfl rfl, ?_⟩
      refine ⟨congrArg Value.bool ?_, hX⟩
      all_goals (rw [List.nil_append, law_same3 (rawL_ok _) (rawL_ok _)]; exact beq_iff_eq.2 rfl)
    · skip
      refine Rg_off 12 39 rfl rfl (congrArg Value.bool hs25) rfl rfl ?_
      refine Rg_off 12 39 rfl rfl (congrArg Value.bool hs25) rfl rfl ?_
      refine Rg_off 12 39 rfl rfl (congrArg Value.bool hs25) rfl rfl ?_
      refine Rg_off 12 39 rfl rfl (congrArg Value.bool hs25) rfl rfl ?_
      refine Rg_off 12 39 rfl rfl (congrArg Value.bool hs25) rfl rfl ?_
      refine Rg_off 12 39 rfl rfl (congrArg Value.bool hs25) rfl rfl ?_
      refine Rg_off 12 39 rfl rfl (congrArg Value.bool hs25) rfl rfl ?_
      refine Rg_off 12 39 rfl rfl (congrArg Value.bool hs25) rfl rfl ?_
      refine Rg_off 12 39 rfl rfl (congrArg Value.bool hs25) rfl rfl ?_
      refine Rg_off 12 39 rfl rfl (congrArg Value.bool hs25) rfl rfl ?_
      refine Rg_off 12 39 rfl rfl (congrArg Value.bool hs25) rfl rfl ?_
      refine Rg_off 12 39 rfl rfl (congrArg Value.bool hs25) rfl rfl ?_
      refine Rg_run rfl (o_pickF (v := .bool _) (congrArg Value.bool hs25) rfl) ?_
      refine Rg_run rfl (o_assignh (v := .bool _) rfl) ?_
      refine Rg_nil ?_
      refine W_ret ?_
      refine ⟨_, res_tmp rfl rfl, ?_⟩
      refine ⟨congrArg Value.bool ?_, hX⟩
      all_goals (rw [eqL_comm (normS (rawL l)) (normS (rawL m))] at hs25; simp at hs25)

theorem law_PermissionMinus (w : World) (vl : Value) (l : List RawV) (hl : Rd encR 3 (Lt w.heap.size) w vl l) (dl : ∀ z ∈ l, Sl encB 1 (Lt w.heap.size) w z.a z.c z.names) (vm : Value) (m : List RawV) (hm : Rd encR 3 (Lt w.heap.size) w vm m) (dm : ∀ z ∈ m, Sl encB 1 (Lt w.heap.size) w z.a z.c z.names) : Ok Tryd.prog 10 #[vl, vm] w fun v w' => v = .bool (true) ∧ Ext False w w' := by
  obtain ⟨al, cl, rfl, hl⟩ := hl; have ml := hl.len
  obtain ⟨am, cm, rfl, hm⟩ := hm; have mm := hm.len
  have n8l := rawL_len l; have n8m := rawL_len m; have nml := minS_len (rawL l) (rawL m)
  refine Ok_of_W 52 Tryd.func10 rfl rfl rfl ?_
  have hX : Ext False w w := Bel.refl _ _
  refine W_seq ?_
  refine W_region ?_
  refine Rg_run rfl o_assignc ?_
  refine Rg_nil ?_
  refine W_seq ?_
  refine W_seq ?_
  refine W_region ?_
  refine Rg_enter rfl (o_call0 Tryd.call13) (Ok.mono (awake_ok _) ?_)
  rintro _ w1 ⟨rfl, x2⟩
  have z3 := Bel.size x2
  replace hX := Bel.ex hX x2
  replace dl := (fun z hz => (dl z hz).ext x2)
  replace dm := (fun z hz => (dm z hz).ext x2)
  replace hl := hl.ext x2
  replace hm := hm.ext x2
  refine Rg_run rfl (o_not rfl) ?_
  refine Rg_nil ?_
  refine W_cond rfl (fun hc1 => ?_) (fun hc1 => ?_)
  · skip
    refine W_seq ?_
    refine W_region ?_
    refine Rg_run rfl o_assignc ?_
    refine Rg_nil ?_
    refine W_ret ?_
    refine ⟨_, res_tmp rfl rfl, ?_⟩
    refine ⟨congrArg Value.bool ?_, hX⟩
    all_goals (cases hc1)
  · skip
    refine W_skip ?_
    refine W_seq ?_
    refine W_region ?_
    refine Rg_run rfl (o_moveh (v := .slice _ _ _) rfl) ?_
    refine Rg_enter rfl (o_call1 Tryd.call25 rfl) (Ok.mono (list_ok _ _ _ hl.trd (fun z hz => (dl z hz).top)) ?_)
    rintro _ w4 ⟨a15, c15, e15, f15, rfl, hs15, ht15, x5⟩
    have z6 := Bel.size x5
    replace hX := Bel.ex hX x5
    replace dl := (fun z hz => (dl z hz).ext x5)
    replace dm := (fun z hz => (dm z hz).ext x5)
    replace hl := hl.ext x5
    replace hm := hm.ext x5
    refine Rg_run rfl (o_moveh (v := .tuple _) rfl) ?_
    refine Rg_run rfl (o_extract rfl rfl) ?_
    refine Rg_run rfl (o_extract rfl rfl) ?_
    refine Rg_run rfl (o_assignh (v := .slice _ _ _) rfl) ?_
    refine Rg_run rfl (o_assignh (v := .slice _ _ _) rfl) ?_
    refine Rg_nil ?_
    refine W_seq ?_
    refine W_region ?_
    refine Rg_run rfl (o_moveh (v := .slice _ _ _) rfl) ?_
    refine Rg_enter rfl (o_call1 Tryd.call25 rfl) (Ok.mono (list_ok _ _ _ hm.trd (fun z hz => (dm z hz).top)) ?_)
    rintro _ w7 ⟨a20, c20, e20, f20, rfl, hs20, ht20, x8⟩
    have z9 := Bel.size x8
    replace hX := Bel.ex hX x8
    replace dl := (fun z hz => (dl z hz).ext x8)
    replace dm := (fun z hz => (dm z hz).ext x8)
    replace hl := hl.ext x8
    replace hm := hm.ext x8
    replace hs15 := hs15.ext x8
    replace ht15 := ht15.ext x8
    refine Rg_run rfl (o_moveh (v := .tuple _) rfl) ?_
    refine Rg_run rfl (o_extract rfl rfl) ?_
    refine Rg_run rfl (o_extract rfl rfl) ?_
    refine Rg_run rfl (o_assignh (v := .slice _ _ _) rfl) ?_
    refine Rg_run rfl (o_assignh (v := .slice _ _ _) rfl) ?_
    refine Rg_nil ?_
    refine W_seq ?_
    refine W_region ?_
    refine Rg_run rfl (o_moveh (v := .slice _ _ _) rfl) ?_
    refine Rg_run rfl (o_moveh (v := .slice _ _ _) rfl) ?_
    refine Rg_enter rfl (o_call2 Tryd.call35 rfl rfl) (Ok.mono (pminus_ok _ _ _ hs15.trd (by omega) (rawL_ok _) _ _ hs20.trd (by omega) (rawL_ok _)) ?_)
    rintro v25 w10 ⟨hown25, x11⟩
    have z12 := Bel.size x11
    replace hX := Bel.ex hX x11
    replace dl := (fun z hz => (dl z hz).ext x11)
    replace dm := (fun z hz => (dm z hz).ext x11)
    replace hl := hl.ext x11
    replace hm := hm.ext x11
    replace hs15 := hs15.ext x11
    replace ht15 := ht15.ext x11
    replace hs20 := hs20.ext x11
    replace ht20 := ht20.ext x11
    change Own _ _ _ _ _ _ (minS (rawL l) (rawL m)) at hown25; obtain ⟨a25, c25, hv25, hs25⟩ := hown25.sl encP_ok; subst hv25
    refine Rg_run rfl (o_assignh (v := .slice _ _ _) rfl) ?_
    refine Rg_nil ?_
    refine W_seq ?_
    refine W_region ?_
    obtain ⟨n0, hn0⟩ : ∃ n, n = w10.heap.size := ⟨_, rfl⟩
    refine Rg_bs (vs := []) (([] : List Perm)) rfl encP_ok el_perm rfl rfl trivial rfl rfl rfl rfl ?_
    intro a26 w13 x14 hown26
    have z15 := Bel.size x14
    replace hX := Bel.ex hX x14
    replace dl := (fun z hz => (dl z hz).ext x14)
    replace dm := (fun z hz => (dm z hz).ext x14)
    replace hl := hl.ext x14
    replace hm := hm.ext x14
    replace hs15 := hs15.ext x14
    replace ht15 := ht15.ext x14
    replace hs20 := hs20.ext x14
    replace ht20 := ht20.ext x14
    replace hs25 := hs25.ext x14
    replace hown26 := hown26.mono (D' := fun g => n0 ≤ g) (fun g h1 h2 => by omega)
    refine Rg_run rfl (o_moveh (v := .slice _ _ _) rfl) ?_
    refine Rg_app rfl encP_ok el_perm rfl rfl hown26 hs20 rfl (by simp; omega) (fun g h => by omega) ?_
    intro v28 w16 x17 hown26
    have z18 := Bel.size x17
    replace hX := Bel.out hX x17 (fun g h1 h2 => by first | exact h2 | omega)
    replace dl := fun z hz => (dl z hz).keep x17 (fun g h1 h2 h3 => by omega)
    replace dm := fun z hz => (dm z hz).keep x17 (fun g h1 h2 h3 => by omega)
    replace hl := hl.keep x17 (fun g h1 h2 h3 => by omega)
    replace hm := hm.keep x17 (fun g h1 h2 h3 => by omega)
    replace hs15 := hs15.keep x17 (fun g h1 h2 h3 => by omega)
    replace ht15 := ht15.keep x17 (fun g h1 h2 h3 => by omega)
    replace hs20 := hs20.keep x17 (fun g h1 h2 h3 => by omega)
    replace ht20 := ht20.keep x17 (fun g h1 h2 h3 => by omega)
    replace hs25 := hs25.keep x17 (fun g h1 h2 h3 => by omega)
    refine Rg_run rfl (o_moveh (v := .slice _ _ _) rfl) ?_
    refine Rg_app rfl encP_ok el_perm rfl rfl hown26 hs25 rfl (by simp; omega) (fun g h => by omega) ?_
    intro v30 w19 x20 hown26
    have z21 := Bel.size x20
    replace hX := Bel.out hX x20 (fun g h1 h2 => by first | exact h2 | omega)
    replace dl := fun z hz => (dl z hz).keep x20 (fun g h1 h2 h3 => by omega)
    replace dm := fun z hz => (dm z hz).keep x20 (fun g h1 h2 h3 => by omega)
    replace hl := hl.keep x20 (fun g h1 h2 h3 => by omega)
    replace hm := hm.keep x20 (fun g h1 h2 h3 => by omega)
    replace hs15 := hs15.keep x20 (fun g h1 h2 h3 => by omega)
    replace ht15 := ht15.keep x20 (fun g h1 h2 h3 => by omega)
    replace hs20 := hs20.keep x20 (fun g h1 h2 h3 => by omega)
    replace ht20 := ht20.keep x20 (fun g h1 h2 h3 => by omega)
    replace hs25 := hs25.keep x20 (fun g h1 h2 h3 => by omega)
    refine Rg_run rfl (o_assignh (v := v30) rfl) ?_
    refine Rg_nil ?_
    refine W_seq ?_
    refine W_region ?_
    obtain ⟨a30, c30, hv30, hs30⟩ := hown26.sl encP_ok
    replace hs30 := hs30.top
    subst hv30
    obtain ⟨n1, hn1⟩ : ∃ n, n = w19.heap.size := ⟨_, rfl⟩
    refine Rg_run rfl (o_moveh (v := .slice _ _ _) rfl) ?_
    refine Rg_run rfl (o_moveh (v := .slice _ _ _) rfl) ?_
    refine Rg_run rfl (o_moveh (v := .slice _ _ _) rfl) ?_
    refine Rg_enter rfl (o_call2 Tryd.call32 rfl rfl) (Ok.mono (rminus_ok _ _ _ ht15.trd (by omega) (rawL_ok _) _ _ ht20.trd (by omega) (rawL_ok _)) ?_)
    rintro v34 w22 ⟨hrd34, x23⟩
    have z24 := Bel.size x23
    replace hX := Bel.ex hX x23
    replace dl := (fun z hz => (dl z hz).ext x23)
    replace dm := (fun z hz => (dm z hz).ext x23)
    replace hl := hl.ext x23
    replace hm := hm.ext x23
    replace hs15 := hs15.ext x23
    replace ht15 := ht15.ext x23
    replace hs20 := hs20.ext x23
    replace ht20 := ht20.ext x23
    replace hs25 := hs25.ext x23
    replace hs30 := hs30.ext x23
    change Rd _ _ _ _ _ (minS (rawL l) (rawL m)) at hrd34
    refine Rg_enter rfl (o_call2 Tryd.call27 rfl rfl) (Ok.mono (lsame_ok (False) _ _ _ hs25.trd (by omega) (minS_ok (rawL_ok _)) _ _ hrd34.top (by omega) (minS_ok (rawL_ok _))) ?_)
    rintro _ w25 ⟨rfl, x26⟩
    have z27 := Bel.size x26
    replace hX := Bel.ex hX x26
    replace dl := (fun z hz => (dl z hz).ext x26)
    replace dm := (fun z hz => (dm z hz).ext x26)
    replace hl := hl.ext x26
    replace hm := hm.ext x26
    replace hs15 := hs15.ext x26
    replace ht15 := ht15.ext x26
    replace hs20 := hs20.ext x26
    replace ht20 := ht20.ext x26
    replace hs25 := hs25.ext x26
    replace hs30 := hs30.ext x26
    replace hrd34 := hrd34.ext x26
    refine Rg_run rfl (o_moveh (v := .bool _) rfl) ?_
    refine Rg_may 5 36 rfl rfl rfl (fun hg => (o_moveh (v := .slice _ _ _) rfl)) ?_
    refine Rg_may 5 36 rfl rfl rfl (fun hg => (o_moveh (v := .slice _ _ _) rfl)) ?_
    refine Rg_split 36 rfl (fun hs28 => ?_) (fun hs28 => ?_)
    · skip
      refine Rg_on 5 36 rfl (congrArg Value.bool hs28) ?_
      refine Rg_enter rfl (o_call2 Tryd.call35 (gsel (u := undef) (by rw [hs28]; rfl)) (gsel (u := undef) (by rw [hs28]; rfl))) (Ok.mono (pminus_ok _ _ _ hs15.trd (by omega) (rawL_ok _) _ _ hs30.trd (by simp; omega) (app_ok (rawL_ok _) (minS_ok (rawL_ok _)))) ?_)
      rintro v39 w29 ⟨hown39, x30⟩
      have z31 := Bel.size x30
      replace hX := Bel.ex hX x30
      replace dl := (fun z hz => (dl z hz).ext x30)
      replace dm := (fun z hz => (dm z hz).ext x30)
      replace hl := hl.ext x30
      replace hm := hm.ext x30
      replace hs15 := hs15.ext x30
      replace ht15 := ht15.ext x30
      replace hs20 := hs20.ext x30
      replace ht20 := ht20.ext x30
      replace hs25 := hs25.ext x30
      replace hs30 := hs30.ext x30
      replace hrd34 := hrd34.ext x30
      replace hown39 := hown39.mono (D' := fun g => n0 ≤ g) (fun g h1 h2 => by omega)
      refine Rg_on 5 36 rfl (congrArg Value.bool hs28) ?_
      refine Rg_run rfl (o_llenO Tryd.underlying46 rfl hown39) ?_
      refine Rg_on 5 36 rfl (congrArg Value.bool hs28) ?_
      refine Rg_run rfl (o_eql rfl rfl) ?_
      refine Rg_run rfl (o_pickT (v := .bool _) (congrArg Value.bool hs28) rfl) ?_
      refine Rg_run rfl (o_moveh (v := .bool _) rfl) ?_
      refine Rg_may 12 43 rfl rfl rfl (fun hg => (o_moveh (v := .slice _ _ _) rfl)) ?_
      refine Rg_split 43 rfl (fun hs32 => ?_) (fun hs32 => ?_)
      · skip
        refine Rg_on 12 43 rfl (congrArg Value.bool hs32) ?_
        refine Rg_bs (vs := []) (([] : List Perm)) rfl encP_ok el_perm rfl rfl trivial rfl rfl rfl rfl ?_
        intro a45 w33 x34 hown45
        have z35 := Bel.size x34
        replace hX := Bel.ex hX x34
        replace dl := (fun z hz => (dl z hz).ext x34)
        replace dm := (fun z hz => (dm z hz).ext x34)
        replace hl := hl.ext x34
        replace hm := hm.ext x34
        replace hs15 := hs15.ext x34
        replace ht15 := ht15.ext x34
        replace hs20 := hs20.ext x34
        replace ht20 := ht20.ext x34
        replace hs25 := hs25.ext x34
        replace hs30 := hs30.ext x34
        replace hrd34 := hrd34.ext x34
        replace hown39 := hown39.ext x34
        replace hown45 := hown45.mono (D' := fun g => n1 ≤ g) (fun g h1 h2 => by omega)
        refine Rg_on 12 43 rfl (congrArg Value.bool hs32) ?_
        refine Rg_run rfl (o_moveh (v := .slice _ _ _) rfl) ?_
        refine Rg_on 12 43 rfl (congrArg Value.bool hs32) ?_
        refine Rg_app rfl encP_ok el_perm rfl rfl hown45 hs15 rfl (by simp; omega) (fun g h => by omega) ?_
        intro v47 w36 x37 hown45
        have z38 := Bel.size x37
        replace hX := Bel.out hX x37 (fun g h1 h2 => by first | exact h2 | omega)
        replace dl := fun z hz => (dl z hz).keep x37 (fun g h1 h2 h3 => by omega)
        replace dm := fun z hz => (dm z hz).keep x37 (fun g h1 h2 h3 => by omega)
        replace hl := hl.keep x37 (fun g h1 h2 h3 => by omega)
        replace hm := hm.keep x37 (fun g h1 h2 h3 => by omega)
        replace hs15 := hs15.keep x37 (fun g h1 h2 h3 => by omega)
        replace ht15 := ht15.keep x37 (fun g h1 h2 h3 => by omega)
        replace hs20 := hs20.keep x37 (fun g h1 h2 h3 => by omega)
        replace ht20 := ht20.keep x37 (fun g h1 h2 h3 => by omega)
        replace hs25 := hs25.keep x37 (fun g h1 h2 h3 => by omega)
        replace hs30 := hs30.keep x37 (fun g h1 h2 h3 => by omega)
        refine Rg_on 12 43 rfl (congrArg Value.bool hs32) ?_
        refine Rg_run rfl (o_moveh (v := .slice _ _ _) rfl) ?_
        refine Rg_on 12 43 rfl (congrArg Value.bool hs32) ?_
        refine Rg_app rfl encP_ok el_perm rfl rfl hown45 hs20 rfl (by simp; omega) (fun g h => by omega) ?_
        intro v49 w39 x40 hown45
        have z41 := Bel.size x40
        replace hX := Bel.out hX x40 (fun g h1 h2 => by first | exact h2 | omega)
        replace dl := fun z hz => (dl z hz).keep x40 (fun g h1 h2 h3 => by omega)
        replace dm := fun z hz => (dm z hz).keep x40 (fun g h1 h2 h3 => by omega)
        replace hl := hl.keep x40 (fun g h1 h2 h3 => by omega)
        replace hm := hm.keep x40 (fun g h1 h2 h3 => by omega)
        replace hs15 := hs15.keep x40 (fun g h1 h2 h3 => by omega)
        replace ht15 := ht15.keep x40 (fun g h1 h2 h3 => by omega)
        replace hs20 := hs20.keep x40 (fun g h1 h2 h3 => by omega)
        replace ht20 := ht20.keep x40 (fun g h1 h2 h3 => by omega)
        replace hs25 := hs25.keep x40 (fun g h1 h2 h3 => by omega)
        replace hs30 := hs30.keep x40 (fun g h1 h2 h3 => by omega)
        refine Rg_on 12 43 rfl (congrArg Value.bool hs32) ?_
        refine Rg_enter rfl (o_call2 Tryd.call30 (gsel (u := undef) (by rw [hs32]; rfl)) rfl) (Ok.mono (psame_ok _ _ _ hs30.trd (by simp; omega) (app_ok (rawL_ok _) (minS_ok (rawL_ok _))) _ _ (hown45.trd encP_ok) (by simp; omega) (app_ok (rawL_ok _) (rawL_ok _))) ?_)
        rintro _ w42 ⟨rfl, x43⟩
        have z44 := Bel.size x43
        replace hX := Bel.ex hX x43
        replace dl := (fun z hz => (dl z hz).ext x43)
        replace dm := (fun z hz => (dm z hz).ext x43)
        replace hl := hl.ext x43
        replace hm := hm.ext x43
        replace hs15 := hs15.ext x43
        replace ht15 := ht15.ext x43
        replace hs20 := hs20.ext x43
        replace ht20 := ht20.ext x43
        replace hs25 := hs25.ext x43
        replace hs30 := hs30.ext x43
        replace hown45 := hown45.ext x43
        refine Rg_run rfl (o_pickT (v := .bool _) (congrArg Value.bool hs32) rfl) ?_
        refine Rg_run rfl (o_assignh (v := .bool _) rfl) ?_
        refine Rg_nil ?_
        refine W_ret ?_
        refine ⟨_, res_tmp rfl rfl, ?_⟩
        refine ⟨congrArg Value.bool ?_, hX⟩
        all_goals (rw [List.nil_append, List.nil_append, law_min2 (rawL_ok _) (rawL_ok _)]; exact beq_self_eq_true _)
      · skip
        refine Rg_off 12 43 rfl rfl (congrArg Value.bool hs32) rfl rfl ?_
        refine Rg_off 12 43 rfl rfl (congrArg Value.bool hs32) rfl rfl ?_
        refine Rg_off 12 43 rfl rfl (congrArg Value.bool hs32) rfl rfl ?_
        refine Rg_off 12 43 rfl rfl (congrArg Value.bool hs32) rfl rfl ?_
        refine Rg_off 12 43 rfl rfl (congrArg Value.bool hs32) rfl rfl ?_
        refine Rg_off 12 43 rfl rfl (congrArg Value.bool hs32) rfl rfl ?_
        refine Rg_run rfl (o_pickF (v := .bool _) (congrArg Value.bool hs32) rfl) ?_
        refine Rg_run rfl (o_assignh (v := .bool _) rfl) ?_
        refine Rg_nil ?_
        refine W_ret ?_
        refine ⟨_, res_tmp rfl rfl, ?_⟩
        refine ⟨congrArg Value.bool ?_, hX⟩
        all_goals (change (((minS (rawL l) (rawL m ++ minS (rawL l) (rawL m))).length : Int) == 0) = false at hs32; rw [law_min1] at hs32; cases hs32)
    · skip
      refine Rg_off 5 36 rfl rfl (congrArg Value.bool hs28) rfl rfl ?_
      refine Rg_off 5 36 rfl rfl (congrArg Value.bool hs28) rfl rfl ?_
      refine Rg_off 5 36 rfl rfl (congrArg Value.bool hs28) rfl rfl ?_
      refine Rg_run rfl (o_pickF (v := .bool _) (congrArg Value.bool hs28) rfl) ?_
      refine Rg_run rfl (o_moveh (v := .bool _) rfl) ?_
      refine Rg_off 12 43 rfl rfl rfl rfl rfl ?_
      refine Rg_off 12 43 rfl rfl rfl rfl rfl ?_
      refine Rg_off 12 43 rfl rfl rfl rfl rfl ?_
      refine Rg_off 12 43 rfl rfl rfl rfl rfl ?_
      refine Rg_off 12 43 rfl rfl rfl rfl rfl ?_
      refine Rg_off 12 43 rfl rfl rfl rfl rfl ?_
      refine Rg_off 12 43 rfl rfl rfl rfl rfl ?_
      refine Rg_run rfl (o_pickF (v := .bool _) rfl rfl) ?_
      refine Rg_run rfl (o_assignh (v := .bool _) rfl) ?_
      refine Rg_nil ?_
      refine W_ret ?_
      refine ⟨_, res_tmp rfl rfl, ?_⟩
      refine ⟨congrArg Value.bool ?_, hX⟩
      all_goals (simp at hs28)

theorem law_PermissionNormal (w : World) (vl : Value) (l : List RawV) (hl : Rd encR 3 (Lt w.heap.size) w vl l) (dl : ∀ z ∈ l, Sl encB 1 (Lt w.heap.size) w z.a z.c z.names) (y : RawV) (hy : Sl encB 1 (Lt w.heap.size) w y.a y.c y.names) : Ok Tryd.prog 7 #[vl, .agg (encR y).toArray] w fun v w' => v = .bool (true) ∧ Ext False w w' := by
  obtain ⟨al, cl, rfl, hl⟩ := hl; have ml := hl.len
  have n8l := rawL_len l; have nnl := normS_len (rawL l)
  refine Ok_of_W 65 Tryd.func7 rfl rfl rfl ?_
  have hX : Ext False w w := Bel.refl _ _
  refine W_seq ?_
  refine W_region ?_
  refine Rg_newB rfl (o_box (v := .agg _) rfl) ?_
  intro b3 w1 x2 hge3 hb3
  have hlt3 := hb3.lt
  change Box _ _ _ (encR _) at hb3
  have z3 := Bel.size x2
  replace hX := Bel.ex hX x2
  replace dl := (fun z hz => (dl z hz).ext x2)
  replace hl := hl.ext x2
  replace hy := hy.ext x2
  refine Rg_run rfl o_assignc ?_
  refine Rg_nil ?_
  refine W_seq ?_
  refine W_seq ?_
  refine W_region ?_
  refine Rg_enter rfl (o_call0 Tryd.call13) (Ok.mono (awake_ok _) ?_)
  rintro _ w4 ⟨rfl, x5⟩
  have z6 := Bel.size x5
  replace hX := Bel.ex hX x5
  replace dl := (fun z hz => (dl z hz).ext x5)
  replace hl := hl.ext x5
  replace hy := hy.ext x5
  replace hb3 := hb3.ext x5
  refine Rg_run rfl (o_not rfl) ?_
  refine Rg_nil ?_
  refine W_cond rfl (fun hc1 => ?_) (fun hc1 => ?_)
  · skip
    refine W_seq ?_
    refine W_region ?_
    refine Rg_run rfl o_assignc ?_
    refine Rg_nil ?_
    refine W_ret ?_
    refine ⟨_, res_tmp rfl rfl, ?_⟩
    refine ⟨congrArg Value.bool ?_, hX⟩
    all_goals (cases hc1)
  · skip
    refine W_skip ?_
    refine W_seq ?_
    refine W_region ?_
    refine Rg_run rfl (o_moveh (v := .slice _ _ _) rfl) ?_
    refine Rg_enter rfl (o_call1 Tryd.call25 rfl) (Ok.mono (list_ok _ _ _ hl.trd (fun z hz => (dl z hz).top)) ?_)
    rintro _ w7 ⟨a17, c17, e17, f17, rfl, hs17, ht17, x8⟩
    have z9 := Bel.size x8
    replace hX := Bel.ex hX x8
    replace dl := (fun z hz => (dl z hz).ext x8)
    replace hl := hl.ext x8
    replace hy := hy.ext x8
    replace hb3 := hb3.ext x8
    refine Rg_run rfl (o_moveh (v := .tuple _) rfl) ?_
    refine Rg_run rfl (o_extract rfl rfl) ?_
    refine Rg_run rfl (o_extract rfl rfl) ?_
    refine Rg_run rfl (o_assignh (v := .slice _ _ _) rfl) ?_
    refine Rg_run rfl (o_assignh (v := .slice _ _ _) rfl) ?_
    refine Rg_nil ?_
    refine W_seq ?_
    refine W_region ?_
    refine Rg_run rfl (o_moveh (v := .slice _ _ _) rfl) ?_
    refine Rg_enter rfl (o_call1 Tryd.call26 rfl) (Ok.mono (pnormal_ok _ _ _ hs17.trd (by omega) (rawL_ok _)) ?_)
    rintro v21 w10 ⟨hown21, x11⟩
    have z12 := Bel.size x11
    replace hX := Bel.ex hX x11
    replace dl := (fun z hz => (dl z hz).ext x11)
    replace hl := hl.ext x11
    replace hy := hy.ext x11
    replace hb3 := hb3.ext x11
    replace hs17 := hs17.ext x11
    replace ht17 := ht17.ext x11
    obtain ⟨a21, c21, hv21, hs21⟩ := hown21.sl encP_ok; subst hv21
    refine Rg_run rfl (o_assignh (v := .slice _ _ _) rfl) ?_
    refine Rg_nil ?_
    refine W_seq ?_
    apply W_draw (β := False) [peq _, peq _, peq _, peq _, peq _, peq _, peq _, peq _] 8 mixed (by kernel_rfl) rfl ⟨peq_stable _, peq_stable _, peq_stable _, peq_stable _, peq_stable _, peq_stable _, peq_stable _, peq_stable _, trivial⟩ ?ob5 ?fin5
    case ob5 =>
      refine OblL_cons (fun w13 x14 => ?_) ?_
      · skip
        have dl := (fun z hz => (dl z hz).ext x14)
        have hl := hl.ext x14
        have hy := hy.ext x14
        have hb3 := hb3.ext x14
        have hs17 := hs17.ext x14
        have ht17 := ht17.ext x14
        have hs21 := hs21.ext x14
        refine bindP_nil ?_
        exact OpS_v rfl (o_fa Tryd.underlying24 rfl Tryd.sizeOf5 rfl)
      refine OblL_cons (fun w15 x16 => ?_) ?_
      · skip
        have dl := (fun z hz => (dl z hz).ext x16)
        have hl := hl.ext x16
        have hy := hy.ext x16
        have hb3 := hb3.ext x16
        have hs17 := hs17.ext x16
        have ht17 := ht17.ext x16
        have hs21 := hs21.ext x16
        refine bindP_eq ?_
        refine bindP_nil ?_
        exact OpS_v rfl (o_load1 Tryd.isAgg5 rfl (hb3.at.get 0 rfl))
      refine OblL_cons (fun w17 x18 => ?_) ?_
      · skip
        have dl := (fun z hz => (dl z hz).ext x18)
        have hl := hl.ext x18
        have hy := hy.ext x18
        have hb3 := hb3.ext x18
        have hs17 := hs17.ext x18
        have ht17 := ht17.ext x18
        have hs21 := hs21.ext x18
        refine bindP_eq ?_
        refine bindP_nil ?_
        exact OpS_call rfl (o_call1 Tryd.call17 rfl) (raction_ok (False) _ _)
      refine OblL_cons (fun w19 x20 => ?_) ?_
      · skip
        have dl := (fun z hz => (dl z hz).ext x20)
        have hl := hl.ext x20
        have hy := hy.ext x20
        have hb3 := hb3.ext x20
        have hs17 := hs17.ext x20
        have ht17 := ht17.ext x20
        have hs21 := hs21.ext x20
        refine bindP_nil ?_
        exact OpS_v rfl (o_fa Tryd.underlying24 rfl Tryd.sizeOf22 rfl)
      refine OblL_cons (fun w21 x22 => ?_) ?_
      · skip
        have dl := (fun z hz => (dl z hz).ext x22)
        have hl := hl.ext x22
        have hy := hy.ext x22
        have hb3 := hb3.ext x22
        have hs17 := hs17.ext x22
        have ht17 := ht17.ext x22
        have hs21 := hs21.ext x22
        refine bindP_eq ?_
        refine bindP_nil ?_
        exact OpS_v rfl (o_load1 Tryd.isAgg22 rfl (hb3.at.get 1 rfl))
      refine OblL_cons (fun w23 x24 => ?_) ?_
      · skip
        have dl := (fun z hz => (dl z hz).ext x24)
        have hl := hl.ext x24
        have hy := hy.ext x24
        have hb3 := hb3.ext x24
        have hs17 := hs17.ext x24
        have ht17 := ht17.ext x24
        have hs21 := hs21.ext x24
        refine bindP_eq ?_
        refine bindP_eq ?_
        refine bindP_nil ?_
        exact OpS_call rfl (o_call1 Tryd.call18 rfl) (rpath_ok _ _ _ hy.trd)
      refine OblL_cons (fun w25 x26 => ?_) ?_
      · skip
        have dl := (fun z hz => (dl z hz).ext x26)
        have hl := hl.ext x26
        have hy := hy.ext x26
        have hb3 := hb3.ext x26
        have hs17 := hs17.ext x26
        have ht17 := ht17.ext x26
        have hs21 := hs21.ext x26
        refine bindP_eq ?_
        refine bindP_eq ?_
        refine bindP_eq ?_
        refine bindP_eq ?_
        refine bindP_eq ?_
        refine bindP_nil ?_
        exact OpS_v rfl (o_assignh (v := str _) rfl)
      refine OblL_cons (fun w27 x28 => ?_) ?_
      · skip
        have dl := (fun z hz => (dl z hz).ext x28)
        have hl := hl.ext x28
        have hy := hy.ext x28
        have hb3 := hb3.ext x28
        have hs17 := hs17.ext x28
        have ht17 := ht17.ext x28
        have hs21 := hs21.ext x28
        refine bindP_eq ?_
        refine bindP_eq ?_
        refine bindP_eq ?_
        refine bindP_eq ?_
        refine bindP_eq ?_
        refine bindP_eq ?_
        refine bindP_eq ?_
        refine bindP_eq ?_
        refine bindP_eq ?_
        refine bindP_nil ?_
        exact OpS_v rfl (o_assignh (v := str _) rfl)
      exact OblL_nil
    case fin5 =>
      intro w29 x30
      have z31 := Bel.size x30
      replace hX := Bel.ex hX x30
      replace dl := (fun z hz => (dl z hz).ext x30)
      replace hl := hl.ext x30
      replace hy := hy.ext x30
      replace hb3 := hb3.ext x30
      replace hs17 := hs17.ext x30
      replace ht17 := ht17.ext x30
      replace hs21 := hs21.ext x30
      refine bindP_eq ?_
      refine bindP_eq ?_
      refine bindP_eq ?_
      refine bindP_eq ?_
      refine bindP_eq ?_
      refine bindP_eq ?_
      refine bindP_eq ?_
      refine bindP_eq ?_
      refine bindP_nil ?_
      refine Rg_nil ?_
      refine W_seq ?_
      refine W_region ?_
      refine Rg_run rfl o_assignc ?_
      refine Rg_nil ?_
      refine W_seq ?_
      refine W_seq ?_
      refine W_region ?_
      refine Rg_run rfl (o_moveh (v := .slice _ _ _) rfl) ?_
      refine Rg_run rfl (o_llen Tryd.underlying46 rfl) ?_
      refine Rg_run rfl o_movec ?_
      refine Rg_nil ?_
      refine W_block ?_
      refine W_for (α := Nat × Value) [(10, 10), (12, 12), (30, 38)] (fun q => [(30, .int .i64 (q.1 : Int)), (10, q.2)]) (fun q w' => (q.1 ≤ (normS (rawL l)).length) ∧ Bel False (fun g => w29.heap.size ≤ g) w29 w' ∧ (Own encP 3 28 (fun g => w29.heap.size ≤ g) w' q.2 ((normS (rawL l)).take q.1))) (fun q => (normS (rawL l)).length - q.1) (0, .slice none 0 0) ⟨rfl, rfl, trivial⟩ ⟨Nat.zero_le _, Bel.refl _ _, Own.nil _ _⟩ ?_
      rintro ⟨k, u⟩ fb34 w33 ⟨hk, hXL32, hown⟩
      dsimp only at *
      have z35 := Bel.size hXL32
      replace hX := Bel.out hX hXL32 (fun g h1 h2 => by first | exact h2 | omega)
      replace dl := fun z hz => (dl z hz).keep hXL32 (fun g h1 h2 h3 => by omega)
      replace hl := hl.keep hXL32 (fun g h1 h2 h3 => by omega)
      replace hy := hy.keep hXL32 (fun g h1 h2 h3 => by omega)
      replace hs17 := hs17.keep hXL32 (fun g h1 h2 h3 => by omega)
      replace ht17 := ht17.keep hXL32 (fun g h1 h2 h3 => by omega)
      replace hs21 := hs21.keep hXL32 (fun g h1 h2 h3 => by omega)
      refine W_seq ?_
      refine W_region ?_
      refine Rg_run rfl (o_lss rfl rfl) ?_
      refine Rg_nil ?_
      refine W_seq ?_
      refine W_cond rfl (fun hc2 => ?_) (fun hc2 => ?_)
      · skip
        replace hc2 := of_decide_eq_true hc2
        refine W_skip ?_
        refine W_seq ?_
        refine W_block ?_
        refine W_seq ?_
        refine W_region ?_
        refine Rg_run rfl (o_iaR Tryd.underlying46 Tryd.sizeOf27 hs21 rfl rfl (by first | omega | (unfold I64; omega) | (simp; done) | (simp; omega) | (simp at *; omega))) ?_
        refine Rg_run rfl (o_ldRS Tryd.isAgg27 Tryd.sizeOf27 hs21 rfl (getE pz (by omega))) ?_
        refine Rg_alst rfl rfl Tryd.zeroValue27 rfl Tryd.sizeOf27 (fun _ => rfl) rfl rfl ?_
        intro b12 w36 x37 hge12 hb12
        have hlt12 := hb12.lt
        change Box _ _ _ (encP _) at hb12
        have z38 := Bel.size x37
        replace hX := Bel.ex hX x37
        replace hXL32 := Bel.ex hXL32 x37
        replace dl := (fun z hz => (dl z hz).ext x37)
        replace hl := hl.ext x37
        replace hy := hy.ext x37
        replace hs17 := hs17.ext x37
        replace ht17 := ht17.ext x37
        replace hs21 := hs21.ext x37
        replace hown := hown.ext x37
        refine Rg_nil ?_
        refine W_region ?_
        refine Rg_run rfl (o_moveh (v := u) rfl) ?_
        refine Rg_run rfl (o_loadS Tryd.isAgg27 Tryd.sizeOf27 rfl hb12.at rfl) ?_
        refine Rg_bs (vs := [.agg _]) ([(normS (rawL l)).getD k pz]) rfl encP_ok el_rperm rfl rfl ⟨rfl, trivial⟩ rfl rfl rfl rfl ?_
        intro a36 w39 x40 hown36
        have z41 := Bel.size x40
        replace hX := Bel.ex hX x40
        replace hXL32 := Bel.ex hXL32 x40
        replace dl := (fun z hz => (dl z hz).ext x40)
        replace hl := hl.ext x40
        replace hy := hy.ext x40
        replace hs17 := hs17.ext x40
        replace ht17 := ht17.ext x40
        replace hs21 := hs21.ext x40
        replace hown := hown.ext x40
        replace hb12 := hb12.ext x40
        replace hown36 := hown36.mono (D' := fun g => w29.heap.size ≤ g) (fun g h1 h2 => by omega)
        refine Rg_app rfl encP_ok el_rperm rfl rfl hown (hown36.slA encP_ok) rfl (by simp; omega) (fun g h => by omega) ?_
        intro v37 w42 x43 hown
        have z44 := Bel.size x43
        replace hX := Bel.out hX x43 (fun g h1 h2 => by first | exact h2 | omega)
        replace hXL32 := Bel.out hXL32 x43 (fun g h1 h2 => by first | exact h2 | omega)
        replace dl := fun z hz => (dl z hz).keep x43 (fun g h1 h2 h3 => by omega)
        replace hl := hl.keep x43 (fun g h1 h2 h3 => by omega)
        replace hy := hy.keep x43 (fun g h1 h2 h3 => by omega)
        replace hs17 := hs17.keep x43 (fun g h1 h2 h3 => by omega)
        replace ht17 := ht17.keep x43 (fun g h1 h2 h3 => by omega)
        replace hs21 := hs21.keep x43 (fun g h1 h2 h3 => by omega)
        refine Rg_run rfl (o_assignh (v := v37) rfl) ?_
        refine Rg_nil ?_
        refine W_region ?_
        refine Rg_run rfl (o_add rfl rfl (by unfold I64; omega)) ?_
        refine Rg_run rfl (o_moveh (v := .int _ _) rfl) ?_
        refine Rg_nil ?_
        refine ⟨(k + 1, v37), ⟨?_, ?_, trivial⟩, ?_, ⟨?_, hXL32, ?_⟩, ?_⟩
        · first | rfl | (go_num) | (exact congrArg _ (by omega))
        · first | rfl | (go_num) | (exact congrArg _ (by omega))
        · repeat (first | exact off_refl _ _ | exact off_mix | refine off_put rfl ?_ | refine off_putN ?_ | refine off_setL rfl ?_ | refine off_mix' rfl ?_)
        · show k + 1 ≤ (normS (rawL l)).length; omega
        · show Own _ _ _ _ _ _ ((normS (rawL l)).take (k + 1)); rw [takeD_succ (by omega)]; exact hown.mono (fun g h1 h2 => by omega)
        · show (normS (rawL l)).length - (k + 1) < (normS (rawL l)).length - k; omega
      · skip
        replace hc2 := of_decide_eq_false hc2; rw [List.take_of_length_le (by omega)] at hown
        refine W_exit ?_
        refine exAt_hit ?_
        refine W_seq ?_
        refine W_region ?_
        refine Rg_run rfl (o_moveh (v := .slice _ _ _) rfl) ?_
        refine Rg_run rfl (o_moveh (v := .slice _ _ _) rfl) ?_
        refine Rg_enter rfl (o_call1 Tryd.call28 rfl) (Ok.mono (rnormal_ok _ _ _ ht17.trd (by omega) (rawL_ok _)) ?_)
        rintro v41 w45 ⟨hrd41, x46⟩
        have z47 := Bel.size x46
        replace hX := Bel.ex hX x46
        replace dl := (fun z hz => (dl z hz).ext x46)
        replace hl := hl.ext x46
        replace hy := hy.ext x46
        replace hs17 := hs17.ext x46
        replace ht17 := ht17.ext x46
        replace hs21 := hs21.ext x46
        replace hown := hown.ext x46
        refine Rg_enter rfl (o_call2 Tryd.call27 rfl rfl) (Ok.mono (lsame_ok (False) _ _ _ hs21.trd (by omega) (normS_ok (rawL_ok _)) _ _ hrd41.top (by omega) (normS_ok (rawL_ok _))) ?_)
        rintro _ w48 ⟨rfl, x49⟩
        have z50 := Bel.size x49
        replace hX := Bel.ex hX x49
        replace dl := (fun z hz => (dl z hz).ext x49)
        replace hl := hl.ext x49
        replace hy := hy.ext x49
        replace hs17 := hs17.ext x49
        replace ht17 := ht17.ext x49
        replace hs21 := hs21.ext x49
        replace hown := hown.ext x49
        replace hrd41 := hrd41.ext x49
        refine Rg_run rfl (o_moveh (v := .bool _) rfl) ?_
        refine Rg_may 4 43 rfl rfl rfl (fun hg => (o_moveh (v := u) rfl)) ?_
        refine Rg_may 4 43 rfl rfl rfl (fun hg => (o_moveh (v := str _) rfl)) ?_
        refine Rg_may 4 43 rfl rfl rfl (fun hg => (o_moveh (v := str _) rfl)) ?_
        refine Rg_mayCall 4 43 rfl rfl rfl (fun hg => ⟨(o_call3 Tryd.call29 (gsel (u := undef) hg) (gsel (u := undef) hg) (gsel (u := undef) hg)), rany_ok _ _ _ (hown.trd encP_ok) (by omega) (normS_ok (rawL_ok _)) _ (by have := actionS_len y.act; omega) _ (by have := pathS_len y.names; omega)⟩) ?_
        intro w51 x52
        have z53 := Bel.size x52
        replace hX := Bel.ex hX x52
        replace dl := (fun z hz => (dl z hz).ext x52)
        replace hl := hl.ext x52
        replace hy := hy.ext x52
        replace hs17 := hs17.ext x52
        replace ht17 := ht17.ext x52
        replace hs21 := hs21.ext x52
        replace hown := hown.ext x52
        replace hrd41 := hrd41.ext x52
        refine Rg_may 4 43 rfl rfl rfl (fun hg => (o_moveh (v := .slice _ _ _) rfl)) ?_
        refine Rg_may 4 43 rfl rfl rfl (fun hg => (o_moveh (v := str _) rfl)) ?_
        refine Rg_may 4 43 rfl rfl rfl (fun hg => (o_moveh (v := str _) rfl)) ?_
        refine Rg_mayCall 4 43 rfl rfl rfl (fun hg => ⟨(o_call3 Tryd.call29 (gsel (u := undef) hg) (gsel (u := undef) hg) (gsel (u := undef) hg)), rany_ok _ _ _ ht17.trd (by omega) (rawL_ok _) _ (by have := actionS_len y.act; omega) _ (by have := pathS_len y.names; omega)⟩) ?_
        intro w54 x55
        have z56 := Bel.size x55
        replace hX := Bel.ex hX x55
        replace dl := (fun z hz => (dl z hz).ext x55)
        replace hl := hl.ext x55
        replace hy := hy.ext x55
        replace hs17 := hs17.ext x55
        replace ht17 := ht17.ext x55
        replace hs21 := hs21.ext x55
        replace hown := hown.ext x55
        replace hrd41 := hrd41.ext x55
        refine Rg_may 4 43 rfl rfl rfl (fun hg => (o_beql Tryd.underlying4 (gsel (u := undef) hg) (gsel (u := undef) hg))) ?_
        refine Rg_run rfl (o_and (u := undef) rfl rfl) ?_
        refine Rg_run rfl (o_moveh (v := .bool _) rfl) ?_
        refine Rg_may 15 54 rfl rfl rfl (fun hg => (o_moveh (v := .slice _ _ _) rfl)) ?_
        refine Rg_may 15 54 rfl rfl rfl (fun hg => (o_moveh (v := .slice _ _ _) rfl)) ?_
        refine Rg_mayCall 15 54 rfl rfl rfl (fun hg => ⟨(o_call2 Tryd.call30 (gsel (u := undef) hg) (gsel (u := undef) hg)), psame_ok _ _ _ hs17.trd (by omega) (rawL_ok _) _ _ hs21.trd (by omega) (normS_ok (rawL_ok _))⟩) ?_
        intro w57 x58
        have z59 := Bel.size x58
        replace hX := Bel.ex hX x58
        replace dl := (fun z hz => (dl z hz).ext x58)
        replace hl := hl.ext x58
        replace hy := hy.ext x58
        replace hs17 := hs17.ext x58
        replace ht17 := ht17.ext x58
        replace hs21 := hs21.ext x58
        replace hown := hown.ext x58
        replace hrd41 := hrd41.ext x58
        refine Rg_run rfl (o_and (u := undef) rfl rfl) ?_
        refine Rg_run rfl (o_moveh (v := .bool _) rfl) ?_
        refine Rg_may 20 59 rfl rfl rfl (fun hg => (o_moveh (v := .slice _ _ _) rfl)) ?_
        refine Rg_split 59 rfl (fun hs60 => ?_) (fun hs60 => ?_)
        · skip
          refine Rg_on 20 59 rfl (congrArg Value.bool hs60) ?_
          refine Rg_enter rfl (o_call1 Tryd.call26 (gsel (u := undef) (by rw [hs60]; rfl))) (Ok.mono (pnormal_ok _ _ _ hs21.trd (by omega) (normS_ok (rawL_ok _))) ?_)
          rintro v61 w61 ⟨hown61, x62⟩
          have z63 := Bel.size x62
          replace hX := Bel.ex hX x62
          replace dl := (fun z hz => (dl z hz).ext x62)
          replace hl := hl.ext x62
          replace hy := hy.ext x62
          replace hs17 := hs17.ext x62
          replace ht17 := ht17.ext x62
          replace hs21 := hs21.ext x62
          replace hown := hown.ext x62
          replace hrd41 := hrd41.ext x62
          replace hown61 := hown61.mono (D' := fun g => w29.heap.size ≤ g) (fun g h1 h2 => by omega)
          refine Rg_on 20 59 rfl (congrArg Value.bool hs60) ?_
          refine Rg_run rfl (o_moveh (v := u) rfl) ?_
          refine Rg_on 20 59 rfl (congrArg Value.bool hs60) ?_
          refine Rg_enter rfl (o_call2 Tryd.call27 rfl rfl) (Ok.mono (lsame_ok (False) _ _ _ (hown61.trd encP_ok) (by have := normS_len (normS (rawL l)); omega) (normS_ok (normS_ok (rawL_ok _))) _ _ (hown.trd encP_ok) (by omega) (normS_ok (rawL_ok _))) ?_)
          rintro _ w64 ⟨rfl, x65⟩
          have z66 := Bel.size x65
          replace hX := Bel.ex hX x65
          replace dl := (fun z hz => (dl z hz).ext x65)
          replace hl := hl.ext x65
          replace hy := hy.ext x65
          replace hs17 := hs17.ext x65
          replace ht17 := ht17.ext x65
          replace hs21 := hs21.ext x65
          replace hown := hown.ext x65
          replace hrd41 := hrd41.ext x65
          replace hown61 := hown61.ext x65
          refine Rg_run rfl (o_pickT (v := .bool _) (congrArg Value.bool hs60) rfl) ?_
          refine Rg_run rfl (o_assignh (v := .bool _) rfl) ?_
          refine Rg_nil ?_
          refine W_ret ?_
          refine ⟨_, res_tmp rfl rfl, ?_⟩
          refine ⟨congrArg Value.bool ?_, hX⟩
          all_goals (rw [norm_norm (rawL_ok _)]; exact beq_self_eq_true _)
        · skip
          refine Rg_off 20 59 rfl rfl (congrArg Value.bool hs60) rfl rfl ?_
          refine Rg_off 20 59 rfl rfl (congrArg Value.bool hs60) rfl rfl ?_
          refine Rg_off 20 59 rfl rfl (congrArg Value.bool hs60) rfl rfl ?_
          refine Rg_run rfl (o_pickF (v := .bool _) (congrArg Value.bool hs60) rfl) ?_
          refine Rg_run rfl (o_assignh (v := .bool _) rfl) ?_
          refine Rg_nil ?_
          refine W_ret ?_
          refine ⟨_, res_tmp rfl rfl, ?_⟩
          refine ⟨congrArg Value.bool ?_, hX⟩
          all_goals (rw [norm_norm (rawL_ok _)] at hs60; have hcv := norm_cov (rawL l) (actionS y.act) (pathS y.names); unfold covL at hcv; rw [hcv] at hs60; simp at hs60)

end Go.Proofs.YtgnphpimkfcmlaaDoor
