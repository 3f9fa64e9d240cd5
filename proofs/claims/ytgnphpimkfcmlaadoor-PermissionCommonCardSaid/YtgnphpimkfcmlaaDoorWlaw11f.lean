/- Walks, printed by program: each theorem says what a function of the translation returns. -/
import Derived.Test.YtgnphpimkfcmlaaDoorWlist11
import Derived.Test.YtgnphpimkfcmlaaDoorPure11g
namespace Go.Proofs.YtgnphpimkfcmlaaDoor
open Go Go.Lx Go.RowKit
set_option maxRecDepth 100000
set_option linter.unusedVariables false
set_option linter.unusedSimpArgs false
set_option linter.unnecessarySimpa false
theorem law_PermissionCommon (w : World) (vl : Value) (l : List RawV) (hl : Rd encR 3 (Lt w.heap.size) w vl l) (dl : ∀ z ∈ l, Sl encB 1 (Lt w.heap.size) w z.a z.c z.names) (vm : Value) (m : List RawV) (hm : Rd encR 3 (Lt w.heap.size) w vm m) (dm : ∀ z ∈ m, Sl encB 1 (Lt w.heap.size) w z.a z.c z.names) (y : RawV) (hy : Sl encB 1 (Lt w.heap.size) w y.a y.c y.names) : Ok Tryd.prog 9 #[vl, vm, .agg (encR y).toArray] w fun v w' => v = .bool (true) ∧ Ext False w w' := by
  obtain ⟨al, cl, rfl, hl⟩ := hl; have ml := hl.len
  obtain ⟨am, cm, rfl, hm⟩ := hm; have mm := hm.len
  have n8l := rawL_len l; have n8m := rawL_len m; have ncl := com_len n8l n8m; have ncm := com_len n8m n8l
  refine Ok_of_W 78 Tryd.func9 rfl rfl rfl ?_
  have hX : Ext False w w := Bel.refl _ _
  refine W_seq ?_
  refine W_region ?_
  refine Rg_newB rfl (o_box (v := .agg _) rfl) ?_
  intro b5 w1 x2 hge5 hb5
  have hlt5 := hb5.lt
  change Box _ _ _ (encR _) at hb5
  have z3 := Bel.size x2
  replace hX := Bel.ex hX x2
  replace dl := (fun z hz => (dl z hz).ext x2)
  replace dm := (fun z hz => (dm z hz).ext x2)
  replace hl := hl.ext x2
  replace hm := hm.ext x2
  replace hy := hy.ext x2
  refine Rg_run rfl o_assignc ?_
  refine Rg_nil ?_
  refine W_seq ?_
  refine W_seq ?_
  refine W_region ?_
  refine Rg_enter rfl (o_call0 Tryd.call13) (Ok.mono (awake_ok _) ?_)
  rintro _ w4 ⟨rfl, x5⟩
  have z6 := Bel.size x5
  replace hX := Bel.ex hX x5
  replace dl := (fun z hz => (dl z hz).ext x5)
  replace dm := (fun z hz => (dm z hz).ext x5)
  replace hl := hl.ext x5
  replace hm := hm.ext x5
  replace hy := hy.ext x5
  replace hb5 := hb5.ext x5
  refine Rg_run rfl (o_not rfl) ?_
  refine Rg_nil ?_
  refine W_cond rfl (fun hc1 => ?_) (fun hc1 => ?_)
  · skip
    refine W_seq ?_
    refine W_region ?_
    refine Rg_run rfl o_assignc ?_
    refine Rg_nil ?_
    refine W_ret ?_
    refine ⟨_, res_tmp rfl rfl, ?_⟩
    refine ⟨congrArg Value.bool ?_, hX⟩
    all_goals (cases hc1)
  · skip
    refine W_skip ?_
    refine W_seq ?_
    refine W_region ?_
    refine Rg_run rfl (o_moveh (v := .slice _ _ _) rfl) ?_
    refine Rg_enter rfl (o_call1 Tryd.call25 rfl) (Ok.mono (list_ok _ _ _ hl.trd (fun z hz => (dl z hz).top)) ?_)
    rintro _ w7 ⟨a21, c21, e21, f21, rfl, hs21, ht21, x8⟩
    have z9 := Bel.size x8
    replace hX := Bel.ex hX x8
    replace dl := (fun z hz => (dl z hz).ext x8)
    replace dm := (fun z hz => (dm z hz).ext x8)
    replace hl := hl.ext x8
    replace hm := hm.ext x8
    replace hy := hy.ext x8
    replace hb5 := hb5.ext x8
    refine Rg_run rfl (o_moveh (v := .tuple _) rfl) ?_
    refine Rg_run rfl (o_extract rfl rfl) ?_
    refine Rg_run rfl (o_extract rfl rfl) ?_
    refine Rg_run rfl (o_assignh (v := .slice _ _ _) rfl) ?_
    refine Rg_run rfl (o_assignh (v := .slice _ _ _) rfl) ?_
    refine Rg_nil ?_
    refine W_seq ?_
    refine W_region ?_
    refine Rg_run rfl (o_moveh (v := .slice _ _ _) rfl) ?_
    refine Rg_enter rfl (o_call1 Tryd.call25 rfl) (Ok.mono (list_ok _ _ _ hm.trd (fun z hz => (dm z hz).top)) ?_)
    rintro _ w10 ⟨a26, c26, e26, f26, rfl, hs26, ht26, x11⟩
    have z12 := Bel.size x11
    replace hX := Bel.ex hX x11
    replace dl := (fun z hz => (dl z hz).ext x11)
    replace dm := (fun z hz => (dm z hz).ext x11)
    replace hl := hl.ext x11
    replace hm := hm.ext x11
    replace hy := hy.ext x11
    replace hb5 := hb5.ext x11
    replace hs21 := hs21.ext x11
    replace ht21 := ht21.ext x11
    refine Rg_run rfl (o_moveh (v := .tuple _) rfl) ?_
    refine Rg_run rfl (o_extract rfl rfl) ?_
    refine Rg_run rfl (o_extract rfl rfl) ?_
    refine Rg_run rfl (o_assignh (v := .slice _ _ _) rfl) ?_
    refine Rg_run rfl (o_assignh (v := .slice _ _ _) rfl) ?_
    refine Rg_nil ?_
    refine W_seq ?_
    refine W_region ?_
    refine Rg_run rfl (o_moveh (v := .slice _ _ _) rfl) ?_
    refine Rg_run rfl (o_moveh (v := .slice _ _ _) rfl) ?_
    refine Rg_enter rfl (o_call2 Tryd.call33 rfl rfl) (Ok.mono (pcommon_ok _ _ _ hs21.trd (by omega) (rawL_ok _) _ _ hs26.trd (by omega) (rawL_ok _)) ?_)
    rintro v31 w13 ⟨hown31, x14⟩
    have z15 := Bel.size x14
    replace hX := Bel.ex hX x14
    replace dl := (fun z hz => (dl z hz).ext x14)
    replace dm := (fun z hz => (dm z hz).ext x14)
    replace hl := hl.ext x14
    replace hm := hm.ext x14
    replace hy := hy.ext x14
    replace hb5 := hb5.ext x14
    replace hs21 := hs21.ext x14
    replace ht21 := ht21.ext x14
    replace hs26 := hs26.ext x14
    replace ht26 := ht26.ext x14
    obtain ⟨a31, c31, hv31, hs31⟩ := hown31.sl encP_ok; subst hv31
    refine Rg_run rfl (o_assignh (v := .slice _ _ _) rfl) ?_
    refine Rg_nil ?_
    refine W_seq ?_
    refine W_region ?_
    refine Rg_run rfl o_assignc ?_
    refine Rg_nil ?_
    refine W_seq ?_
    refine W_seq ?_
    refine W_region ?_
    refine Rg_run rfl (o_moveh (v := .slice _ _ _) rfl) ?_
    refine Rg_run rfl (o_llen Tryd.underlying46 rfl) ?_
    refine Rg_run rfl o_movec ?_
    refine Rg_nil ?_
    refine W_block ?_
    refine W_for (α := Nat × Value) [(12, 12), (14, 14), (34, 42)] (fun q => [(34, .int .i64 (q.1 : Int)), (12, q.2)]) (fun q w' => (q.1 ≤ (normS (comL (rawL l) (rawL m))).length) ∧ Bel False (fun g => w13.heap.size ≤ g) w13 w' ∧ (Own encP 3 28 (fun g => w13.heap.size ≤ g) w' q.2 ((normS (comL (rawL l) (rawL m))).take q.1))) (fun q => (normS (comL (rawL l) (rawL m))).length - q.1) (0, .slice none 0 0) ⟨rfl, rfl, trivial⟩ ⟨Nat.zero_le _, Bel.refl _ _, Own.nil _ _⟩ ?_
    rintro ⟨k, u⟩ fb18 w17 ⟨hk, hXL16, hown⟩
    dsimp only at *
    have z19 := Bel.size hXL16
    replace hX := Bel.out hX hXL16 (fun g h1 h2 => by first | exact h2 | omega)
    replace dl := fun z hz => (dl z hz).keep hXL16 (fun g h1 h2 h3 => by omega)
    replace dm := fun z hz => (dm z hz).keep hXL16 (fun g h1 h2 h3 => by omega)
    replace hl := hl.keep hXL16 (fun g h1 h2 h3 => by omega)
    replace hm := hm.keep hXL16 (fun g h1 h2 h3 => by omega)
    replace hy := hy.keep hXL16 (fun g h1 h2 h3 => by omega)
    replace hb5 := hb5.keep hXL16 (fun h => by omega)
    replace hs21 := hs21.keep hXL16 (fun g h1 h2 h3 => by omega)
    replace ht21 := ht21.keep hXL16 (fun g h1 h2 h3 => by omega)
    replace hs26 := hs26.keep hXL16 (fun g h1 h2 h3 => by omega)
    replace ht26 := ht26.keep hXL16 (fun g h1 h2 h3 => by omega)
    replace hs31 := hs31.keep hXL16 (fun g h1 h2 h3 => by omega)
    refine W_seq ?_
    refine W_region ?_
    refine Rg_run rfl (o_lss rfl rfl) ?_
    refine Rg_nil ?_
    refine W_seq ?_
    refine W_cond rfl (fun hc2 => ?_) (fun hc2 => ?_)
    · skip
      replace hc2 := of_decide_eq_true hc2
      refine W_skip ?_
      refine W_seq ?_
      refine W_block ?_
      refine W_seq ?_
      refine W_region ?_
      refine Rg_run rfl (o_iaR Tryd.underlying46 Tryd.sizeOf27 hs31 rfl rfl (by first | omega | (unfold I64; omega) | (simp; done) | (simp; omega) | (simp at *; omega))) ?_
      refine Rg_run rfl (o_ldRS Tryd.isAgg27 Tryd.sizeOf27 hs31 rfl (getE pz (by omega))) ?_
      refine Rg_alst rfl rfl Tryd.zeroValue27 rfl Tryd.sizeOf27 (fun _ => rfl) rfl rfl ?_
      intro b14 w20 x21 hge14 hb14
      have hlt14 := hb14.lt
      change Box _ _ _ (encP _) at hb14
      have z22 := Bel.size x21
      replace hX := Bel.ex hX x21
      replace hXL16 := Bel.ex hXL16 x21
      replace dl := (fun z hz => (dl z hz).ext x21)
      replace dm := (fun z hz => (dm z hz).ext x21)
      replace hl := hl.ext x21
      replace hm := hm.ext x21
      replace hy := hy.ext x21
      replace hb5 := hb5.ext x21
      replace hs21 := hs21.ext x21
      replace ht21 := ht21.ext x21
      replace hs26 := hs26.ext x21
      replace ht26 := ht26.ext x21
      replace hs31 := hs31.ext x21
      replace hown := hown.ext x21
      refine Rg_nil ?_
      refine W_region ?_
      refine Rg_run rfl (o_moveh (v := u) rfl) ?_
      refine Rg_run rfl (o_loadS Tryd.isAgg27 Tryd.sizeOf27 rfl hb14.at rfl) ?_
      refine Rg_bs (vs := [.agg _]) ([(normS (comL (rawL l) (rawL m))).getD k pz]) rfl encP_ok el_rperm rfl rfl ⟨rfl, trivial⟩ rfl rfl rfl rfl ?_
      intro a40 w23 x24 hown40
      have z25 := Bel.size x24
      replace hX := Bel.ex hX x24
      replace hXL16 := Bel.ex hXL16 x24
      replace dl := (fun z hz => (dl z hz).ext x24)
      replace dm := (fun z hz => (dm z hz).ext x24)
      replace hl := hl.ext x24
      replace hm := hm.ext x24
      replace hy := hy.ext x24
      replace hb5 := hb5.ext x24
      replace hs21 := hs21.ext x24
      replace ht21 := ht21.ext x24
      replace hs26 := hs26.ext x24
      replace ht26 := ht26.ext x24
      replace hs31 := hs31.ext x24
      replace hown := hown.ext x24
      replace hb14 := hb14.ext x24
      replace hown40 := hown40.mono (D' := fun g => w13.heap.size ≤ g) (fun g h1 h2 => by omega)
      refine Rg_app rfl encP_ok el_rperm rfl rfl hown (hown40.slA encP_ok) rfl (by simp; omega) (fun g h => by omega) ?_
      intro v41 w26 x27 hown
      have z28 := Bel.size x27
      replace hX := Bel.out hX x27 (fun g h1 h2 => by first | exact h2 | omega)
      replace hXL16 := Bel.out hXL16 x27 (fun g h1 h2 => by first | exact h2 | omega)
      replace dl := fun z hz => (dl z hz).keep x27 (fun g h1 h2 h3 => by omega)
      replace dm := fun z hz => (dm z hz).keep x27 (fun g h1 h2 h3 => by omega)
      replace hl := hl.keep x27 (fun g h1 h2 h3 => by omega)
      replace hm := hm.keep x27 (fun g h1 h2 h3 => by omega)
      replace hy := hy.keep x27 (fun g h1 h2 h3 => by omega)
      replace hb5 := hb5.keep x27 (fun h => by omega)
      replace hs21 := hs21.keep x27 (fun g h1 h2 h3 => by omega)
      replace ht21 := ht21.keep x27 (fun g h1 h2 h3 => by omega)
      replace hs26 := hs26.keep x27 (fun g h1 h2 h3 => by omega)
      replace ht26 := ht26.keep x27 (fun g h1 h2 h3 => by omega)
      replace hs31 := hs31.keep x27 (fun g h1 h2 h3 => by omega)
      refine Rg_run rfl (o_assignh (v := v41) rfl) ?_
      refine Rg_nil ?_
      refine W_region ?_
      refine Rg_run rfl (o_add rfl rfl (by unfold I64; omega)) ?_
      refine Rg_run rfl (o_moveh (v := .int _ _) rfl) ?_
      refine Rg_nil ?_
      refine ⟨(k + 1, v41), ⟨?_, ?_, trivial⟩, ?_, ⟨?_, hXL16, ?_⟩, ?_⟩
      · first | rfl | (go_num) | (exact congrArg _ (by omega))
      · first | rfl | (go_num) | (exact congrArg _ (by omega))
      · repeat (first | exact off_refl _ _ | exact off_mix | refine off_put rfl ?_ | refine off_putN ?_ | refine off_setL rfl ?_ | refine off_mix' rfl ?_)
      · show k + 1 ≤ (normS (comL (rawL l) (rawL m))).length; omega
      · show Own _ _ _ _ _ _ ((normS (comL (rawL l) (rawL m))).take (k + 1)); rw [takeD_succ (by omega)]; exact hown.mono (fun g h1 h2 => by omega)
      · show (normS (comL (rawL l) (rawL m))).length - (k + 1) < (normS (comL (rawL l) (rawL m))).length - k; omega
    · skip
      replace hc2 := of_decide_eq_false hc2; rw [List.take_of_length_le (by omega)] at hown
      refine W_exit ?_
      refine exAt_hit ?_
      refine W_seq ?_
      apply W_draw (β := False) [peq _, peq _, peq _, peq _, peq _, peq _, peq _, peq _] 8 mixed (by kernel_rfl) rfl ⟨peq_stable _, peq_stable _, peq_stable _, peq_stable _, peq_stable _, peq_stable _, peq_stable _, peq_stable _, trivial⟩ ?ob12 ?fin12
      case ob12 =>
        refine OblL_cons (fun w29 x30 => ?_) ?_
        · skip
          have dl := (fun z hz => (dl z hz).ext x30)
          have dm := (fun z hz => (dm z hz).ext x30)
          have hl := hl.ext x30
          have hm := hm.ext x30
          have hy := hy.ext x30
          have hb5 := hb5.ext x30
          have hs21 := hs21.ext x30
          have ht21 := ht21.ext x30
          have hs26 := hs26.ext x30
          have ht26 := ht26.ext x30
          have hs31 := hs31.ext x30
          have hown := hown.ext x30
          refine bindP_nil ?_
          exact OpS_v rfl (o_fa Tryd.underlying24 rfl Tryd.sizeOf5 rfl)
        refine OblL_cons (fun w31 x32 => ?_) ?_
        · skip
          have dl := (fun z hz => (dl z hz).ext x32)
          have dm := (fun z hz => (dm z hz).ext x32)
          have hl := hl.ext x32
          have hm := hm.ext x32
          have hy := hy.ext x32
          have hb5 := hb5.ext x32
          have hs21 := hs21.ext x32
          have ht21 := ht21.ext x32
          have hs26 := hs26.ext x32
          have ht26 := ht26.ext x32
          have hs31 := hs31.ext x32
          have hown := hown.ext x32
          refine bindP_eq ?_
          refine bindP_nil ?_
          exact OpS_v rfl (o_load1 Tryd.isAgg5 rfl (hb5.at.get 0 rfl))
        refine OblL_cons (fun w33 x34 => ?_) ?_
        · skip
          have dl := (fun z hz => (dl z hz).ext x34)
          have dm := (fun z hz => (dm z hz).ext x34)
          have hl := hl.ext x34
          have hm := hm.ext x34
          have hy := hy.ext x34
          have hb5 := hb5.ext x34
          have hs21 := hs21.ext x34
          have ht21 := ht21.ext x34
          have hs26 := hs26.ext x34
          have ht26 := ht26.ext x34
          have hs31 := hs31.ext x34
          have hown := hown.ext x34
          refine bindP_eq ?_
          refine bindP_nil ?_
          exact OpS_call rfl (o_call1 Tryd.call17 rfl) (raction_ok (False) _ _)
        refine OblL_cons (fun w35 x36 => ?_) ?_
        · skip
          have dl := (fun z hz => (dl z hz).ext x36)
          have dm := (fun z hz => (dm z hz).ext x36)
          have hl := hl.ext x36
          have hm := hm.ext x36
          have hy := hy.ext x36
          have hb5 := hb5.ext x36
          have hs21 := hs21.ext x36
          have ht21 := ht21.ext x36
          have hs26 := hs26.ext x36
          have ht26 := ht26.ext x36
          have hs31 := hs31.ext x36
          have hown := hown.ext x36
          refine bindP_nil ?_
          exact OpS_v rfl (o_fa Tryd.underlying24 rfl Tryd.sizeOf22 rfl)
        refine OblL_cons (fun w37 x38 => ?_) ?_
        · skip
          have dl := (fun z hz => (dl z hz).ext x38)
          have dm := (fun z hz => (dm z hz).ext x38)
          have hl := hl.ext x38
          have hm := hm.ext x38
          have hy := hy.ext x38
          have hb5 := hb5.ext x38
          have hs21 := hs21.ext x38
          have ht21 := ht21.ext x38
          have hs26 := hs26.ext x38
          have ht26 := ht26.ext x38
          have hs31 := hs31.ext x38
          have hown := hown.ext x38
          refine bindP_eq ?_
          refine bindP_nil ?_
          exact OpS_v rfl (o_load1 Tryd.isAgg22 rfl (hb5.at.get 1 rfl))
        refine OblL_cons (fun w39 x40 => ?_) ?_
        · skip
          have dl := (fun z hz => (dl z hz).ext x40)
          have dm := (fun z hz => (dm z hz).ext x40)
          have hl := hl.ext x40
          have hm := hm.ext x40
          have hy := hy.ext x40
          have hb5 := hb5.ext x40
          have hs21 := hs21.ext x40
          have ht21 := ht21.ext x40
          have hs26 := hs26.ext x40
          have ht26 := ht26.ext x40
          have hs31 := hs31.ext x40
          have hown := hown.ext x40
          refine bindP_eq ?_
          refine bindP_eq ?_
          refine bindP_nil ?_
          exact OpS_call rfl (o_call1 Tryd.call18 rfl) (rpath_ok _ _ _ hy.trd)
        refine OblL_cons (fun w41 x42 => ?_) ?_
        · skip
          have dl := (fun z hz => (dl z hz).ext x42)
          have dm := (fun z hz => (dm z hz).ext x42)
          have hl := hl.ext x42
          have hm := hm.ext x42
          have hy := hy.ext x42
          have hb5 := hb5.ext x42
          have hs21 := hs21.ext x42
          have ht21 := ht21.ext x42
          have hs26 := hs26.ext x42
          have ht26 := ht26.ext x42
          have hs31 := hs31.ext x42
          have hown := hown.ext x42
          refine bindP_eq ?_
          refine bindP_eq ?_
          refine bindP_eq ?_
          refine bindP_eq ?_
          refine bindP_eq ?_
          refine bindP_nil ?_
          exact OpS_v rfl (o_assignh (v := str _) rfl)
        refine OblL_cons (fun w43 x44 => ?_) ?_
        · skip
          have dl := (fun z hz => (dl z hz).ext x44)
          have dm := (fun z hz => (dm z hz).ext x44)
          have hl := hl.ext x44
          have hm := hm.ext x44
          have hy := hy.ext x44
          have hb5 := hb5.ext x44
          have hs21 := hs21.ext x44
          have ht21 := ht21.ext x44
          have hs26 := hs26.ext x44
          have ht26 := ht26.ext x44
          have hs31 := hs31.ext x44
          have hown := hown.ext x44
          refine bindP_eq ?_
          refine bindP_eq ?_
          refine bindP_eq ?_
          refine bindP_eq ?_
          refine bindP_eq ?_
          refine bindP_eq ?_
          refine bindP_eq ?_
          refine bindP_eq ?_
          refine bindP_eq ?_
          refine bindP_nil ?_
          exact OpS_v rfl (o_assignh (v := str _) rfl)
        exact OblL_nil
      case fin12 =>
        intro w45 x46
        have z47 := Bel.size x46
        replace hX := Bel.ex hX x46
        replace dl := (fun z hz => (dl z hz).ext x46)
        replace dm := (fun z hz => (dm z hz).ext x46)
        replace hl := hl.ext x46
        replace hm := hm.ext x46
        replace hy := hy.ext x46
        replace hb5 := hb5.ext x46
        replace hs21 := hs21.ext x46
        replace ht21 := ht21.ext x46
        replace hs26 := hs26.ext x46
        replace ht26 := ht26.ext x46
        replace hs31 := hs31.ext x46
        replace hown := hown.ext x46
        refine bindP_eq ?_
        refine bindP_eq ?_
        refine bindP_eq ?_
        refine bindP_eq ?_
        refine bindP_eq ?_
        refine bindP_eq ?_
        refine bindP_eq ?_
        refine bindP_eq ?_
        refine bindP_nil ?_
        refine Rg_nil ?_
        refine W_seq ?_
        refine W_region ?_
        refine Rg_run rfl (o_moveh (v := .slice _ _ _) rfl) ?_
        refine Rg_run rfl (o_moveh (v := .slice _ _ _) rfl) ?_
        refine Rg_run rfl (o_moveh (v := .slice _ _ _) rfl) ?_
        refine Rg_enter rfl (o_call2 Tryd.call34 rfl rfl) (Ok.mono (rcommon_ok _ _ _ ht21.trd (by omega) (rawL_ok _) _ _ ht26.trd (by omega) (rawL_ok _)) ?_)
        rintro v52 w48 ⟨hrd52, x49⟩
        have z50 := Bel.size x49
        replace hX := Bel.ex hX x49
        replace dl := (fun z hz => (dl z hz).ext x49)
        replace dm := (fun z hz => (dm z hz).ext x49)
        replace hl := hl.ext x49
        replace hm := hm.ext x49
        replace hy := hy.ext x49
        replace hb5 := hb5.ext x49
        replace hs21 := hs21.ext x49
        replace ht21 := ht21.ext x49
        replace hs26 := hs26.ext x49
        replace ht26 := ht26.ext x49
        replace hs31 := hs31.ext x49
        replace hown := hown.ext x49
        rw [← com_r (rawL_ok _) (rawL_ok _)] at hrd52
        refine Rg_enter rfl (o_call2 Tryd.call27 rfl rfl) (Ok.mono (lsame_ok (False) _ _ _ hs31.trd (by omega) (normS_ok (comL_ok (rawL_ok _) (rawL_ok _))) _ _ hrd52.top (by omega) (normS_ok (comL_ok (rawL_ok _) (rawL_ok _)))) ?_)
        rintro _ w51 ⟨rfl, x52⟩
        have z53 := Bel.size x52
        replace hX := Bel.ex hX x52
        replace dl := (fun z hz => (dl z hz).ext x52)
        replace dm := (fun z hz => (dm z hz).ext x52)
        replace hl := hl.ext x52
        replace hm := hm.ext x52
        replace hy := hy.ext x52
        replace hb5 := hb5.ext x52
        replace hs21 := hs21.ext x52
        replace ht21 := ht21.ext x52
        replace hs26 := hs26.ext x52
        replace ht26 := ht26.ext x52
        replace hs31 := hs31.ext x52
        replace hown := hown.ext x52
        replace hrd52 := hrd52.ext x52
        refine Rg_run rfl (o_moveh (v := .bool _) rfl) ?_
        refine Rg_may 5 54 rfl rfl rfl (fun hg => (o_moveh (v := u) rfl)) ?_
        refine Rg_may 5 54 rfl rfl rfl (fun hg => (o_moveh (v := str _) rfl)) ?_
        refine Rg_may 5 54 rfl rfl rfl (fun hg => (o_moveh (v := str _) rfl)) ?_
        refine Rg_mayCall 5 54 rfl rfl rfl (fun hg => ⟨(o_call3 Tryd.call29 (gsel (u := undef) hg) (gsel (u := undef) hg) (gsel (u := undef) hg)), rany_ok _ _ _ (hown.trd encP_ok) (by omega) (normS_ok (comL_ok (rawL_ok _) (rawL_ok _))) _ (by have := actionS_len y.act; omega) _ (by have := pathS_len y.names; omega)⟩) ?_
        intro w54 x55
        have z56 := Bel.size x55
        replace hX := Bel.ex hX x55
        replace dl := (fun z hz => (dl z hz).ext x55)
        replace dm := (fun z hz => (dm z hz).ext x55)
        replace hl := hl.ext x55
        replace hm := hm.ext x55
        replace hy := hy.ext x55
        replace hb5 := hb5.ext x55
        replace hs21 := hs21.ext x55
        replace ht21 := ht21.ext x55
        replace hs26 := hs26.ext x55
        replace ht26 := ht26.ext x55
        replace hs31 := hs31.ext x55
        replace hown := hown.ext x55
        replace hrd52 := hrd52.ext x55
        refine Rg_may 5 54 rfl rfl rfl (fun hg => (o_moveh (v := .slice _ _ _) rfl)) ?_
        refine Rg_may 5 54 rfl rfl rfl (fun hg => (o_moveh (v := str _) rfl)) ?_
        refine Rg_may 5 54 rfl rfl rfl (fun hg => (o_moveh (v := str _) rfl)) ?_
        refine Rg_mayCall 5 54 rfl rfl rfl (fun hg => ⟨(o_call3 Tryd.call29 (gsel (u := undef) hg) (gsel (u := undef) hg) (gsel (u := undef) hg)), rany_ok _ _ _ ht21.trd (by omega) (rawL_ok _) _ (by have := actionS_len y.act; omega) _ (by have := pathS_len y.names; omega)⟩) ?_
        intro w57 x58
        have z59 := Bel.size x58
        replace hX := Bel.ex hX x58
        replace dl := (fun z hz => (dl z hz).ext x58)
        replace dm := (fun z hz => (dm z hz).ext x58)
        replace hl := hl.ext x58
        replace hm := hm.ext x58
        replace hy := hy.ext x58
        replace hb5 := hb5.ext x58
        replace hs21 := hs21.ext x58
        replace ht21 := ht21.ext x58
        replace hs26 := hs26.ext x58
        replace ht26 := ht26.ext x58
        replace hs31 := hs31.ext x58
        replace hown := hown.ext x58
        replace hrd52 := hrd52.ext x58
        refine Rg_may 5 54 rfl rfl rfl (fun hg => (o_moveh (v := .bool _) (gsel (u := undef) hg))) ?_
        refine Rg_may2 14 63 rfl rfl rfl (fun hg => (o_moveh (v := .slice _ _ _) rfl)) ?_
        refine Rg_may2 14 63 rfl rfl rfl (fun hg => (o_moveh (v := str _) rfl)) ?_
        refine Rg_may2 14 63 rfl rfl rfl (fun hg => (o_moveh (v := str _) rfl)) ?_
        refine Rg_mayCall2 14 63 rfl rfl rfl (fun hg => ⟨(o_call3 Tryd.call29 (gsel (u := undef) hg) (gsel (u := undef) hg) (gsel (u := undef) hg)), rany_ok _ _ _ ht26.trd (by omega) (rawL_ok _) _ (by have := actionS_len y.act; omega) _ (by have := pathS_len y.names; omega)⟩) ?_
        intro w60 x61
        have z62 := Bel.size x61
        replace hX := Bel.ex hX x61
        replace dl := (fun z hz => (dl z hz).ext x61)
        replace dm := (fun z hz => (dm z hz).ext x61)
        replace hl := hl.ext x61
        replace hm := hm.ext x61
        replace hy := hy.ext x61
        replace hb5 := hb5.ext x61
        replace hs21 := hs21.ext x61
        replace ht21 := ht21.ext x61
        replace hs26 := hs26.ext x61
        replace ht26 := ht26.ext x61
        replace hs31 := hs31.ext x61
        replace hown := hown.ext x61
        replace hrd52 := hrd52.ext x61
        refine Rg_may 5 54 rfl rfl rfl (fun hg => (o_and (u := undef) (gsel (u := undef) hg) (gand (u := undef) hg))) ?_
        refine Rg_may 5 54 rfl rfl rfl (fun hg => (o_beql Tryd.underlying4 (gsel (u := undef) hg) (gsel (u := undef) hg))) ?_
        refine Rg_run rfl (o_and (u := undef) rfl rfl) ?_
        refine Rg_run rfl (o_moveh (v := .bool _) rfl) ?_
        refine Rg_may 22 71 rfl rfl rfl (fun hg => (o_moveh (v := .slice _ _ _) rfl)) ?_
        refine Rg_may 22 71 rfl rfl rfl (fun hg => (o_moveh (v := .slice _ _ _) rfl)) ?_
        refine Rg_may 22 71 rfl rfl rfl (fun hg => (o_moveh (v := .slice _ _ _) rfl)) ?_
        refine Rg_split 71 rfl (fun hs63 => ?_) (fun hs63 => ?_)
        · skip
          refine Rg_on 22 71 rfl (congrArg Value.bool hs63) ?_
          refine Rg_enter rfl (o_call2 Tryd.call33 (gsel (u := undef) (by rw [hs63]; rfl)) (gsel (u := undef) (by rw [hs63]; rfl))) (Ok.mono (pcommon_ok _ _ _ hs26.trd (by omega) (rawL_ok _) _ _ hs21.trd (by omega) (rawL_ok _)) ?_)
          rintro v75 w64 ⟨hown75, x65⟩
          have z66 := Bel.size x65
          replace hX := Bel.ex hX x65
          replace dl := (fun z hz => (dl z hz).ext x65)
          replace dm := (fun z hz => (dm z hz).ext x65)
          replace hl := hl.ext x65
          replace hm := hm.ext x65
          replace hy := hy.ext x65
          replace hb5 := hb5.ext x65
          replace hs21 := hs21.ext x65
          replace ht21 := ht21.ext x65
          replace hs26 := hs26.ext x65
          replace ht26 := ht26.ext x65
          replace hs31 := hs31.ext x65
          replace hown := hown.ext x65
          replace hrd52 := hrd52.ext x65
          replace hown75 := hown75.mono (D' := fun g => w13.heap.size ≤ g) (fun g h1 h2 => by omega)
          refine Rg_on 22 71 rfl (congrArg Value.bool hs63) ?_
          refine Rg_enter rfl (o_call2 Tryd.call30 (gsel (u := undef) (by rw [hs63]; rfl)) rfl) (Ok.mono (psame_ok _ _ _ hs31.trd (by omega) (normS_ok (comL_ok (rawL_ok _) (rawL_ok _))) _ _ (hown75.trd encP_ok) (by omega) (normS_ok (comL_ok (rawL_ok _) (rawL_ok _)))) ?_)
          rintro _ w67 ⟨rfl, x68⟩
          have z69 := Bel.size x68
          replace hX := Bel.ex hX x68
          replace dl := (fun z hz => (dl z hz).ext x68)
          replace dm := (fun z hz => (dm z hz).ext x68)
          replace hl := hl.ext x68
          replace hm := hm.ext x68
          replace hy := hy.ext x68
          replace hb5 := hb5.ext x68
          replace hs21 := hs21.ext x68
          replace ht21 := ht21.ext x68
          replace hs26 := hs26.ext x68
          replace ht26 := ht26.ext x68
          replace hs31 := hs31.ext x68
          replace hown := hown.ext x68
          replace hrd52 := hrd52.ext x68
          replace hown75 := hown75.ext x68
          refine Rg_run rfl (o_pickT (v := .bool _) (congrArg Value.bool hs63) rfl) ?_
          refine Rg_run rfl (o_assignh (v := .bool _) rfl) ?_
          refine Rg_nil ?_
          refine W_ret ?_
          refine ⟨_, res_tmp rfl rfl, ?_⟩
          refine ⟨congrArg Value.bool ?_, hX⟩
          all_goals (rw [com_swap (rawL_ok _) (rawL_ok _)]; exact beq_self_eq_true _)
        · skip
          refine Rg_off 22 71 rfl rfl (congrArg Value.bool hs63) rfl rfl ?_
          refine Rg_off 22 71 rfl rfl (congrArg Value.bool hs63) rfl rfl ?_
          refine Rg_run rfl (o_pickF (v := .bool _) (congrArg Value.bool hs63) rfl) ?_
          refine Rg_run rfl (o_assignh (v := .bool _) rfl) ?_
          refine Rg_nil ?_
          refine W_ret ?_
          refine ⟨_, res_tmp rfl rfl, ?_⟩
          refine ⟨congrArg Value.bool ?_, hX⟩
          all_goals (have h1 := norm_cov (comL (rawL l) (rawL m)) (actionS y.act) (pathS y.names); rw [com_cov] at h1; unfold covL at h1; rw [h1] at hs63; simp at hs63)

end Go.Proofs.YtgnphpimkfcmlaaDoor
