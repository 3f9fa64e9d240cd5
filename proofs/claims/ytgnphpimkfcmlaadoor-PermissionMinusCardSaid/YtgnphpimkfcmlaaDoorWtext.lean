/- Walks, printed by program: each theorem says what a function of the translation returns. -/
import Derived.Test.YtgnphpimkfcmlaaDoorWperm
import Derived.Test.YtgnphpimkfcmlaaDoorPure11c
import Derived.Test.YtgnphpimkfcmlaaDoorMore
namespace Go.Proofs.YtgnphpimkfcmlaaDoor
open Go Go.Lx Go.RowKit
set_option maxRecDepth 100000
set_option linter.unusedVariables false
set_option linter.unusedSimpArgs false
set_option linter.unnecessarySimpa false
theorem hassuffix0_ok (β : Prop) (w : World) (s : Str) (hs : s.length ≤ 1000000) (p : Str) (hp : p.length ≤ 1000000) : Ok Tryd.prog 95 #[str s, str p] w fun v w' => v = .bool (hasSuf s p) ∧ Ext β w w' := by
  refine Ok_of_W 21 Tryd.func95 rfl rfl rfl ?_
  have hX : Ext β w w := Bel.refl _ _
  refine W_seq ?_
  refine W_region ?_
  refine Rg_run rfl o_assignc ?_
  refine Rg_nil ?_
  refine W_seq ?_
  refine W_region ?_
  refine Rg_run rfl (o_moveh (v := str _) rfl) ?_
  refine Rg_run rfl (o_slen Tryd.underlying9 rfl) ?_
  refine Rg_run rfl (o_moveh (v := str _) rfl) ?_
  refine Rg_run rfl (o_slen Tryd.underlying9 rfl) ?_
  refine Rg_run rfl (o_geq rfl rfl) ?_
  refine Rg_run rfl (o_moveh (v := .bool _) rfl) ?_
  refine Rg_may 5 10 rfl rfl rfl (fun hg => (o_moveh (v := str _) rfl)) ?_
  refine Rg_may 5 10 rfl rfl rfl (fun hg => (o_moveh (v := str _) rfl)) ?_
  refine Rg_may 5 10 rfl rfl rfl (fun hg => (o_slen Tryd.underlying9 (gsel (u := undef) hg))) ?_
  refine Rg_may 5 10 rfl rfl rfl (fun hg => (o_moveh (v := str _) rfl)) ?_
  refine Rg_may 5 10 rfl rfl rfl (fun hg => (o_slen Tryd.underlying9 (gsel (u := undef) hg))) ?_
  refine Rg_may 5 10 rfl rfl rfl (fun hg => (o_subN (gsel (u := undef) hg) (gsel (u := undef) hg) (by have := of_decide_eq_true (eq_of_beq hg); omega) (by omega))) ?_
  refine Rg_may 5 10 rfl rfl rfl (fun hg => (o_sfrom (i := s.length - p.length) Tryd.underlying9 (gsel (u := undef) hg) (gsel (u := undef) hg) (by omega))) ?_
  refine Rg_may 5 10 rfl rfl rfl (fun hg => (o_moveh (v := str _) rfl)) ?_
  refine Rg_may 5 10 rfl rfl rfl (fun hg => (o_seql (gsel (u := undef) hg) (gsel (u := undef) hg))) ?_
  refine Rg_run rfl (o_and (u := undef) rfl rfl) ?_
  refine Rg_run rfl (o_assignh (v := .bool _) rfl) ?_
  refine Rg_nil ?_
  refine W_ret ?_
  refine ⟨_, res_tmp rfl rfl, ?_⟩
  refine ⟨congrArg Value.bool ?_, hX⟩
  all_goals (rfl)

theorem cutsuf0_ok (β : Prop) (w : World) (s : Str) (hs : s.length ≤ 1000000) (p : Str) (hp : p.length ≤ 1000000) : Ok Tryd.prog 78 #[str s, str p] w fun v w' => v = .tuple #[str (cutSuf s p), .bool (hasSuf s p)] ∧ Ext β w w' := by
  refine Ok_of_W 18 Tryd.func78 rfl rfl rfl ?_
  have hX : Ext β w w := Bel.refl _ _
  refine W_seq ?_
  refine W_region ?_
  refine Rg_run rfl o_assignc ?_
  refine Rg_run rfl o_assignc ?_
  refine Rg_nil ?_
  refine W_seq ?_
  refine W_seq ?_
  refine W_region ?_
  refine Rg_run rfl (o_moveh (v := str _) rfl) ?_
  refine Rg_run rfl (o_moveh (v := str _) rfl) ?_
  refine Rg_enter rfl (o_call2 Tryd.call95 rfl rfl) (Ok.mono (hassuffix0_ok (β) _ _ (by first | assumption | omega | (simp; done) | (simp; omega) | (simp at *; omega)) _ (by first | assumption | omega | (simp; done) | (simp; omega) | (simp at *; omega))) ?_)
  rintro _ w1 ⟨rfl, x2⟩
  replace hX := Bel.ex hX x2
  refine Rg_run rfl (o_not rfl) ?_
  refine Rg_nil ?_
  refine W_cond rfl (fun hc1 => ?_) (fun hc1 => ?_)
  · skip
    first | replace hc1 := of_decide_eq_true hc1 | replace hc1 := bnot_t hc1 | skip
    refine W_seq ?_
    refine W_region ?_
    refine Rg_run rfl (o_moveh (v := str _) rfl) ?_
    refine Rg_run rfl (o_assignh (v := str _) rfl) ?_
    refine Rg_run rfl o_assignc ?_
    refine Rg_nil ?_
    refine W_ret ?_
    refine ⟨_, res_tmp2 rfl rfl rfl, ?_⟩
    exact ⟨by rw [cutSuf, hc1]; rfl, hX⟩
  · skip
    first | replace hc1 := of_decide_eq_false hc1 | replace hc1 := bnot_f hc1 | skip
    refine W_skip ?_
    refine W_seq ?_
    refine W_region ?_
    refine Rg_run rfl (o_moveh (v := str _) rfl) ?_
    refine Rg_run rfl (o_moveh (v := str _) rfl) ?_
    refine Rg_run rfl (o_slen Tryd.underlying9 rfl) ?_
    refine Rg_run rfl (o_moveh (v := str _) rfl) ?_
    refine Rg_run rfl (o_slen Tryd.underlying9 rfl) ?_
    refine Rg_run rfl (o_subN rfl rfl (hasSuf_le hc1) (by omega)) ?_
    refine Rg_run rfl (o_sto (j := s.length - p.length) Tryd.underlying9 rfl rfl (by omega)) ?_
    refine Rg_run rfl (o_assignh (v := str _) rfl) ?_
    refine Rg_run rfl o_assignc ?_
    refine Rg_nil ?_
    refine W_ret ?_
    refine ⟨_, res_tmp2 rfl rfl rfl, ?_⟩
    exact ⟨by rw [cutSuf, hc1]; rfl, hX⟩

theorem cutsuf_ok (β : Prop) (w : World) (s : Str) (hs : s.length ≤ 1000000) (p : Str) (hp : p.length ≤ 1000000) : Ok Tryd.prog 62 #[str s, str p] w fun v w' => v = .tuple #[str (cutSuf s p), .bool (hasSuf s p)] ∧ Ext β w w' := by
  refine Ok_of_W 11 Tryd.func62 rfl rfl rfl ?_
  have hX : Ext β w w := Bel.refl _ _
  refine W_seq ?_
  refine W_region ?_
  refine Rg_run rfl o_assignc ?_
  refine Rg_run rfl o_assignc ?_
  refine Rg_nil ?_
  refine W_seq ?_
  refine W_region ?_
  refine Rg_run rfl (o_moveh (v := str _) rfl) ?_
  refine Rg_run rfl (o_moveh (v := str _) rfl) ?_
  refine Rg_enter rfl (o_call2 Tryd.call78 rfl rfl) (Ok.mono (cutsuf0_ok (β) _ _ (by first | assumption | omega | (simp; done) | (simp; omega) | (simp at *; omega)) _ (by first | assumption | omega | (simp; done) | (simp; omega) | (simp at *; omega))) ?_)
  rintro _ w1 ⟨rfl, x2⟩
  replace hX := Bel.ex hX x2
  refine Rg_run rfl (o_extract rfl rfl) ?_
  refine Rg_run rfl (o_extract rfl rfl) ?_
  refine Rg_run rfl (o_assignh (v := str _) rfl) ?_
  refine Rg_run rfl (o_assignh (v := .bool _) rfl) ?_
  refine Rg_nil ?_
  refine W_ret ?_
  refine ⟨_, res_tmp2 rfl rfl rfl, ?_⟩
  exact ⟨rfl, hX⟩

theorem cut0_ok (β : Prop) (w : World) (s : Str) (hs : s.length ≤ 1000000) (c : UInt8) : Ok Tryd.prog 77 #[str s, str [c]] w fun v w' => v = .tuple #[str (cutS c s).1, str (cutS c s).2.1, .bool (cutS c s).2.2] ∧ Ext β w w' := by
  refine Ok_of_W 23 Tryd.func77 rfl rfl rfl ?_
  have hX : Ext β w w := Bel.refl _ _
  refine W_seq ?_
  refine W_region ?_
  refine Rg_run rfl o_assignc ?_
  refine Rg_run rfl o_assignc ?_
  refine Rg_run rfl o_assignc ?_
  refine Rg_nil ?_
  refine W_seq ?_
  refine W_seq ?_
  refine W_region ?_
  refine Rg_run rfl (o_moveh (v := str _) rfl) ?_
  refine Rg_run rfl (o_moveh (v := str _) rfl) ?_
  refine Rg_enter rfl (o_call2 Tryd.call94 rfl rfl) (Ok.mono (index0_ok (β) _ _ (by omega) _) ?_)
  rintro _ w1 ⟨rfl, x2⟩
  replace hX := Bel.ex hX x2
  refine Rg_run rfl (o_assignh (v := .int _ _) rfl) ?_
  refine Rg_nil ?_
  refine W_seq ?_
  refine W_region ?_
  refine Rg_run rfl (o_moveh (v := .int _ _) rfl) ?_
  refine Rg_run rfl (o_geq rfl rfl) ?_
  refine Rg_nil ?_
  refine W_cond rfl (fun hc1 => ?_) (fun hc1 => ?_)
  · skip
    obtain ⟨m, hm, hml⟩ := ib_pos (of_decide_eq_true hc1); rw [hm]
    refine W_seq ?_
    apply W_draw (β := β) [peq _, peq _, peq _, peq _, peq _, peq _, peq _, peq _, peq _, peq _, peq _, peq _] 12 mixed (by kernel_rfl) rfl ⟨peq_stable _, peq_stable _, peq_stable _, peq_stable _, peq_stable _, peq_stable _, peq_stable _, peq_stable _, peq_stable _, peq_stable _, peq_stable _, peq_stable _, trivial⟩ ?ob3 ?fin3
    case ob3 =>
      refine OblL_cons (fun w3 x4 => ?_) ?_
      · skip
        refine bindP_nil ?_
        exact OpS_v rfl (o_moveh (v := str _) rfl)
      refine OblL_cons (fun w5 x6 => ?_) ?_
      · skip
        refine bindP_nil ?_
        exact OpS_v rfl (o_moveh (v := .int _ _) rfl)
      refine OblL_cons (fun w7 x8 => ?_) ?_
      · skip
        refine bindP_eq ?_
        refine bindP_eq ?_
        refine bindP_nil ?_
        exact OpS_v rfl (o_sto (j := m) Tryd.underlying9 rfl rfl (by omega))
      refine OblL_cons (fun w9 x10 => ?_) ?_
      · skip
        refine bindP_nil ?_
        exact OpS_v rfl (o_moveh (v := str _) rfl)
      refine OblL_cons (fun w11 x12 => ?_) ?_
      · skip
        refine bindP_nil ?_
        exact OpS_v rfl (o_moveh (v := .int _ _) rfl)
      refine OblL_cons (fun w13 x14 => ?_) ?_
      · skip
        refine bindP_nil ?_
        exact OpS_v rfl (o_moveh (v := str _) rfl)
      refine OblL_cons (fun w15 x16 => ?_) ?_
      · skip
        refine bindP_eq ?_
        refine bindP_nil ?_
        exact OpS_v rfl (o_slen Tryd.underlying9 rfl)
      refine OblL_cons (fun w17 x18 => ?_) ?_
      · skip
        refine bindP_eq ?_
        refine bindP_eq ?_
        refine bindP_nil ?_
        exact OpS_v rfl (o_add rfl rfl (by unfold I64; simp; omega))
      refine OblL_cons (fun w19 x20 => ?_) ?_
      · skip
        refine bindP_eq ?_
        refine bindP_eq ?_
        refine bindP_nil ?_
        exact OpS_v rfl (o_sfrom (i := m + 1) Tryd.underlying9 rfl rfl (by omega))
      refine OblL_cons (fun w21 x22 => ?_) ?_
      · skip
        refine bindP_eq ?_
        refine bindP_eq ?_
        refine bindP_eq ?_
        refine bindP_eq ?_
        refine bindP_nil ?_
        exact OpS_v rfl (o_assignh (v := str _) rfl)
      refine OblL_cons (fun w23 x24 => ?_) ?_
      · skip
        refine bindP_eq ?_
        refine bindP_eq ?_
        refine bindP_eq ?_
        refine bindP_eq ?_
        refine bindP_eq ?_
        refine bindP_eq ?_
        refine bindP_eq ?_
        refine bindP_eq ?_
        refine bindP_eq ?_
        refine bindP_eq ?_
        refine bindP_eq ?_
        refine bindP_eq ?_
        refine bindP_nil ?_
        exact OpS_v rfl (o_assignh (v := str _) rfl)
      refine OblL_cons (fun w25 x26 => ?_) ?_
      · skip
        refine bindP_eq ?_
        refine bindP_eq ?_
        refine bindP_eq ?_
        refine bindP_eq ?_
        refine bindP_eq ?_
        refine bindP_eq ?_
        refine bindP_eq ?_
        refine bindP_eq ?_
        refine bindP_eq ?_
        refine bindP_eq ?_
        refine bindP_eq ?_
        refine bindP_eq ?_
        refine bindP_nil ?_
        exact OpS_v rfl o_assignc
      exact OblL_nil
    case fin3 =>
      intro w27 x28
      replace hX := Bel.ex hX x28
      refine bindP_eq ?_
      refine bindP_eq ?_
      refine bindP_eq ?_
      refine bindP_eq ?_
      refine bindP_eq ?_
      refine bindP_eq ?_
      refine bindP_eq ?_
      refine bindP_eq ?_
      refine bindP_eq ?_
      refine bindP_eq ?_
      refine bindP_eq ?_
      refine bindP_eq ?_
      refine bindP_nil ?_
      refine Rg_nil ?_
      refine W_ret ?_
      refine ⟨_, res_T (vs := [str _, str _, .bool _]) rfl ⟨rfl, rfl, rfl, trivial⟩ (by simp), ?_⟩
      exact ⟨by rw [cutS, if_neg (by omega), hm]; simp, hX⟩
  · skip
    have hm := of_decide_eq_false hc1
    refine W_skip ?_
    refine W_seq ?_
    refine W_region ?_
    refine Rg_run rfl (o_moveh (v := str _) rfl) ?_
    refine Rg_run rfl (o_assignh (v := str _) rfl) ?_
    refine Rg_run rfl o_assignc ?_
    refine Rg_run rfl o_assignc ?_
    refine Rg_nil ?_
    refine W_ret ?_
    refine ⟨_, res_T (vs := [str _, str _, .bool _]) rfl ⟨rfl, rfl, rfl, trivial⟩ (by simp), ?_⟩
    exact ⟨by rw [cutS, if_pos (by omega)], hX⟩

theorem cut_ok (β : Prop) (w : World) (s : Str) (hs : s.length ≤ 1000000) (c : UInt8) : Ok Tryd.prog 61 #[str s, str [c]] w fun v w' => v = .tuple #[str (cutS c s).1, str (cutS c s).2.1, .bool (cutS c s).2.2] ∧ Ext β w w' := by
  refine Ok_of_W 13 Tryd.func61 rfl rfl rfl ?_
  have hX : Ext β w w := Bel.refl _ _
  refine W_seq ?_
  refine W_region ?_
  refine Rg_run rfl o_assignc ?_
  refine Rg_run rfl o_assignc ?_
  refine Rg_run rfl o_assignc ?_
  refine Rg_nil ?_
  refine W_seq ?_
  refine W_region ?_
  refine Rg_run rfl (o_moveh (v := str _) rfl) ?_
  refine Rg_run rfl (o_moveh (v := str _) rfl) ?_
  refine Rg_enter rfl (o_call2 Tryd.call77 rfl rfl) (Ok.mono (cut0_ok (β) _ _ (by first | assumption | omega | (simp; done) | (simp; omega) | (simp at *; omega)) _) ?_)
  rintro _ w1 ⟨rfl, x2⟩
  replace hX := Bel.ex hX x2
  refine Rg_run rfl (o_extract rfl rfl) ?_
  refine Rg_run rfl (o_extract rfl rfl) ?_
  refine Rg_run rfl (o_extract rfl rfl) ?_
  refine Rg_run rfl (o_assignh (v := str _) rfl) ?_
  refine Rg_run rfl (o_assignh (v := str _) rfl) ?_
  refine Rg_run rfl (o_assignh (v := .bool _) rfl) ?_
  refine Rg_nil ?_
  refine W_ret ?_
  refine ⟨_, res_T (vs := [str _, str _, .bool _]) rfl ⟨rfl, rfl, rfl, trivial⟩ (by simp), ?_⟩
  exact ⟨rfl, hX⟩

theorem ptext_ok (β : Prop) (w : World) (x : Perm) (hx : x.ok) : Ok Tryd.prog 36 #[.agg (encP x).toArray] w fun v w' => v = str (textS x) ∧ Ext β w w' := by
  have hxa := hx.1; have hxp := hx.2
  refine Ok_of_W 26 Tryd.func36 rfl rfl rfl ?_
  have hX : Ext β w w := Bel.refl _ _
  refine W_seq ?_
  refine W_region ?_
  refine Rg_newB rfl (o_box (v := .agg _) rfl) ?_
  intro b1 w1 x2 hge1 hb1
  change Box _ _ _ (encP _) at hb1
  replace hX := Bel.ex hX x2
  refine Rg_run rfl o_assignc ?_
  refine Rg_nil ?_
  refine W_seq ?_
  refine W_seq ?_
  refine W_region ?_
  refine Rg_run rfl (o_loadS Tryd.isAgg27 Tryd.sizeOf27 rfl hb1.at rfl) ?_
  refine Rg_enter rfl (o_call1 Tryd.call15 rfl) (Ok.mono (check_ok (β) _ (by first | assumption | omega | (simp; done) | (simp; omega) | (simp at *; omega)) _) ?_)
  rintro _ w3 ⟨rfl, x4⟩
  replace hX := Bel.ex hX x4
  replace hb1 := hb1.ext x4
  refine Rg_run rfl (o_neq rfl rfl) ?_
  refine Rg_nil ?_
  refine W_cond rfl (fun hc1 => ?_) (fun hc1 => ?_)
  · skip
    refine W_seq ?_
    refine W_region ?_
    refine Rg_run rfl o_assignc ?_
    refine Rg_nil ?_
    refine W_ret ?_
    refine ⟨_, res_tmp rfl rfl, ?_⟩
    refine ⟨congrArg str ?_, hX⟩
    all_goals (rw [textS, if_pos hc1])
  · skip
    refine W_skip ?_
    refine W_seq ?_
    refine W_region ?_
    refine Rg_run rfl (o_fa Tryd.underlying27 rfl Tryd.sizeOf9 rfl) ?_
    refine Rg_run rfl (o_load1 Tryd.isAgg9 rfl (hb1.at.get 0 rfl)) ?_
    refine Rg_run rfl (o_sadd rfl rfl (by simp; omega)) ?_
    refine Rg_run rfl (o_fa Tryd.underlying27 rfl Tryd.sizeOf9 rfl) ?_
    refine Rg_run rfl (o_load1 Tryd.isAgg9 rfl (hb1.at.get 1 rfl)) ?_
    refine Rg_run rfl (o_sadd rfl rfl (by simp; omega)) ?_
    refine Rg_run rfl (o_assignh (v := str _) rfl) ?_
    refine Rg_nil ?_
    refine W_seq ?_
    refine W_block ?_
    refine W_seq ?_
    refine W_region ?_
    refine Rg_run rfl (o_fa Tryd.underlying27 rfl Tryd.sizeOf4 rfl) ?_
    refine Rg_run rfl (o_load1 Tryd.isAgg4 rfl (hb1.at.get 2 rfl)) ?_
    refine Rg_run rfl (o_not rfl) ?_
    refine Rg_run rfl (o_assignh (v := .bool _) rfl) ?_
    refine Rg_nil ?_
    refine W_cond rfl (fun hc2 => ?_) (fun hc2 => ?_)
    · skip
      refine W_seq ?_
      refine W_region ?_
      refine Rg_run rfl (o_moveh (v := str _) rfl) ?_
      refine Rg_run rfl (o_assignh (v := str _) rfl) ?_
      refine Rg_nil ?_
      refine W_ret ?_
      refine ⟨_, res_tmp rfl rfl, ?_⟩
      refine ⟨congrArg str ?_, hX⟩
      all_goals (rw [textS, if_neg (by rw [hc1]; simp), if_pos hc2])
    · skip
      refine W_seq ?_
      refine W_region ?_
      refine Rg_run rfl (o_fa Tryd.underlying27 rfl Tryd.sizeOf9 rfl) ?_
      refine Rg_run rfl (o_load1 Tryd.isAgg9 rfl (hb1.at.get 1 rfl)) ?_
      refine Rg_run rfl (o_seql rfl rfl) ?_
      refine Rg_run rfl (o_assignh (v := .bool _) rfl) ?_
      refine Rg_nil ?_
      refine W_cond rfl (fun hc3 => ?_) (fun hc3 => ?_)
      · skip
        refine W_seq ?_
        refine W_region ?_
        refine Rg_run rfl (o_moveh (v := str _) rfl) ?_
        refine Rg_run rfl (o_sadd rfl rfl (by simp; omega)) ?_
        refine Rg_run rfl (o_assignh (v := str _) rfl) ?_
        refine Rg_nil ?_
        refine W_ret ?_
        refine ⟨_, res_tmp rfl rfl, ?_⟩
        refine ⟨congrArg str ?_, hX⟩
        all_goals (rw [textS, if_neg (by rw [hc1]; simp), if_neg (by rw [hc2]; simp), if_pos hc3])
      · skip
        refine W_skip ?_
        refine W_seq ?_
        refine W_region ?_
        refine Rg_run rfl (o_moveh (v := str _) rfl) ?_
        refine Rg_run rfl (o_sadd rfl rfl (by simp; omega)) ?_
        refine Rg_run rfl (o_assignh (v := str _) rfl) ?_
        refine Rg_nil ?_
        refine W_ret ?_
        refine ⟨_, res_tmp rfl rfl, ?_⟩
        refine ⟨congrArg str ?_, hX⟩
        all_goals (rw [textS, if_neg (by rw [hc1]; simp), if_neg (by rw [hc2]; simp), if_neg (by rw [hc3]; simp)])

theorem pparse_ok (β : Prop) (w : World) (s : Str) (hs : s.length ≤ 1000000) : Ok Tryd.prog 38 #[str s] w fun v w' => v = .tuple #[.agg (encP (parseS s).1).toArray, .int .i64 (parseS s).2] ∧ Ext β w w' := by
  refine Ok_of_W 42 Tryd.func38 rfl rfl rfl ?_
  have hX : Ext β w w := Bel.refl _ _
  refine W_seq ?_
  refine W_region ?_
  refine Rg_newB rfl (o_alloc Tryd.zeroValue27) ?_
  intro b2 w1 x2 hge2 hb2
  have hlt2 := hb2.lt
  change Box _ _ _ ([str _, str _, .bool _]) at hb2
  have z3 := Bel.size x2
  replace hX := Bel.ex hX x2
  refine Rg_run rfl o_assignc ?_
  refine Rg_nil ?_
  refine W_seq ?_
  refine W_region ?_
  refine Rg_run rfl (o_moveh (v := str _) rfl) ?_
  refine Rg_enter rfl (o_call2 Tryd.call61 rfl rfl) (Ok.mono (cut_ok (β) _ _ (by first | assumption | omega | (simp; done) | (simp; omega) | (simp at *; omega)) _) ?_)
  rintro _ w4 ⟨rfl, x5⟩
  have z6 := Bel.size x5
  replace hX := Bel.ex hX x5
  replace hb2 := hb2.ext x5
  refine Rg_run rfl (o_moveh (v := .tuple _) rfl) ?_
  refine Rg_run rfl (o_extract rfl rfl) ?_
  refine Rg_run rfl (o_extract rfl rfl) ?_
  refine Rg_run rfl (o_extract rfl rfl) ?_
  refine Rg_run rfl (o_assignh (v := str _) rfl) ?_
  refine Rg_run rfl (o_assignh (v := str _) rfl) ?_
  refine Rg_run rfl (o_assignh (v := .bool _) rfl) ?_
  refine Rg_nil ?_
  refine W_seq ?_
  refine W_region ?_
  refine Rg_run rfl (o_moveh (v := str _) rfl) ?_
  refine Rg_run rfl (o_moveh (v := str _) rfl) ?_
  refine Rg_run rfl (o_build (cells := encP ⟨(cutS 32 s).1, (cutS 32 s).2.1, false⟩) (vs := [(0, str _), (1, str _)]) rfl (by kernel_rfl)) ?_
  refine Rg_alst rfl rfl Tryd.zeroValue27 rfl Tryd.sizeOf27 (fun _ => rfl) rfl rfl ?_
  intro b7 w7 x8 hge7 hb7
  have hlt7 := hb7.lt
  change Box _ _ _ (encP _) at hb7
  have z9 := Bel.size x8
  replace hX := Bel.ex hX x8
  replace hb2 := hb2.ext x8
  refine Rg_nil ?_
  refine W_seq ?_
  refine W_seq ?_
  refine W_region ?_
  refine Rg_run rfl (o_moveh (v := str _) rfl) ?_
  refine Rg_enter rfl (o_call2 Tryd.call62 rfl rfl) (Ok.mono (cutsuf_ok (β) _ _ (by have := (cutS_len 32 s).2; omega) _ (by decide)) ?_)
  rintro _ w10 ⟨rfl, x11⟩
  have z12 := Bel.size x11
  replace hX := Bel.ex hX x11
  replace hb2 := hb2.ext x11
  replace hb7 := hb7.ext x11
  refine Rg_run rfl (o_moveh (v := .tuple _) rfl) ?_
  refine Rg_run rfl (o_extract rfl rfl) ?_
  refine Rg_run rfl (o_extract rfl rfl) ?_
  refine Rg_run rfl (o_assignh (v := str _) rfl) ?_
  refine Rg_run rfl (o_assignh (v := .bool _) rfl) ?_
  refine Rg_nil ?_
  refine W_seq ?_
  refine W_region ?_
  refine Rg_run rfl (o_moveh (v := .bool _) rfl) ?_
  refine Rg_nil ?_
  refine W_cond rfl (fun hc1 => ?_) (fun hc1 => ?_)
  · skip
    refine W_seq ?_
    refine W_region ?_
    refine Rg_run rfl (o_moveh (v := str _) rfl) ?_
    refine Rg_run rfl (o_fa Tryd.underlying27 rfl Tryd.sizeOf9 rfl) ?_
    refine Rg_store (v := str _) rfl Tryd.sizeOf9 rfl rfl hb7 rfl rfl rfl ?_
    intro w13 c14 hb7
    change Box _ _ _ ([str _, str _, .bool _]) at hb7
    have z15 := Bel.size c14
    replace hX := Bel.out hX c14 (fun g h1 h2 => by first | exact h2 | omega)
    replace hb2 := hb2.keep c14 (fun h => by omega)
    refine Rg_run rfl (o_fa Tryd.underlying27 rfl Tryd.sizeOf4 rfl) ?_
    refine Rg_store (v := .bool _) rfl Tryd.sizeOf4 rfl rfl hb7 rfl rfl rfl ?_
    intro w16 c17 hb7
    change Box _ _ _ ([str _, str _, .bool _]) at hb7
    have z18 := Bel.size c17
    replace hX := Bel.out hX c17 (fun g h1 h2 => by first | exact h2 | omega)
    replace hb2 := hb2.keep c17 (fun h => by omega)
    refine Rg_nil ?_
    refine W_seq ?_
    refine W_region ?_
    refine Rg_run rfl (o_moveh (v := str _) rfl) ?_
    refine Rg_run rfl (o_seql rfl rfl) ?_
    refine Rg_nil ?_
    refine W_cond rfl (fun hc2 => ?_) (fun hc2 => ?_)
    · skip
      refine W_region ?_
      refine Rg_run rfl (o_fa Tryd.underlying27 rfl Tryd.sizeOf9 rfl) ?_
      refine Rg_store (v := str _) rfl Tryd.sizeOf9 rfl rfl hb7 rfl rfl rfl ?_
      intro w19 c20 hb7
      change Box _ _ _ ([str _, str _, .bool _]) at hb7
      have z21 := Bel.size c20
      replace hX := Bel.out hX c20 (fun g h1 h2 => by first | exact h2 | omega)
      replace hb2 := hb2.keep c20 (fun h => by omega)
      refine Rg_nil ?_
      refine W_seq ?_
      refine W_seq ?_
      refine W_region ?_
      have e : Box w19 b7 27 (encP (parse0 s)) := by
        first
        | (rw [parse0, if_pos hc1, if_pos hc2]; exact hb7)
        | (rw [parse0, if_pos hc1, if_neg (by rw [hc2]; simp)]; exact hb7)
        | (rw [parse0, if_neg (by rw [hc1]; simp)]; exact hb7)
      replace hb7 := e; clear e
      refine Rg_run rfl (o_loadS Tryd.isAgg27 Tryd.sizeOf27 rfl hb7.at rfl) ?_
      refine Rg_enter rfl (o_call1 Tryd.call36 rfl) (Ok.mono (ptext_ok (β) _ _ (parse0_ok hs)) ?_)
      rintro _ w22 ⟨rfl, x23⟩
      have z24 := Bel.size x23
      replace hX := Bel.ex hX x23
      replace hb2 := hb2.ext x23
      replace hb7 := hb7.ext x23
      refine Rg_run rfl (o_seql rfl rfl) ?_
      refine Rg_run rfl (o_moveh (v := .bool _) rfl) ?_
      refine Rg_may 3 34 rfl rfl rfl (fun hg => (o_loadS Tryd.isAgg27 Tryd.sizeOf27 rfl hb7.at rfl)) ?_
      refine Rg_mayCall 3 34 rfl rfl rfl (fun hg => ⟨(o_call1 Tryd.call36 (gsel (u := undef) hg)), ptext_ok (β) _ _ (parse0_ok hs)⟩) ?_
      intro w25 x26
      have z27 := Bel.size x26
      replace hX := Bel.ex hX x26
      replace hb2 := hb2.ext x26
      replace hb7 := hb7.ext x26
      refine Rg_may 3 34 rfl rfl rfl (fun hg => (o_moveh (v := str _) rfl)) ?_
      refine Rg_may 3 34 rfl rfl rfl (fun hg => (o_sneq (gsel (u := undef) hg) (gsel (u := undef) hg))) ?_
      refine Rg_run rfl (o_or (u := undef) rfl rfl) ?_
      refine Rg_nil ?_
      refine W_cond rfl (fun hc3 => ?_) (fun hc3 => ?_)
      · skip
        refine W_seq ?_
        refine W_region ?_
        refine Rg_run rfl (o_build (cells := encP pz) (vs := []) rfl (by kernel_rfl)) ?_
        refine Rg_storeW (v := .agg _) rfl Tryd.sizeOf27 rfl rfl hb2 rfl rfl rfl ?_
        intro w28 c29 hb2
        change Box _ _ _ (encP _) at hb2
        have z30 := Bel.size c29
        replace hX := Bel.out hX c29 (fun g h1 h2 => by first | exact h2 | omega)
        replace hb7 := hb7.keep c29 (fun h => by omega)
        refine Rg_run rfl o_assignc ?_
        refine Rg_nil ?_
        refine W_ret ?_
        refine ⟨_, res_T (vs := [.agg _, .int _ _]) rfl ⟨rv_cellS Tryd.isAgg27 Tryd.sizeOf27 rfl hb2.at rfl, rfl, trivial⟩ (by simp), ?_⟩
        first | exact ⟨by rw [parseS_bad (by assumption)], hX⟩ | exact ⟨by rw [parseS_good (by assumption)], hX⟩
      · skip
        refine W_skip ?_
        refine W_seq ?_
        refine W_region ?_
        refine Rg_run rfl (o_loadS Tryd.isAgg27 Tryd.sizeOf27 rfl hb7.at rfl) ?_
        refine Rg_storeW (v := .agg _) rfl Tryd.sizeOf27 rfl rfl hb2 rfl rfl rfl ?_
        intro w31 c32 hb2
        change Box _ _ _ (encP _) at hb2
        have z33 := Bel.size c32
        replace hX := Bel.out hX c32 (fun g h1 h2 => by first | exact h2 | omega)
        replace hb7 := hb7.keep c32 (fun h => by omega)
        refine Rg_run rfl o_assignc ?_
        refine Rg_nil ?_
        refine W_ret ?_
        refine ⟨_, res_T (vs := [.agg _, .int _ _]) rfl ⟨rv_cellS Tryd.isAgg27 Tryd.sizeOf27 rfl hb2.at rfl, rfl, trivial⟩ (by simp), ?_⟩
        first | exact ⟨by rw [parseS_bad (by assumption)], hX⟩ | exact ⟨by rw [parseS_good (by assumption)], hX⟩
    · skip
      refine W_skip ?_
      refine W_seq ?_
      refine W_seq ?_
      refine W_region ?_
      have e : Box w16 b7 27 (encP (parse0 s)) := by
        first
        | (rw [parse0, if_pos hc1, if_pos hc2]; exact hb7)
        | (rw [parse0, if_pos hc1, if_neg (by rw [hc2]; simp)]; exact hb7)
        | (rw [parse0, if_neg (by rw [hc1]; simp)]; exact hb7)
      replace hb7 := e; clear e
      refine Rg_run rfl (o_loadS Tryd.isAgg27 Tryd.sizeOf27 rfl hb7.at rfl) ?_
      refine Rg_enter rfl (o_call1 Tryd.call36 rfl) (Ok.mono (ptext_ok (β) _ _ (parse0_ok hs)) ?_)
      rintro _ w34 ⟨rfl, x35⟩
      have z36 := Bel.size x35
      replace hX := Bel.ex hX x35
      replace hb2 := hb2.ext x35
      replace hb7 := hb7.ext x35
      refine Rg_run rfl (o_seql rfl rfl) ?_
      refine Rg_run rfl (o_moveh (v := .bool _) rfl) ?_
      refine Rg_may 3 34 rfl rfl rfl (fun hg => (o_loadS Tryd.isAgg27 Tryd.sizeOf27 rfl hb7.at rfl)) ?_
      refine Rg_mayCall 3 34 rfl rfl rfl (fun hg => ⟨(o_call1 Tryd.call36 (gsel (u := undef) hg)), ptext_ok (β) _ _ (parse0_ok hs)⟩) ?_
      intro w37 x38
      have z39 := Bel.size x38
      replace hX := Bel.ex hX x38
      replace hb2 := hb2.ext x38
      replace hb7 := hb7.ext x38
      refine Rg_may 3 34 rfl rfl rfl (fun hg => (o_moveh (v := str _) rfl)) ?_
      refine Rg_may 3 34 rfl rfl rfl (fun hg => (o_sneq (gsel (u := undef) hg) (gsel (u := undef) hg))) ?_
      refine Rg_run rfl (o_or (u := undef) rfl rfl) ?_
      refine Rg_nil ?_
      refine W_cond rfl (fun hc4 => ?_) (fun hc4 => ?_)
      · skip
        refine W_seq ?_
        refine W_region ?_
        refine Rg_run rfl (o_build (cells := encP pz) (vs := []) rfl (by kernel_rfl)) ?_
        refine Rg_storeW (v := .agg _) rfl Tryd.sizeOf27 rfl rfl hb2 rfl rfl rfl ?_
        intro w40 c41 hb2
        change Box _ _ _ (encP _) at hb2
        have z42 := Bel.size c41
        replace hX := Bel.out hX c41 (fun g h1 h2 => by first | exact h2 | omega)
        replace hb7 := hb7.keep c41 (fun h => by omega)
        refine Rg_run rfl o_assignc ?_
        refine Rg_nil ?_
        refine W_ret ?_
        refine ⟨_, res_T (vs := [.agg _, .int _ _]) rfl ⟨rv_cellS Tryd.isAgg27 Tryd.sizeOf27 rfl hb2.at rfl, rfl, trivial⟩ (by simp), ?_⟩
        first | exact ⟨by rw [parseS_bad (by assumption)], hX⟩ | exact ⟨by rw [parseS_good (by assumption)], hX⟩
      · skip
        refine W_skip ?_
        refine W_seq ?_
        refine W_region ?_
        refine Rg_run rfl (o_loadS Tryd.isAgg27 Tryd.sizeOf27 rfl hb7.at rfl) ?_
        refine Rg_storeW (v := .agg _) rfl Tryd.sizeOf27 rfl rfl hb2 rfl rfl rfl ?_
        intro w43 c44 hb2
        change Box _ _ _ (encP _) at hb2
        have z45 := Bel.size c44
        replace hX := Bel.out hX c44 (fun g h1 h2 => by first | exact h2 | omega)
        replace hb7 := hb7.keep c44 (fun h => by omega)
        refine Rg_run rfl o_assignc ?_
        refine Rg_nil ?_
        refine W_ret ?_
        refine ⟨_, res_T (vs := [.agg _, .int _ _]) rfl ⟨rv_cellS Tryd.isAgg27 Tryd.sizeOf27 rfl hb2.at rfl, rfl, trivial⟩ (by simp), ?_⟩
        first | exact ⟨by rw [parseS_bad (by assumption)], hX⟩ | exact ⟨by rw [parseS_good (by assumption)], hX⟩
  · skip
    refine W_skip ?_
    refine W_seq ?_
    refine W_seq ?_
    refine W_region ?_
    have e : Box w10 b7 27 (encP (parse0 s)) := by
      first
      | (rw [parse0, if_pos hc1, if_pos hc2]; exact hb7)
      | (rw [parse0, if_pos hc1, if_neg (by rw [hc2]; simp)]; exact hb7)
      | (rw [parse0, if_neg (by rw [hc1]; simp)]; exact hb7)
    replace hb7 := e; clear e
    refine Rg_run rfl (o_loadS Tryd.isAgg27 Tryd.sizeOf27 rfl hb7.at rfl) ?_
    refine Rg_enter rfl (o_call1 Tryd.call36 rfl) (Ok.mono (ptext_ok (β) _ _ (parse0_ok hs)) ?_)
    rintro _ w46 ⟨rfl, x47⟩
    have z48 := Bel.size x47
    replace hX := Bel.ex hX x47
    replace hb2 := hb2.ext x47
    replace hb7 := hb7.ext x47
    refine Rg_run rfl (o_seql rfl rfl) ?_
    refine Rg_run rfl (o_moveh (v := .bool _) rfl) ?_
    refine Rg_may 3 34 rfl rfl rfl (fun hg => (o_loadS Tryd.isAgg27 Tryd.sizeOf27 rfl hb7.at rfl)) ?_
    refine Rg_mayCall 3 34 rfl rfl rfl (fun hg => ⟨(o_call1 Tryd.call36 (gsel (u := undef) hg)), ptext_ok (β) _ _ (parse0_ok hs)⟩) ?_
    intro w49 x50
    have z51 := Bel.size x50
    replace hX := Bel.ex hX x50
    replace hb2 := hb2.ext x50
    replace hb7 := hb7.ext x50
    refine Rg_may 3 34 rfl rfl rfl (fun hg => (o_moveh (v := str _) rfl)) ?_
    refine Rg_may 3 34 rfl rfl rfl (fun hg => (o_sneq (gsel (u := undef) hg) (gsel (u := undef) hg))) ?_
    refine Rg_run rfl (o_or (u := undef) rfl rfl) ?_
    refine Rg_nil ?_
    refine W_cond rfl (fun hc5 => ?_) (fun hc5 => ?_)
    · skip
      refine W_seq ?_
      refine W_region ?_
      refine Rg_run rfl (o_build (cells := encP pz) (vs := []) rfl (by kernel_rfl)) ?_
      refine Rg_storeW (v := .agg _) rfl Tryd.sizeOf27 rfl rfl hb2 rfl rfl rfl ?_
      intro w52 c53 hb2
      change Box _ _ _ (encP _) at hb2
      have z54 := Bel.size c53
      replace hX := Bel.out hX c53 (fun g h1 h2 => by first | exact h2 | omega)
      replace hb7 := hb7.keep c53 (fun h => by omega)
      refine Rg_run rfl o_assignc ?_
      refine Rg_nil ?_
      refine W_ret ?_
      refine ⟨_, res_T (vs := [.agg _, .int _ _]) rfl ⟨rv_cellS Tryd.isAgg27 Tryd.sizeOf27 rfl hb2.at rfl, rfl, trivial⟩ (by simp), ?_⟩
      first | exact ⟨by rw [parseS_bad (by assumption)], hX⟩ | exact ⟨by rw [parseS_good (by assumption)], hX⟩
    · skip
      refine W_skip ?_
      refine W_seq ?_
      refine W_region ?_
      refine Rg_run rfl (o_loadS Tryd.isAgg27 Tryd.sizeOf27 rfl hb7.at rfl) ?_
      refine Rg_storeW (v := .agg _) rfl Tryd.sizeOf27 rfl rfl hb2 rfl rfl rfl ?_
      intro w55 c56 hb2
      change Box _ _ _ (encP _) at hb2
      have z57 := Bel.size c56
      replace hX := Bel.out hX c56 (fun g h1 h2 => by first | exact h2 | omega)
      replace hb7 := hb7.keep c56 (fun h => by omega)
      refine Rg_run rfl o_assignc ?_
      refine Rg_nil ?_
      refine W_ret ?_
      refine ⟨_, res_T (vs := [.agg _, .int _ _]) rfl ⟨rv_cellS Tryd.isAgg27 Tryd.sizeOf27 rfl hb2.at rfl, rfl, trivial⟩ (by simp), ?_⟩
      first | exact ⟨by rw [parseS_bad (by assumption)], hX⟩ | exact ⟨by rw [parseS_good (by assumption)], hX⟩

end Go.Proofs.YtgnphpimkfcmlaaDoor
