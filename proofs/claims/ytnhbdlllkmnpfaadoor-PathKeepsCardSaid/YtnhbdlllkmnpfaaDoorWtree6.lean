/- Walks, printed by program: each theorem says what a function of the translation returns. -/
import Derived.Test.YtnhbdlllkmnpfaaDoorWplay
import Derived.Test.YtnhbdlllkmnpfaaDoorPure7e
namespace Go.Proofs.YtnhbdlllkmnpfaaDoor
open Go Go.Lx Go.RowKit
set_option maxRecDepth 100000
set_option linter.unusedVariables false
set_option linter.unusedSimpArgs false
set_option linter.unnecessarySimpa false
theorem mequal_ok (m1 m2 : Nat) (t u : List Str) (w : World) (hm : Ms w m1 t) (hmn : Ms w m2 u) : Ok Tryd.prog 69 #[.map (some m1), .map (some m2)] w fun v w' => v = .bool (eqT t u) ∧ Ext False w w' := by
  have hlm := hm.lt; have hln := hmn.lt
  refine Ok_of_W 34 Tryd.func69 rfl rfl rfl ?_
  have hX : Ext False w w := Bel.refl _ _
  refine W_seq ?_
  refine W_region ?_
  refine Rg_run rfl o_assignc ?_
  refine Rg_nil ?_
  refine W_seq ?_
  refine W_seq ?_
  refine W_region ?_
  refine Rg_run rfl (o_moveh (v := .map _) rfl) ?_
  refine Rg_run rfl (o_slen7 Tryd.underlying79 hm rfl) ?_
  refine Rg_run rfl (o_moveh (v := .map _) rfl) ?_
  refine Rg_run rfl (o_slen7 Tryd.underlying79 hmn rfl) ?_
  refine Rg_run rfl (o_neq rfl rfl) ?_
  refine Rg_nil ?_
  refine W_cond rfl (fun hc1 => ?_) (fun hc1 => ?_)
  · skip
    refine W_seq ?_
    refine W_region ?_
    refine Rg_run rfl o_assignc ?_
    refine Rg_nil ?_
    refine W_ret ?_
    refine ⟨_, res_tmp rfl rfl, ?_⟩
    refine ⟨congrArg Value.bool ?_, hX⟩
    all_goals (exact (eqM_len hc1).symm)
  · skip
    refine W_skip ?_
    refine W_seq ?_
    refine W_seq ?_
    refine W_region ?_
    refine Rg_run rfl (o_moveh (v := .map _) rfl) ?_
    refine Rg_srng rfl Tryd.underlying79 rfl hm ?_
    intro r15 w1 x2 hge15 hlt15 hit15
    have z3 := Bel.size x2
    replace hX := Bel.ex hX x2
    replace hm := hm.ext x2
    replace hmn := hmn.ext x2
    refine Rg_nil ?_
    refine W_block ?_
    refine W_for (α := List Str × List Str) [(4, 8), (16, 33)] (fun g => []) (fun g w' => ((g.2 ++ g.1).Perm t ∧ allU u g.2) ∧ Bel False (fun g => w.heap.size ≤ g) w1 w' ∧ (∃ cur, Is' w' r15 m1 t g.1 cur)) (fun g => g.1.length) (t, []) trivial ⟨⟨by simp, fun x hx => by simp at hx⟩, Bel.refl _ _, ⟨none, hit15⟩⟩ ?_
    rintro ⟨lf, sn⟩ fb6 w5 ⟨⟨hpm, hall⟩, hXL4, ⟨cur, hit15⟩⟩
    dsimp only at *
    have z7 := Bel.size hXL4
    replace hX := Bel.out hX hXL4 (fun g h1 h2 => by first | exact h2 | omega)
    replace hm := hm.keep hXL4 (fun h => by omega)
    replace hmn := hmn.keep hXL4 (fun h => by omega)
    refine W_seq ?_
    refine W_region ?_
    refine Rg_snext rfl rfl hit15 (by omega) (fun hnil16 => ?_) ?_
    · skip
      refine Rg_run rfl (o_extract rfl rfl) ?_
      refine Rg_nil ?_
      refine W_seq ?_
      refine W_cond_false rfl ?_
      refine W_exit ?_
      refine exAt_hit ?_
      refine W_seq ?_
      refine W_region ?_
      refine Rg_run rfl o_assignc ?_
      refine Rg_nil ?_
      refine W_ret ?_
      refine ⟨_, res_tmp rfl rfl, ?_⟩
      refine ⟨congrArg Value.bool ?_, hX⟩
      all_goals (subst hnil16; rw [List.append_nil] at hpm; exact (eqM_yes hc1 hpm hall).symm)
    · skip
      intro p16 lf16 w8 hp16 x9 hit15
      have z10 := Bel.size x9
      replace hX := Bel.out hX x9 (fun g h1 h2 => by first | exact h2 | omega)
      replace hXL4 := Bel.out hXL4 x9 (fun g h1 h2 => by first | exact h2 | omega)
      replace hm := hm.keep x9 (fun h => by omega)
      replace hmn := hmn.keep x9 (fun h => by omega)
      refine Rg_run rfl (o_extract rfl rfl) ?_
      refine Rg_nil ?_
      refine W_seq ?_
      refine W_cond_true rfl ?_
      refine W_skip ?_
      refine W_block ?_
      refine W_seq ?_
      refine W_region ?_
      refine Rg_run rfl (o_scur hit15 rfl) ?_
      refine Rg_run rfl (o_extract rfl rfl) ?_
      refine Rg_run rfl (o_extract rfl rfl) ?_
      refine Rg_run rfl (o_assignh (v := str _) rfl) ?_
      refine Rg_run rfl (o_assignh (v := .bool _) rfl) ?_
      refine Rg_nil ?_
      refine W_seq ?_
      refine W_region ?_
      refine Rg_run rfl (o_moveh (v := .map _) rfl) ?_
      refine Rg_run rfl (o_moveh (v := str _) rfl) ?_
      refine Rg_run rfl (o_slook2 Tryd.underlying79 Tryd.underlying9 Tryd.zeroValue4 hmn rfl rfl) ?_
      refine Rg_run rfl (o_moveh (v := .tuple _) rfl) ?_
      refine Rg_run rfl (o_extract rfl rfl) ?_
      refine Rg_run rfl (o_extract rfl rfl) ?_
      refine Rg_run rfl (o_assignh (v := .bool _) rfl) ?_
      refine Rg_run rfl (o_assignh (v := .bool _) rfl) ?_
      refine Rg_nil ?_
      refine W_seq ?_
      refine W_region ?_
      refine Rg_run rfl (o_moveh (v := .bool _) rfl) ?_
      refine Rg_run rfl (o_not rfl) ?_
      refine Rg_run rfl (o_moveh (v := .bool _) rfl) ?_
      refine Rg_may 2 29 rfl rfl rfl (fun hg => (o_moveh (v := .bool _) rfl)) ?_
      refine Rg_may 2 29 rfl rfl rfl (fun hg => (o_moveh (v := .bool _) rfl)) ?_
      refine Rg_may 2 29 rfl rfl rfl (fun hg => (o_bneq Tryd.underlying4 (gsel (u := undef) hg) (gsel (u := undef) hg))) ?_
      refine Rg_run rfl (o_or (u := undef) rfl rfl) ?_
      refine Rg_nil ?_
      refine W_cond rfl (fun hc4 => ?_) (fun hc4 => ?_)
      · skip
        refine W_seq ?_
        refine W_region ?_
        refine Rg_run rfl o_assignc ?_
        refine Rg_nil ?_
        refine W_ret ?_
        refine ⟨_, res_tmp rfl rfl, ?_⟩
        refine ⟨congrArg Value.bool ?_, hX⟩
        all_goals (exact (eqM_no (x := p16) (wh_mem hpm hp16) (by simpa using hc4)).symm)
      · skip
        refine W_skip ?_
        refine ⟨(lf16, sn ++ [p16]), trivial, ?_, ⟨?_, hXL4, ?_⟩, ?_⟩
        · repeat (first | exact off_refl _ _ | exact off_mix | refine off_put rfl ?_ | refine off_putN ?_ | refine off_setL rfl ?_ | refine off_mix' rfl ?_)
        · exact ⟨wh_perm hpm hp16, allU_succ hall (by simpa using hc4)⟩
        · exact ⟨_, hit15⟩
        · have := hp16.length_eq; simp at this; show lf16.length < lf.length; omega

theorem teq_ok (w : World) (bt mt : Nat) (t : List Str) (hbt : At w bt 0 [.map (some mt)]) (hmt : Ms w mt t) (bo mo : Nat) (o : List Str) (hbo : At w bo 0 [.map (some mo)]) (hmo : Ms w mo o) : Ok Tryd.prog 45 #[.pointer (some ⟨bt, 0, none⟩), .pointer (some ⟨bo, 0, none⟩)] w fun v w' => v = .bool (eqT t o) ∧ Ext False w w' := by
  have hlbt := hbt.lt; have hlmt := hmt.lt
  have hlbo := hbo.lt; have hlmo := hmo.lt
  refine Ok_of_W 23 Tryd.func45 rfl rfl rfl ?_
  have hX : Ext False w w := Bel.refl _ _
  refine W_seq ?_
  refine W_region ?_
  refine Rg_run rfl o_assignc ?_
  refine Rg_nil ?_
  refine W_seq ?_
  refine W_seq ?_
  refine W_region ?_
  refine Rg_run rfl (o_moveh (v := .pointer _) rfl) ?_
  refine Rg_run rfl (o_peq Tryd.underlying42 rfl rfl) ?_
  refine Rg_run rfl (o_moveh (v := .bool _) rfl) ?_
  refine Rg_may 2 7 rfl rfl rfl (fun hg => (o_moveh (v := .pointer _) rfl)) ?_
  refine Rg_may 2 7 rfl rfl rfl (fun hg => (o_peq Tryd.underlying42 (gsel (u := undef) hg) rfl)) ?_
  refine Rg_run rfl (o_or (u := undef) rfl rfl) ?_
  refine Rg_nil ?_
  refine W_cond_false rfl ?_
  refine W_skip ?_
  refine W_seq ?_
  apply W_draw (β := False) [peq _, peq _, peq _, peq _, peq _, peq _, peq _, peq _, peq _, peq _] 10 mixed (by kernel_rfl) rfl ⟨peq_stable _, peq_stable _, peq_stable _, peq_stable _, peq_stable _, peq_stable _, peq_stable _, peq_stable _, peq_stable _, peq_stable _, trivial⟩ ?ob3 ?fin3
  case ob3 =>
    refine OblL_cons (fun w1 x2 => ?_) ?_
    · skip
      have hbt := hbt.ext x2
      have hmt := hmt.ext x2
      have hbo := hbo.ext x2
      have hmo := hmo.ext x2
      refine bindP_nil ?_
      exact OpS_v rfl (o_moveh (v := .pointer _) rfl)
    refine OblL_cons (fun w3 x4 => ?_) ?_
    · skip
      have hbt := hbt.ext x4
      have hmt := hmt.ext x4
      have hbo := hbo.ext x4
      have hmo := hmo.ext x4
      refine bindP_eq ?_
      refine bindP_nil ?_
      exact OpS_v rfl (o_nilc rfl)
    refine OblL_cons (fun w5 x6 => ?_) ?_
    · skip
      have hbt := hbt.ext x6
      have hmt := hmt.ext x6
      have hbo := hbo.ext x6
      have hmo := hmo.ext x6
      refine bindP_eq ?_
      refine bindP_nil ?_
      exact OpS_v rfl (o_fa Tryd.underlying81 rfl Tryd.sizeOf79 rfl)
    refine OblL_cons (fun w7 x8 => ?_) ?_
    · skip
      have hbt := hbt.ext x8
      have hmt := hmt.ext x8
      have hbo := hbo.ext x8
      have hmo := hmo.ext x8
      refine bindP_eq ?_
      refine bindP_nil ?_
      exact OpS_v rfl (o_load1 Tryd.isAgg79 rfl (hbt.get 0 rfl))
    refine OblL_cons (fun w9 x10 => ?_) ?_
    · skip
      have hbt := hbt.ext x10
      have hmt := hmt.ext x10
      have hbo := hbo.ext x10
      have hmo := hmo.ext x10
      refine bindP_nil ?_
      exact OpS_v rfl (o_moveh (v := .pointer _) rfl)
    refine OblL_cons (fun w11 x12 => ?_) ?_
    · skip
      have hbt := hbt.ext x12
      have hmt := hmt.ext x12
      have hbo := hbo.ext x12
      have hmo := hmo.ext x12
      refine bindP_eq ?_
      refine bindP_nil ?_
      exact OpS_v rfl (o_nilc rfl)
    refine OblL_cons (fun w13 x14 => ?_) ?_
    · skip
      have hbt := hbt.ext x14
      have hmt := hmt.ext x14
      have hbo := hbo.ext x14
      have hmo := hmo.ext x14
      refine bindP_eq ?_
      refine bindP_nil ?_
      exact OpS_v rfl (o_fa Tryd.underlying81 rfl Tryd.sizeOf79 rfl)
    refine OblL_cons (fun w15 x16 => ?_) ?_
    · skip
      have hbt := hbt.ext x16
      have hmt := hmt.ext x16
      have hbo := hbo.ext x16
      have hmo := hmo.ext x16
      refine bindP_eq ?_
      refine bindP_nil ?_
      exact OpS_v rfl (o_load1 Tryd.isAgg79 rfl (hbo.get 0 rfl))
    refine OblL_cons (fun w17 x18 => ?_) ?_
    · skip
      have hbt := hbt.ext x18
      have hmt := hmt.ext x18
      have hbo := hbo.ext x18
      have hmo := hmo.ext x18
      refine bindP_eq ?_
      refine bindP_eq ?_
      refine bindP_nil ?_
      exact OpS_call rfl (o_call2 Tryd.call69 rfl rfl) (mequal_ok _ _ _ _ _ hmt hmo)
    refine OblL_cons (fun w19 x20 => ?_) ?_
    · skip
      have hbt := hbt.ext x20
      have hmt := hmt.ext x20
      have hbo := hbo.ext x20
      have hmo := hmo.ext x20
      refine bindP_eq ?_
      refine bindP_eq ?_
      refine bindP_eq ?_
      refine bindP_eq ?_
      refine bindP_eq ?_
      refine bindP_eq ?_
      refine bindP_eq ?_
      refine bindP_eq ?_
      refine bindP_eq ?_
      refine bindP_eq ?_
      refine bindP_eq ?_
      refine bindP_nil ?_
      exact OpS_v rfl (o_assignh (v := .bool _) rfl)
    exact OblL_nil
  case fin3 =>
    intro w21 x22
    replace hX := Bel.ex hX x22
    replace hbt := hbt.ext x22
    replace hmt := hmt.ext x22
    replace hbo := hbo.ext x22
    replace hmo := hmo.ext x22
    refine bindP_eq ?_
    refine bindP_eq ?_
    refine bindP_eq ?_
    refine bindP_eq ?_
    refine bindP_eq ?_
    refine bindP_eq ?_
    refine bindP_eq ?_
    refine bindP_eq ?_
    refine bindP_eq ?_
    refine bindP_eq ?_
    refine bindP_nil ?_
    refine Rg_nil ?_
    refine W_ret ?_
    refine ⟨_, res_tmp rfl rfl, ?_⟩
    refine ⟨congrArg Value.bool ?_, hX⟩
    all_goals (rfl)

theorem trem_any (w : World) (b m : Nat) (t : List Str) (hb : At w b 0 [.map (some m)]) (hm : Ms w m t) (nt : t.length ≤ 1000000) (ot : ∀ x ∈ t, splitOk x = true ∧ x.length ≤ 1000000) (p : Str) (hp : p.length ≤ 1000000) : Ok Tryd.prog 42 #[.pointer (some ⟨b, 0, none⟩), str p] w fun v w' => (∃ u, v = .tuple u) ∧ Ext False w w' := by
  by_cases hr : remE t p = 0
  · refine (trem_ok w b m t hb hm nt ot p hp hr).mono ?_
    rintro _ w' ⟨_, _, rfl, _, _, _, _, _, _, _, x⟩
    exact ⟨⟨_, rfl⟩, x⟩
  · refine (trem_no w b m t hb hm nt ot p hp hr).mono ?_
    rintro _ w' ⟨rfl, x⟩
    exact ⟨⟨_, rfl⟩, x⟩

end Go.Proofs.YtnhbdlllkmnpfaaDoor
