/- Walks, printed by program: each theorem says what a function of the translation returns. -/
import Derived.Test.YtncmjgmlnnenhaaGreatDoorWpath
namespace Go.Proofs.YtncmjgmlnnenhaaGreatDoor
open Go Go.Lx Go.RowKit
set_option maxRecDepth 100000
set_option linter.unusedVariables false
set_option linter.unusedSimpArgs false
set_option linter.unnecessarySimpa false
theorem common_ok (β : Prop) (a b : Option Addr) (c d : Nat) (A B : Nat → Prop) (x y : List Str) (w : World) (hx : Sl encS 1 A w a c x) (hy : Sl encS 1 B w b d y) : Ok Tryz.prog 168 #[.slice a x.length c, .slice b y.length d] w fun v w' => v = .int .i64 (commonS x y : Nat) ∧ Ext β w w' := by
  have hlx := hx.len; have hly := hy.len
  refine Ok_of_W 30 Tryz.func168 rfl rfl rfl ?_
  have hX : Ext β w w := Bel.refl _ _
  refine W_seq (W_region ?_)
  refine Rg_run rfl o_assignc ?_
  refine Rg_nil (W_seq (W_region ?_))
  refine Rg_run rfl o_assignc ?_
  refine Rg_nil (W_seq (W_block ?_))
  refine W_for (α := Nat) [(5, 28)] (fun k => [(5, .int .i64 (k : Int))]) (fun k w' => (k ≤ x.length ∧ k ≤ y.length ∧ (∀ i, i < k → x[i]? = y[i]?)) ∧ Ext β w w') (fun k => x.length - k) 0 ⟨rfl, trivial⟩ ⟨⟨by omega, by omega, fun i hi => absurd hi (Nat.not_lt_zero _)⟩, Bel.refl _ _⟩ ?_
  rintro k fb3 w2 ⟨hk, hXL1⟩
  replace hX := Bel.ex hX hXL1
  replace hx := hx.ext hXL1
  replace hy := hy.ext hXL1
  refine W_seq (W_seq ?_)
  apply W_draw (β := β) [peq _, peq _, peq _, peq _, peq _, peq _, peq _, peq _, peq _, peq _, peq _, peq _, peq _, peq _, peq _, peq _, peq _, peq _, peq _, peq _, peq _] 21 mixed (by kernel_rfl) rfl ⟨peq_stable _, peq_stable _, peq_stable _, peq_stable _, peq_stable _, peq_stable _, peq_stable _, peq_stable _, peq_stable _, peq_stable _, peq_stable _, peq_stable _, peq_stable _, peq_stable _, peq_stable _, peq_stable _, peq_stable _, peq_stable _, peq_stable _, peq_stable _, peq_stable _, trivial⟩ ?ob2 ?fin2
  case ob2 =>
    refine OblL_cons (fun w4 x5 => ?_) ?_
    · skip
      refine bindP_nil ?_
      exact OpS_v rfl (o_moveh (v := .int _ _) rfl)
    refine OblL_cons (fun w6 x7 => ?_) ?_
    · skip
      refine bindP_nil ?_
      exact OpS_v rfl (o_moveh (v := .slice _ _ _) rfl)
    refine OblL_cons (fun w8 x9 => ?_) ?_
    · skip
      refine bindP_eq (bindP_nil ?_)
      exact OpS_v rfl (o_llen Tryz.underlying206 rfl)
    refine OblL_cons (fun w10 x11 => ?_) ?_
    · skip
      refine bindP_eq (bindP_eq (bindP_nil ?_))
      exact OpS_v rfl (o_lss rfl rfl)
    refine OblL_cons (fun w12 x13 => ?_) ?_
    · skip
      refine bindP_eq (bindP_nil ?_)
      exact OpS_v rfl (o_moveh (v := .bool _) rfl)
    refine OblL_cons (fun w14 x15 => ?_) ?_
    · skip
      refine bindP_eq (bindP_nil ?_)
      exact OpS_may 4 10 rfl rfl (fun hg => (o_moveh (v := .int _ _) rfl))
    refine OblL_cons (fun w16 x17 => ?_) ?_
    · skip
      refine bindP_eq (bindP_nil ?_)
      exact OpS_may 4 10 rfl rfl (fun hg => (o_moveh (v := .slice _ _ _) rfl))
    refine OblL_cons (fun w18 x19 => ?_) ?_
    · skip
      refine bindP_eq (bindP_eq (bindP_nil ?_))
      exact OpS_may 4 10 rfl rfl (fun hg => (o_llen Tryz.underlying206 (gsel (u := undef) hg)))
    refine OblL_cons (fun w20 x21 => ?_) ?_
    · skip
      refine bindP_eq (bindP_eq (bindP_eq (bindP_nil ?_)))
      exact OpS_may 4 10 rfl rfl (fun hg => (o_lss (gsel (u := undef) hg) (gsel (u := undef) hg)))
    refine OblL_cons (fun w22 x23 => ?_) ?_
    · skip
      refine bindP_eq (bindP_eq (bindP_nil ?_))
      exact OpS_v rfl (o_and (u := undef) rfl rfl)
    refine OblL_cons (fun w24 x25 => ?_) ?_
    · skip
      refine bindP_eq (bindP_eq (bindP_nil ?_))
      exact OpS_v rfl (o_moveh (v := .bool _) rfl)
    refine OblL_cons (fun w26 x27 => ?_) ?_
    · skip
      refine bindP_eq (bindP_nil ?_)
      exact OpS_may 10 16 rfl rfl (fun hg => (o_moveh (v := .slice _ _ _) rfl))
    refine OblL_cons (fun w28 x29 => ?_) ?_
    · skip
      refine bindP_eq (bindP_nil ?_)
      exact OpS_may 10 16 rfl rfl (fun hg => (o_moveh (v := .int _ _) rfl))
    refine OblL_cons (fun w30 x31 => ?_) ?_
    · skip
      have hx := hx.ext x31
      refine bindP_eq (bindP_eq (bindP_eq (bindP_nil ?_)))
      exact OpS_may 10 16 rfl rfl (fun hg => (o_iaR Tryz.underlying206 Tryz.sizeOf9 hx (gsel (u := undef) hg) (gsel (u := undef) hg) (common_i hg)))
    refine OblL_cons (fun w32 x33 => ?_) ?_
    · skip
      have hx := hx.ext x33
      refine bindP_eq (bindP_eq (bindP_nil ?_))
      exact OpS_may 10 16 rfl rfl (fun hg => (o_ldR Tryz.isAgg9 hx rfl (gsel (u := undef) hg) (getE [] (common_i hg)) rfl))
    refine OblL_cons (fun w34 x35 => ?_) ?_
    · skip
      refine bindP_eq (bindP_nil ?_)
      exact OpS_may 10 16 rfl rfl (fun hg => (o_moveh (v := .slice _ _ _) rfl))
    refine OblL_cons (fun w36 x37 => ?_) ?_
    · skip
      refine bindP_eq (bindP_nil ?_)
      exact OpS_may 10 16 rfl rfl (fun hg => (o_moveh (v := .int _ _) rfl))
    refine OblL_cons (fun w38 x39 => ?_) ?_
    · skip
      have hy := hy.ext x39
      refine bindP_eq (bindP_eq (bindP_eq (bindP_nil ?_)))
      exact OpS_may 10 16 rfl rfl (fun hg => (o_iaR Tryz.underlying206 Tryz.sizeOf9 hy (gsel (u := undef) hg) (gsel (u := undef) hg) (common_j hg)))
    refine OblL_cons (fun w40 x41 => ?_) ?_
    · skip
      have hy := hy.ext x41
      refine bindP_eq (bindP_eq (bindP_nil ?_))
      exact OpS_may 10 16 rfl rfl (fun hg => (o_ldR Tryz.isAgg9 hy rfl (gsel (u := undef) hg) (getE [] (common_j hg)) rfl))
    refine OblL_cons (fun w42 x43 => ?_) ?_
    · skip
      refine bindP_eq (bindP_eq (bindP_eq (bindP_nil ?_)))
      exact OpS_may 10 16 rfl rfl (fun hg => (o_seql (gsel (u := undef) hg) (gsel (u := undef) hg)))
    refine OblL_cons (fun w44 x45 => ?_) ?_
    · skip
      refine bindP_eq (bindP_eq (bindP_nil ?_))
      exact OpS_v rfl (o_and (u := undef) rfl rfl)
    exact OblL_nil
  case fin2 =>
    intro w46 x47
    replace hX := Bel.ex hX x47
    replace hXL1 := Bel.ex hXL1 x47
    replace hx := hx.ext x47
    replace hy := hy.ext x47
    refine bindP_eq (bindP_eq (bindP_eq (bindP_eq (bindP_eq (bindP_eq (bindP_eq (bindP_eq (bindP_eq ?_))))))))
    refine bindP_eq (bindP_eq (bindP_eq (bindP_eq (bindP_eq (bindP_eq (bindP_eq (bindP_eq (bindP_eq ?_))))))))
    refine bindP_eq (bindP_eq (bindP_eq (bindP_nil (Rg_nil ?_))))
    refine W_cond rfl (fun hc1 => ?_) (fun hc1 => ?_)
    · skip
      refine W_skip (W_block (W_region ?_))
      refine Rg_run rfl (o_moveh (v := .int _ _) rfl) ?_
      refine Rg_run rfl (o_add rfl rfl (by have := common_lt hc1; unfold I64; omega)) ?_
      refine Rg_run rfl (o_assignh (v := .int _ _) rfl) ?_
      refine Rg_nil ?_
      refine ⟨k + 1, ⟨?_, trivial⟩, ?_, ⟨?_, hXL1⟩, ?_⟩
      · first | rfl | (go_num) | (exact congrArg _ (by omega))
      · repeat (first | exact off_refl _ _ | exact off_mix | refine off_put rfl ?_ | refine off_putN ?_ | refine off_setL rfl ?_ | refine off_mix' rfl ?_)
      · exact common_next hk hc1
      · have := common_lt hc1; omega
    refine W_exit (exAt_hit (W_seq (W_region ?_)))
    refine Rg_run rfl (o_moveh (v := .int _ _) rfl) ?_
    refine Rg_run rfl (o_assignh (v := .int _ _) rfl) ?_
    refine Rg_nil (W_ret ?_)
    refine ⟨_, res_tmp rfl rfl, ?_⟩
    refine ⟨congrArg (Value.int .i64) ?_, hX⟩
    all_goals (exact congrArg Int.ofNat (common_end hk hc1).symm)

theorem within_ok (β : Prop) (p q : Str) (hp : p.length ≤ 1000000) (hq : q.length ≤ 1000000) (w : World) : Ok Tryz.prog 132 #[str p, str q] w fun v w' => v = .bool (withinS p q) ∧ Ext β w w' := by
  refine Ok_of_W 31 Tryz.func132 rfl rfl rfl ?_
  have hX : Ext β w w := Bel.refl _ _
  refine W_seq (W_region ?_)
  refine Rg_run rfl o_assignc ?_
  refine Rg_nil (W_seq (W_region ?_))
  refine Rg_run rfl (o_moveh (v := str _) rfl) ?_
  refine Rg_enter rfl (o_call1 Tryz.call167 rfl) (Ok.mono (split_ok (β) _ (by first | assumption | omega | (simp; done) | (simp; omega) | (simp at *; omega)) _) ?_)
  rintro _ w1 ⟨a11, c11, rfl, hs11, x2⟩
  replace hX := Bel.ex hX x2
  refine Rg_run rfl (o_moveh (v := .tuple _) rfl) ?_
  refine Rg_run rfl (o_extract rfl rfl) ?_
  refine Rg_run rfl (o_extract rfl rfl) ?_
  refine Rg_run rfl (o_assignh (v := .slice _ _ _) rfl) ?_
  refine Rg_run rfl (o_assignh (v := .bool _) rfl) ?_
  refine Rg_nil (W_seq (W_region ?_))
  refine Rg_run rfl (o_moveh (v := str _) rfl) ?_
  refine Rg_enter rfl (o_call1 Tryz.call167 rfl) (Ok.mono (split_ok (β) _ (by first | assumption | omega | (simp; done) | (simp; omega) | (simp at *; omega)) _) ?_)
  rintro _ w3 ⟨a16, c16, rfl, hs16, x4⟩
  replace hX := Bel.ex hX x4
  replace hs11 := hs11.ext x4
  refine Rg_run rfl (o_moveh (v := .tuple _) rfl) ?_
  refine Rg_run rfl (o_extract rfl rfl) ?_
  refine Rg_run rfl (o_extract rfl rfl) ?_
  refine Rg_run rfl (o_assignh (v := .slice _ _ _) rfl) ?_
  refine Rg_run rfl (o_assignh (v := .bool _) rfl) ?_
  refine Rg_nil (W_seq (W_region ?_))
  refine Rg_run rfl (o_moveh (v := .bool _) rfl) ?_
  refine Rg_run rfl (o_moveh (v := .bool _) rfl) ?_
  refine Rg_may 1 20 rfl rfl rfl (fun hg => (o_moveh (v := .bool _) rfl)) ?_
  refine Rg_run rfl (o_and (u := undef) rfl rfl) ?_
  refine Rg_run rfl (o_moveh (v := .bool _) rfl) ?_
  refine Rg_may 4 23 rfl rfl rfl (fun hg => (o_moveh (v := .slice _ _ _) rfl)) ?_
  refine Rg_may 4 23 rfl rfl rfl (fun hg => (o_moveh (v := .slice _ _ _) rfl)) ?_
  refine Rg_mayCall 4 23 rfl rfl rfl (fun hg => ⟨(o_call2 Tryz.call168 (gsel (u := undef) hg) (gsel (u := undef) hg)), common_ok (β) _ _ _ _ _ _ _ _ _ hs11 hs16⟩) ?_
  intro w5 x6
  replace hX := Bel.ex hX x6
  replace hs11 := hs11.ext x6
  replace hs16 := hs16.ext x6
  refine Rg_may 4 23 rfl rfl rfl (fun hg => (o_moveh (v := .slice _ _ _) rfl)) ?_
  refine Rg_may 4 23 rfl rfl rfl (fun hg => (o_llen Tryz.underlying206 (gsel (u := undef) hg))) ?_
  refine Rg_may 4 23 rfl rfl rfl (fun hg => (o_eql (gsel (u := undef) hg) (gsel (u := undef) hg))) ?_
  refine Rg_run rfl (o_and (u := undef) rfl rfl) ?_
  refine Rg_run rfl (o_assignh (v := .bool _) rfl) ?_
  refine Rg_nil (W_ret ?_)
  refine ⟨_, res_tmp rfl rfl, ?_⟩
  refine ⟨congrArg Value.bool ?_, hX⟩
  all_goals (rfl)

theorem scompare_ok (β : Prop) (a b : Option Addr) (c d : Nat) (A B : Nat → Prop) (x y : List Str) (w : World) (hx : Sl encS 1 A w a c x) (hy : Sl encS 1 B w b d y) : Ok Tryz.prog 191 #[.slice a x.length c, .slice b y.length d] w fun v w' => v = .int .i64 (cmpL x y) ∧ Ext β w w' := by
  have hlx := hx.len; have hly := hy.len
  refine Ok_of_W 36 Tryz.func191 rfl rfl rfl ?_
  have hX : Ext β w w := Bel.refl _ _
  refine W_seq (W_region ?_)
  refine Rg_run rfl o_assignc ?_
  refine Rg_nil (W_seq (W_seq (W_region ?_)))
  refine Rg_run rfl (o_moveh (v := .slice _ _ _) rfl) ?_
  refine Rg_run rfl (o_llen Tryz.underlying206 rfl) ?_
  refine Rg_run rfl o_movec ?_
  refine Rg_nil (W_block ?_)
  refine W_for (α := Nat) [(4, 8), (11, 30)] (fun k => [(11, .int .i64 (k : Int))]) (fun k w' => (k ≤ x.length ∧ k ≤ y.length ∧ cmpL x y = cmpL (x.drop k) (y.drop k)) ∧ Ext β w w') (fun k => x.length - k) 0 ⟨rfl, trivial⟩ ⟨⟨by omega, by omega, rfl⟩, Bel.refl _ _⟩ ?_
  rintro k fb3 w2 ⟨hk, hXL1⟩
  replace hX := Bel.ex hX hXL1
  replace hx := hx.ext hXL1
  replace hy := hy.ext hXL1
  refine W_seq (W_region ?_)
  refine Rg_run rfl (o_lss rfl rfl) ?_
  refine Rg_nil (W_seq ?_)
  refine W_cond rfl (fun hc1 => ?_) (fun hc1 => ?_)
  · skip
    first | replace hc1 := of_decide_eq_true hc1 | replace hc1 := bnot_t hc1 | skip
    refine W_skip (W_seq (W_block (W_seq (W_region ?_))))
    refine Rg_run rfl (o_moveh (v := .int _ _) rfl) ?_
    refine Rg_run rfl (o_iaR Tryz.underlying206 Tryz.sizeOf9 hx rfl rfl (by first | omega | (unfold I64; omega) | (simp; done) | (simp; omega) | (simp at *; omega))) ?_
    refine Rg_run rfl (o_ldR Tryz.isAgg9 hx rfl rfl (getElem?_of (by first | omega | assumption)) rfl) ?_
    refine Rg_run rfl (o_assignh (v := .int _ _) rfl) ?_
    refine Rg_run rfl (o_assignh (v := str _) rfl) ?_
    refine Rg_nil (W_seq (W_seq (W_region ?_)))
    refine Rg_run rfl (o_moveh (v := .int _ _) rfl) ?_
    refine Rg_run rfl (o_moveh (v := .slice _ _ _) rfl) ?_
    refine Rg_run rfl (o_llen Tryz.underlying206 rfl) ?_
    refine Rg_run rfl (o_geq rfl rfl) ?_
    refine Rg_nil ?_
    refine W_cond rfl (fun hc2 => ?_) (fun hc2 => ?_)
    · skip
      first | replace hc2 := of_decide_eq_true hc2 | replace hc2 := bnot_t hc2 | skip
      refine W_seq (W_region ?_)
      refine Rg_run rfl o_assignc ?_
      refine Rg_nil (W_ret ?_)
      refine ⟨_, res_tmp rfl rfl, ?_⟩
      refine ⟨congrArg (Value.int .i64) ?_, hX⟩
      all_goals (rw [hk.2.2, cmpL_long (by omega) (by omega)])
    first | replace hc2 := of_decide_eq_false hc2 | replace hc2 := bnot_f hc2 | skip
    refine W_skip (W_seq (W_region ?_))
    refine Rg_run rfl (o_moveh (v := .slice _ _ _) rfl) ?_
    refine Rg_run rfl (o_moveh (v := .int _ _) rfl) ?_
    refine Rg_run rfl (o_iaR Tryz.underlying206 Tryz.sizeOf9 hy rfl rfl (by first | omega | (unfold I64; omega) | (simp; done) | (simp; omega) | (simp at *; omega))) ?_
    refine Rg_run rfl (o_ldR Tryz.isAgg9 hy rfl rfl (getElem?_of (by first | omega | assumption)) rfl) ?_
    refine Rg_run rfl (o_assignh (v := str _) rfl) ?_
    refine Rg_nil (W_seq (W_region ?_))
    refine Rg_run rfl (o_moveh (v := str _) rfl) ?_
    refine Rg_run rfl (o_moveh (v := str _) rfl) ?_
    refine Rg_enter rfl (o_call2 Tryz.call161 rfl rfl) (Ok.mono (cmp_ok (β) _ _ _) ?_)
    rintro _ w4 ⟨rfl, x5⟩
    replace hX := Bel.ex hX x5
    replace hXL1 := Bel.ex hXL1 x5
    replace hx := hx.ext x5
    replace hy := hy.ext x5
    refine Rg_run rfl (o_assignh (v := .int _ _) rfl) ?_
    refine Rg_nil (W_seq (W_region ?_))
    refine Rg_run rfl (o_moveh (v := .int _ _) rfl) ?_
    refine Rg_run rfl (o_neq rfl rfl) ?_
    refine Rg_nil ?_
    refine W_cond rfl (fun hc3 => ?_) (fun hc3 => ?_)
    · skip
      first | replace hc3 := of_decide_eq_true hc3 | replace hc3 := bnot_t hc3 | skip
      refine W_seq (W_region ?_)
      refine Rg_run rfl (o_moveh (v := .int _ _) rfl) ?_
      refine Rg_run rfl (o_assignh (v := .int _ _) rfl) ?_
      refine Rg_nil (W_ret ?_)
      refine ⟨_, res_tmp rfl rfl, ?_⟩
      refine ⟨congrArg (Value.int .i64) ?_, hX⟩
      all_goals (rw [hk.2.2, cmpL_ne (by omega) (by omega) hc3])
    first | replace hc3 := of_decide_eq_false hc3 | replace hc3 := bnot_f hc3 | skip
    refine W_skip (W_region ?_)
    refine Rg_run rfl (o_add rfl rfl (by first | omega | (unfold I64; omega) | (simp; done) | (simp; omega) | (simp at *; omega))) ?_
    refine Rg_run rfl (o_moveh (v := .int _ _) rfl) ?_
    refine Rg_nil ?_
    refine ⟨k + 1, ⟨?_, trivial⟩, ?_, ⟨?_, hXL1⟩, ?_⟩
    · first | rfl | (go_num) | (exact congrArg _ (by omega))
    · repeat (first | exact off_refl _ _ | exact off_mix | refine off_put rfl ?_ | refine off_putN ?_ | refine off_setL rfl ?_ | refine off_mix' rfl ?_)
    · exact ⟨by omega, by omega, by rw [hk.2.2, cmpL_step (by omega) (by omega) hc3]⟩
    · omega
  first | replace hc1 := of_decide_eq_false hc1 | replace hc1 := bnot_f hc1 | skip
  refine W_exit (exAt_hit (W_seq (W_seq (W_region ?_))))
  refine Rg_run rfl (o_moveh (v := .slice _ _ _) rfl) ?_
  refine Rg_run rfl (o_llen Tryz.underlying206 rfl) ?_
  refine Rg_run rfl (o_moveh (v := .slice _ _ _) rfl) ?_
  refine Rg_run rfl (o_llen Tryz.underlying206 rfl) ?_
  refine Rg_run rfl (o_lss rfl rfl) ?_
  refine Rg_nil ?_
  refine W_cond rfl (fun hc4 => ?_) (fun hc4 => ?_)
  · skip
    first | replace hc4 := of_decide_eq_true hc4 | replace hc4 := bnot_t hc4 | skip
    refine W_seq (W_region ?_)
    refine Rg_run rfl o_assignc ?_
    refine Rg_nil (W_ret ?_)
    refine ⟨_, res_tmp rfl rfl, ?_⟩
    refine ⟨congrArg (Value.int .i64) ?_, hX⟩
    all_goals (rw [hk.2.2, cmpL_short (by omega) (by omega)])
  first | replace hc4 := of_decide_eq_false hc4 | replace hc4 := bnot_f hc4 | skip
  refine W_skip (W_seq (W_region ?_))
  refine Rg_run rfl o_assignc ?_
  refine Rg_nil (W_ret ?_)
  refine ⟨_, res_tmp rfl rfl, ?_⟩
  refine ⟨congrArg (Value.int .i64) ?_, hX⟩
  all_goals (rw [hk.2.2, cmpL_both (by omega) (by omega)])

theorem pcompare_ok (β : Prop) (p q : Str) (hp : p.length ≤ 1000000) (hq : q.length ≤ 1000000) (w : World) : Ok Tryz.prog 162 #[str p, str q] w fun v w' => v = .int .i64 (cmpP p q) ∧ Ext β w w' := by
  refine Ok_of_W 34 Tryz.func162 rfl rfl rfl ?_
  have hX : Ext β w w := Bel.refl _ _
  refine W_seq (W_region ?_)
  refine Rg_run rfl o_assignc ?_
  refine Rg_nil (W_seq (W_region ?_))
  refine Rg_run rfl (o_moveh (v := str _) rfl) ?_
  refine Rg_enter rfl (o_call1 Tryz.call167 rfl) (Ok.mono (split_ok (β) _ (by first | assumption | omega | (simp; done) | (simp; omega) | (simp at *; omega)) _) ?_)
  rintro _ w1 ⟨a11, c11, rfl, hs11, x2⟩
  replace hX := Bel.ex hX x2
  refine Rg_run rfl (o_moveh (v := .tuple _) rfl) ?_
  refine Rg_run rfl (o_extract rfl rfl) ?_
  refine Rg_run rfl (o_extract rfl rfl) ?_
  refine Rg_run rfl (o_assignh (v := .slice _ _ _) rfl) ?_
  refine Rg_run rfl (o_assignh (v := .bool _) rfl) ?_
  refine Rg_nil (W_seq (W_region ?_))
  refine Rg_run rfl (o_moveh (v := str _) rfl) ?_
  refine Rg_enter rfl (o_call1 Tryz.call167 rfl) (Ok.mono (split_ok (β) _ (by first | assumption | omega | (simp; done) | (simp; omega) | (simp at *; omega)) _) ?_)
  rintro _ w3 ⟨a16, c16, rfl, hs16, x4⟩
  replace hX := Bel.ex hX x4
  replace hs11 := hs11.ext x4
  refine Rg_run rfl (o_moveh (v := .tuple _) rfl) ?_
  refine Rg_run rfl (o_extract rfl rfl) ?_
  refine Rg_run rfl (o_extract rfl rfl) ?_
  refine Rg_run rfl (o_assignh (v := .slice _ _ _) rfl) ?_
  refine Rg_run rfl (o_assignh (v := .bool _) rfl) ?_
  refine Rg_nil (W_seq (W_block (W_seq (W_region ?_))))
  refine Rg_run rfl (o_moveh (v := .bool _) rfl) ?_
  refine Rg_run rfl (o_moveh (v := .bool _) rfl) ?_
  refine Rg_may 1 21 rfl rfl rfl (fun hg => (o_moveh (v := .bool _) rfl)) ?_
  refine Rg_run rfl (o_and (u := undef) rfl rfl) ?_
  refine Rg_run rfl (o_assignh (v := .bool _) rfl) ?_
  refine Rg_nil ?_
  refine W_cond rfl (fun hc1 => ?_) (fun hc1 => ?_)
  · skip
    refine W_seq (W_region ?_)
    refine Rg_run rfl (o_moveh (v := .slice _ _ _) rfl) ?_
    refine Rg_run rfl (o_moveh (v := .slice _ _ _) rfl) ?_
    refine Rg_enter rfl (o_call2 Tryz.call191 rfl rfl) (Ok.mono (scompare_ok (β) _ _ _ _ _ _ _ _ _ hs11 hs16) ?_)
    rintro _ w5 ⟨rfl, x6⟩
    replace hX := Bel.ex hX x6
    replace hs11 := hs11.ext x6
    replace hs16 := hs16.ext x6
    refine Rg_run rfl (o_assignh (v := .int _ _) rfl) ?_
    refine Rg_nil (W_ret ?_)
    refine ⟨_, res_tmp rfl rfl, ?_⟩
    refine ⟨congrArg (Value.int .i64) ?_, hX⟩
    all_goals (rw [cmpP, if_pos hc1])
  refine W_seq (W_region ?_)
  refine Rg_run rfl (o_moveh (v := .bool _) rfl) ?_
  refine Rg_run rfl (o_assignh (v := .bool _) rfl) ?_
  refine Rg_nil ?_
  refine W_cond rfl (fun hc2 => ?_) (fun hc2 => ?_)
  · skip
    refine W_seq (W_region ?_)
    refine Rg_run rfl o_assignc ?_
    refine Rg_nil (W_ret ?_)
    refine ⟨_, res_tmp rfl rfl, ?_⟩
    refine ⟨congrArg (Value.int .i64) ?_, hX⟩
    all_goals (rw [cmpP, if_neg (by rw [hc1]; simp), if_pos hc2])
  refine W_seq (W_region ?_)
  refine Rg_run rfl (o_moveh (v := .bool _) rfl) ?_
  refine Rg_run rfl (o_assignh (v := .bool _) rfl) ?_
  refine Rg_nil ?_
  refine W_cond rfl (fun hc3 => ?_) (fun hc3 => ?_)
  · skip
    refine W_seq (W_region ?_)
    refine Rg_run rfl o_assignc ?_
    refine Rg_nil (W_ret ?_)
    refine ⟨_, res_tmp rfl rfl, ?_⟩
    refine ⟨congrArg (Value.int .i64) ?_, hX⟩
    all_goals (rw [cmpP, if_neg (by rw [hc1]; simp), if_neg (by rw [hc2]; simp), if_pos hc3])
  refine W_skip (W_seq (W_region ?_))
  refine Rg_run rfl (o_moveh (v := str _) rfl) ?_
  refine Rg_run rfl (o_moveh (v := str _) rfl) ?_
  refine Rg_enter rfl (o_call2 Tryz.call161 rfl rfl) (Ok.mono (cmp_ok (β) _ _ _) ?_)
  rintro _ w7 ⟨rfl, x8⟩
  replace hX := Bel.ex hX x8
  replace hs11 := hs11.ext x8
  replace hs16 := hs16.ext x8
  refine Rg_run rfl (o_assignh (v := .int _ _) rfl) ?_
  refine Rg_nil (W_ret ?_)
  refine ⟨_, res_tmp rfl rfl, ?_⟩
  refine ⟨congrArg (Value.int .i64) ?_, hX⟩
  all_goals (rw [cmpP, if_neg (by rw [hc1]; simp), if_neg (by rw [hc2]; simp), if_neg (by rw [hc3]; simp)])

end Go.Proofs.YtncmjgmlnnenhaaGreatDoor
