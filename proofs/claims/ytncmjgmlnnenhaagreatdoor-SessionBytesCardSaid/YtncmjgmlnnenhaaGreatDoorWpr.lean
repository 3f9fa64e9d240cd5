/- Walks, printed by program: each theorem says what a function of the translation returns. -/
import Derived.Test.YtncmjgmlnnenhaaGreatDoorWbits
import Derived.Test.YtncmjgmlnnenhaaGreatDoorSv
import Derived.Test.YtncmjgmlnnenhaaGreatDoorPure11
import Derived.ChangeKeysEq
namespace Go.Proofs.YtncmjgmlnnenhaaGreatDoor
open Go Go.Lx Go.RowKit
set_option maxRecDepth 100000
set_option linter.unusedVariables false
set_option linter.unusedSimpArgs false
set_option linter.unnecessarySimpa false
theorem el_pr : ElT Tryz.prog 66 127 2 16 (.agg #[.int .i64 0, .int .i64 0]) := ⟨Tryz.underlying66, ⟨Tryz.t127, by kernel_rfl, rfl, rfl, rfl⟩, rfl, by decide, by decide⟩
theorem prBeq (x y : Pr) : (x == y) = ((iv x.1 == iv y.1) && ((iv x.2 == iv y.2) && true)) := by
  rw [iv_beq, iv_beq, Bool.and_true]; rfl
theorem eqi_int (d : Nat) (a b : Int) (w : World) : (Op.equalIn (d + 1) 3 (.int .i64 a) (.int .i64 b)).run Tryz.prog w = .ok (a == b) w := by
  simp [Op.equalIn, run_underlying Tryz.underlying3]
theorem eqItems_two (d : Nat) (e : TypeId) (xs ys : Array Value) (x y x' y' : Value) (r r' : Bool) (w : World) (ha : ∀ w, (isAgg e).run Tryz.prog w = .ok false w) (h0 : xs[0]? = some x) (h1 : ys[0]? = some y) (h2 : xs[1]? = some x') (h3 : ys[1]? = some y')
    (e0 : ∀ w, (Op.equalIn d e x y).run Tryz.prog w = .ok r w) (e1 : ∀ w, (Op.equalIn d e x' y').run Tryz.prog w = .ok r' w) : (Op.eqItems d e 1 xs ys (List.range 2)).run Tryz.prog w = .ok (r && (r' && true)) w := by
  show (Op.eqItems d e 1 xs ys [0, 1]).run Tryz.prog w = _
  simp only [Op.eqItems, Sem.run_bind, part, ha, Result.andThen_ok, Bool.false_eq_true, if_false, Nat.zero_mul, Nat.one_mul, h0, h1, Sem.run_pure, e0]
  cases r
  · simp
  · simp only [Bool.not_true, Bool.false_eq_true, if_false, Sem.run_bind, part, ha, Result.andThen_ok, Nat.one_mul, h2, h3, Sem.run_pure, e1]
    cases r' <;> simp
theorem eq_pr : EqT Tryz.prog 127 encPr := ⟨by kernel_rfl, fun w x y => by
  rw [run_equalIn_array w 9999 _ _ Tryz.underlying127 (show Tryz.prog.info? 3 = some Tryz.t3 by kernel_rfl), prBeq]
  rw [show Tryz.prog.cellsOf 3 = 1 by kernel_rfl]
  exact eqItems_two 9999 3 _ _ _ _ _ _ _ _ w Tryz.isAgg3 rfl rfl rfl rfl (eqi_int 9998 _ _) (eqi_int 9998 _ _)⟩
theorem ocmp_ok (β : Prop) (w : World) (a : Pr) (b : Pr) : Ok Tryz.prog 134 #[.agg (encPr a).toArray, .agg (encPr b).toArray] w fun v w' => v = .int .i64 (cmpPr a b) ∧ Ext β w w' := by
  refine Ok_of_W 20 Tryz.func134 rfl rfl rfl ?_
  have hX : Ext β w w := Bel.refl _ _
  refine W_seq (W_region ?_)
  refine Rg_newB rfl (o_box (v := .agg _) rfl) ?_
  intro b2 w1 x2 hge2 hb2
  change Box _ _ _ (encPr _) at hb2
  replace hX := Bel.ex hX x2
  refine Rg_newB rfl (o_box (v := .agg _) rfl) ?_
  intro b3 w3 x4 hge3 hb3
  change Box _ _ _ (encPr _) at hb3
  replace hX := Bel.ex hX x4
  replace hb2 := hb2.ext x4
  refine Rg_run rfl o_assignc ?_
  refine Rg_nil (W_seq (W_seq (W_region ?_)))
  refine Rg_run rfl (o_iaA (i := 0) Tryz.underlying127 Tryz.sizeOf3 rfl rfl (by decide)) ?_
  refine Rg_run rfl (o_load1 Tryz.isAgg3 rfl (hb2.at.get 0 rfl)) ?_
  refine Rg_run rfl (o_iaA (i := 0) Tryz.underlying127 Tryz.sizeOf3 rfl rfl (by decide)) ?_
  refine Rg_run rfl (o_load1 Tryz.isAgg3 rfl (hb3.at.get 0 rfl)) ?_
  refine Rg_run rfl (o_neq rfl rfl) ?_
  refine Rg_nil ?_
  refine W_cond rfl (fun hc1 => ?_) (fun hc1 => ?_)
  · skip
    refine W_seq (W_region ?_)
    refine Rg_run rfl (o_iaA (i := 0) Tryz.underlying127 Tryz.sizeOf3 rfl rfl (by decide)) ?_
    refine Rg_run rfl (o_load1 Tryz.isAgg3 rfl (hb2.at.get 0 rfl)) ?_
    refine Rg_run rfl (o_iaA (i := 0) Tryz.underlying127 Tryz.sizeOf3 rfl rfl (by decide)) ?_
    refine Rg_run rfl (o_load1 Tryz.isAgg3 rfl (hb3.at.get 0 rfl)) ?_
    refine Rg_run rfl (o_sub rfl rfl (by have := iv_ge a.1; have := iv_ge b.1; have := iv_ge a.2; have := iv_ge b.2; unfold I64; omega)) ?_
    refine Rg_run rfl (o_assignh (v := .int _ _) rfl) ?_
    refine Rg_nil (W_ret ?_)
    refine ⟨_, res_tmp rfl rfl, ?_⟩
    refine ⟨congrArg (Value.int .i64) ?_, hX⟩
    all_goals (rw [cmpPr, if_pos hc1])
  refine W_skip (W_seq (W_region ?_))
  refine Rg_run rfl (o_iaA (i := 1) Tryz.underlying127 Tryz.sizeOf3 rfl rfl (by decide)) ?_
  refine Rg_run rfl (o_load1 Tryz.isAgg3 rfl (hb2.at.get 1 rfl)) ?_
  refine Rg_run rfl (o_iaA (i := 1) Tryz.underlying127 Tryz.sizeOf3 rfl rfl (by decide)) ?_
  refine Rg_run rfl (o_load1 Tryz.isAgg3 rfl (hb3.at.get 1 rfl)) ?_
  refine Rg_run rfl (o_sub rfl rfl (by have := iv_ge a.1; have := iv_ge b.1; have := iv_ge a.2; have := iv_ge b.2; unfold I64; omega)) ?_
  refine Rg_run rfl (o_assignh (v := .int _ _) rfl) ?_
  refine Rg_nil (W_ret ?_)
  refine ⟨_, res_tmp rfl rfl, ?_⟩
  refine ⟨congrArg (Value.int .i64) ?_, hX⟩
  all_goals (rw [cmpPr, if_neg (by rw [hc1]; simp)])

theorem iindex_ok (a : Option Addr) (c : Nat) (B : Nat → Prop) (l : List Int) (x : Int) (w : World) (hs : Sl encJ 1 B w a c l) : Ok Tryz.prog 170 #[.slice a l.length c, .int .i64 x] w fun v w' => v = .int .i64 (ixOf (fun y => x == y) l) ∧ Ext False w w' := by
  have hlen := hs.len
  refine Ok_of_W 19 Tryz.func170 rfl rfl rfl ?_
  have hX : Ext False w w := Bel.refl _ _
  refine W_seq (W_region ?_)
  refine Rg_run rfl o_assignc ?_
  refine Rg_nil (W_seq (W_seq (W_region ?_)))
  refine Rg_run rfl (o_moveh (v := .slice _ _ _) rfl) ?_
  refine Rg_run rfl (o_llen Tryz.underlying109 rfl) ?_
  refine Rg_run rfl o_movec ?_
  refine Rg_nil (W_block ?_)
  refine W_for (α := Nat) [(4, 5), (8, 18)] (fun k => [(8, .int .i64 (k : Int))]) (fun k w' => (k ≤ l.length ∧ (l.take k).any (fun y => x == y) = false) ∧ Ext False w w') (fun k => l.length - k) 0 ⟨rfl, trivial⟩ ⟨⟨by omega, by simp⟩, Bel.refl _ _⟩ ?_
  rintro k fb3 w2 ⟨⟨hk, hall⟩, hXL1⟩
  replace hX := Bel.ex hX hXL1
  replace hs := hs.ext hXL1
  refine W_seq (W_region ?_)
  refine Rg_run rfl (o_lss rfl rfl) ?_
  refine Rg_nil (W_seq ?_)
  refine W_cond rfl (fun hc1 => ?_) (fun hc1 => ?_)
  · skip
    first | replace hc1 := of_decide_eq_true hc1 | replace hc1 := bnot_t hc1 | skip
    refine W_skip (W_seq (W_block (W_seq (W_region ?_))))
    refine Rg_run rfl (o_moveh (v := .int _ _) rfl) ?_
    refine Rg_run rfl (o_assignh (v := .int _ _) rfl) ?_
    refine Rg_nil (W_seq (W_region ?_))
    refine Rg_run rfl (o_moveh (v := .int _ _) rfl) ?_
    refine Rg_run rfl (o_moveh (v := .slice _ _ _) rfl) ?_
    refine Rg_run rfl (o_moveh (v := .int _ _) rfl) ?_
    refine Rg_run rfl (o_iaR Tryz.underlying109 Tryz.sizeOf3 hs rfl rfl (by first | omega | (unfold I64; omega) | (simp; done) | (simp; omega) | (simp at *; omega))) ?_
    refine Rg_run rfl (o_ldR Tryz.isAgg3 hs rfl rfl (getElem?_of (by first | omega | assumption)) rfl) ?_
    refine Rg_run rfl (o_eql rfl rfl) ?_
    refine Rg_nil ?_
    refine W_cond rfl (fun hc2 => ?_) (fun hc2 => ?_)
    · skip
      first | replace hc2 := of_decide_eq_true hc2 | replace hc2 := bnot_t hc2 | skip
      refine W_seq (W_region ?_)
      refine Rg_run rfl (o_moveh (v := .int _ _) rfl) ?_
      refine Rg_run rfl (o_assignh (v := .int _ _) rfl) ?_
      refine Rg_nil (W_ret ?_)
      refine ⟨_, res_tmp rfl rfl, ?_⟩
      refine ⟨congrArg (Value.int .i64) ?_, hX⟩
      all_goals (exact (ixOf_at (by omega) hall (by simpa using hc2)).symm)
    first | replace hc2 := of_decide_eq_false hc2 | replace hc2 := bnot_f hc2 | skip
    refine W_skip (W_region ?_)
    refine Rg_run rfl (o_add rfl rfl (by first | omega | (unfold I64; omega) | (simp; done) | (simp; omega) | (simp at *; omega))) ?_
    refine Rg_run rfl (o_moveh (v := .int _ _) rfl) ?_
    refine Rg_nil ?_
    refine ⟨k + 1, ⟨?_, trivial⟩, ?_, ⟨?_, hXL1⟩, ?_⟩
    · first | rfl | (go_num) | (exact congrArg _ (by omega))
    · repeat (first | exact off_refl _ _ | exact off_mix | refine off_put rfl ?_ | refine off_putN ?_ | refine off_setL rfl ?_ | refine off_mix' rfl ?_)
    · exact ⟨by omega, anyT_succ (by omega) hall (by simpa using hc2)⟩
    · omega
  first | replace hc1 := of_decide_eq_false hc1 | replace hc1 := bnot_f hc1 | skip
  refine W_exit (exAt_hit (W_seq (W_region ?_)))
  refine Rg_run rfl o_assignc ?_
  refine Rg_nil (W_ret ?_)
  refine ⟨_, res_tmp rfl rfl, ?_⟩
  refine ⟨congrArg (Value.int .i64) ?_, hX⟩
  all_goals (exact (ixOf_none (k := k) (by omega) hall).symm)

theorem pindex_ok (a : Option Addr) (c : Nat) (B : Nat → Prop) (l : List Pr) (x : Pr) (w : World) (hs : Sl encPr 2 B w a c l) : Ok Tryz.prog 171 #[.slice a l.length c, .agg (encPr x).toArray] w fun v w' => v = .int .i64 (ixOf (fun y => x == y) l) ∧ Ext False w w' := by
  have hlen := hs.len
  refine Ok_of_W 19 Tryz.func171 rfl rfl rfl ?_
  have hX : Ext False w w := Bel.refl _ _
  refine W_seq (W_region ?_)
  refine Rg_newB rfl (o_box (v := .agg _) rfl) ?_
  intro b3 w1 x2 hge3 hb3
  change Box _ _ _ (encPr _) at hb3
  replace hX := Bel.ex hX x2
  replace hs := hs.ext x2
  refine Rg_run rfl o_assignc ?_
  refine Rg_nil (W_seq (W_seq (W_region ?_)))
  refine Rg_run rfl (o_moveh (v := .slice _ _ _) rfl) ?_
  refine Rg_run rfl (o_llen Tryz.underlying66 rfl) ?_
  refine Rg_run rfl o_movec ?_
  refine Rg_nil (W_block ?_)
  refine W_for (α := Nat) [(4, 5), (8, 18)] (fun k => [(8, .int .i64 (k : Int))]) (fun k w' => (k ≤ l.length ∧ (l.take k).any (fun y => x == y) = false) ∧ Ext False w1 w') (fun k => l.length - k) 0 ⟨rfl, trivial⟩ ⟨⟨by omega, by simp⟩, Bel.refl _ _⟩ ?_
  rintro k fb5 w4 ⟨⟨hk, hall⟩, hXL3⟩
  replace hX := Bel.ex hX hXL3
  replace hs := hs.ext hXL3
  replace hb3 := hb3.ext hXL3
  refine W_seq (W_region ?_)
  refine Rg_run rfl (o_lss rfl rfl) ?_
  refine Rg_nil (W_seq ?_)
  refine W_cond rfl (fun hc1 => ?_) (fun hc1 => ?_)
  · skip
    first | replace hc1 := of_decide_eq_true hc1 | replace hc1 := bnot_t hc1 | skip
    refine W_skip (W_seq (W_block (W_seq (W_region ?_))))
    refine Rg_run rfl (o_moveh (v := .int _ _) rfl) ?_
    refine Rg_run rfl (o_assignh (v := .int _ _) rfl) ?_
    refine Rg_nil (W_seq ?_)
    apply W_draw (β := False) [peq _, peq _, peq _, peq _, peq _, peq _] 6 mixed (by kernel_rfl) rfl ⟨peq_stable _, peq_stable _, peq_stable _, peq_stable _, peq_stable _, peq_stable _, trivial⟩ ?ob4 ?fin4
    case ob4 =>
      refine OblL_cons (fun w6 x7 => ?_) ?_
      · skip
        have hb3 := hb3.ext x7
        refine bindP_nil ?_
        exact OpS_v rfl (o_loadS Tryz.isAgg127 Tryz.sizeOf127 rfl hb3.at rfl)
      refine OblL_cons (fun w8 x9 => ?_) ?_
      · skip
        refine bindP_nil ?_
        exact OpS_v rfl (o_moveh (v := .slice _ _ _) rfl)
      refine OblL_cons (fun w10 x11 => ?_) ?_
      · skip
        refine bindP_nil ?_
        exact OpS_v rfl (o_moveh (v := .int _ _) rfl)
      refine OblL_cons (fun w12 x13 => ?_) ?_
      · skip
        have hs := hs.ext x13
        refine bindP_eq (bindP_eq (bindP_nil ?_))
        exact OpS_v rfl (o_iaR Tryz.underlying66 Tryz.sizeOf127 hs rfl rfl (by first | omega | (unfold I64; omega) | (simp; done) | (simp; omega) | (simp at *; omega)))
      refine OblL_cons (fun w14 x15 => ?_) ?_
      · skip
        have hs := hs.ext x15
        refine bindP_eq (bindP_nil ?_)
        exact OpS_v rfl (o_ldRS Tryz.isAgg127 Tryz.sizeOf127 hs rfl (getE pz0 (by omega)))
      refine OblL_cons (fun w16 x17 => ?_) ?_
      · skip
        refine bindP_eq (bindP_eq (bindP_nil ?_))
        exact OpS_v rfl (o_teql eq_pr rfl rfl)
      exact OblL_nil
    case fin4 =>
      intro w18 x19
      replace hX := Bel.ex hX x19
      replace hXL3 := Bel.ex hXL3 x19
      replace hs := hs.ext x19
      replace hb3 := hb3.ext x19
      refine bindP_eq (bindP_eq (bindP_eq (bindP_eq (bindP_eq (bindP_eq (bindP_nil (Rg_nil ?_)))))))
      refine W_cond rfl (fun hc2 => ?_) (fun hc2 => ?_)
      · skip
        first | replace hc2 := of_decide_eq_true hc2 | replace hc2 := bnot_t hc2 | skip
        refine W_seq (W_region ?_)
        refine Rg_run rfl (o_moveh (v := .int _ _) rfl) ?_
        refine Rg_run rfl (o_assignh (v := .int _ _) rfl) ?_
        refine Rg_nil (W_ret ?_)
        refine ⟨_, res_tmp rfl rfl, ?_⟩
        refine ⟨congrArg (Value.int .i64) ?_, hX⟩
        all_goals (exact (ixOf_at (by omega) hall (by simpa [List.getD, show k < l.length by omega] using hc2)).symm)
      first | replace hc2 := of_decide_eq_false hc2 | replace hc2 := bnot_f hc2 | skip
      refine W_skip (W_region ?_)
      refine Rg_run rfl (o_add rfl rfl (by first | omega | (unfold I64; omega) | (simp; done) | (simp; omega) | (simp at *; omega))) ?_
      refine Rg_run rfl (o_moveh (v := .int _ _) rfl) ?_
      refine Rg_nil ?_
      refine ⟨k + 1, ⟨?_, trivial⟩, ?_, ⟨?_, hXL3⟩, ?_⟩
      · first | rfl | (go_num) | (exact congrArg _ (by omega))
      · repeat (first | exact off_refl _ _ | exact off_mix | refine off_put rfl ?_ | refine off_putN ?_ | refine off_setL rfl ?_ | refine off_mix' rfl ?_)
      · exact ⟨by omega, anyT_succ (by omega) hall (by simpa [List.getD, show k < l.length by omega] using hc2)⟩
      · omega
  first | replace hc1 := of_decide_eq_false hc1 | replace hc1 := bnot_f hc1 | skip
  refine W_exit (exAt_hit (W_seq (W_region ?_)))
  refine Rg_run rfl o_assignc ?_
  refine Rg_nil (W_ret ?_)
  refine ⟨_, res_tmp rfl rfl, ?_⟩
  refine ⟨congrArg (Value.int .i64) ?_, hX⟩
  all_goals (exact (ixOf_none (k := k) (by omega) hall).symm)

theorem pcontains_ok (a : Option Addr) (c : Nat) (B : Nat → Prop) (l : List Pr) (x : Pr) (w : World) (hs : Sl encPr 2 B w a c l) : Ok Tryz.prog 140 #[.slice a l.length c, .agg (encPr x).toArray] w fun v w' => v = .bool (l.any fun y => x == y) ∧ Ext False w w' := by
  refine Ok_of_W 9 Tryz.func140 rfl rfl rfl ?_
  have hX : Ext False w w := Bel.refl _ _
  refine W_seq (W_region ?_)
  refine Rg_newB rfl (o_box (v := .agg _) rfl) ?_
  intro b3 w1 x2 hge3 hb3
  change Box _ _ _ (encPr _) at hb3
  replace hX := Bel.ex hX x2
  replace hs := hs.ext x2
  refine Rg_run rfl o_assignc ?_
  refine Rg_nil (W_seq (W_region ?_))
  refine Rg_run rfl (o_moveh (v := .slice _ _ _) rfl) ?_
  refine Rg_run rfl (o_loadS Tryz.isAgg127 Tryz.sizeOf127 rfl hb3.at rfl) ?_
  refine Rg_enter rfl (o_call2 Tryz.call171 rfl rfl) (Ok.mono (pindex_ok _ _ _ _ _ _ hs) ?_)
  rintro _ w3 ⟨rfl, x4⟩
  replace hX := Bel.ex hX x4
  replace hs := hs.ext x4
  replace hb3 := hb3.ext x4
  refine Rg_run rfl (o_geq rfl rfl) ?_
  refine Rg_run rfl (o_assignh (v := .bool _) rfl) ?_
  refine Rg_nil (W_ret ?_)
  refine ⟨_, res_tmp rfl rfl, ?_⟩
  refine ⟨congrArg Value.bool ?_, hX⟩
  all_goals (exact ixOf_ge _ _)

theorem pclone_ok (w : World) (vl : Value) (l : List Pr) (hl : Rd encPr 2 (Lt w.heap.size) w vl l) (nl : l.length ≤ 1000000) : Ok Tryz.prog 172 #[vl] w fun v w' => Own encPr 2 127 (Fsh w w') w' v (l) ∧ Ext False w w' := by
  obtain ⟨al, cl, rfl, hl⟩ := hl; have ml := hl.len
  refine Ok_of_W 8 Tryz.func172 rfl rfl rfl ?_
  have hX : Ext False w w := Bel.refl _ _
  refine W_seq (W_region ?_)
  refine Rg_run rfl o_assignc ?_
  refine Rg_nil (W_seq (W_seq (W_region ?_)))
  refine Rg_run rfl (o_moveh (v := .slice _ _ _) rfl) ?_
  refine Rg_run rfl (o_lnil Tryz.underlying66 rfl) ?_
  refine Rg_nil ?_
  refine W_cond rfl (fun hc1 => ?_) (fun hc1 => ?_)
  · skip
    have hnl := sl_none hl hc1; subst hnl
    refine W_seq (W_region ?_)
    refine Rg_run rfl o_assignc ?_
    refine Rg_nil (W_ret ?_)
    refine ⟨_, res_tmp rfl rfl, ?_⟩
    exact ⟨Own.nil _ _, hX⟩
  refine W_skip (W_seq (W_region ?_))
  refine Rg_bs (vs := []) (([] : List Pr)) rfl encPr_ok el_pr rfl rfl trivial rfl rfl rfl rfl ?_
  intro a5 w1 x2 hown5
  have z3 := Bel.size x2
  replace hX := Bel.ex hX x2
  replace hl := hl.ext x2
  replace hown5 := hown5.mono (D' := fun g => w.heap.size ≤ g) (fun g h1 h2 => by omega)
  refine Rg_run rfl (o_moveh (v := .slice _ _ _) rfl) ?_
  refine Rg_app rfl encPr_ok el_pr rfl rfl hown5 hl rfl (by simp; omega) (fun g h => by omega) ?_
  intro v7 w4 x5 hown5
  have z6 := Bel.size x5
  replace hX := Bel.out hX x5 (fun g h1 h2 => by first | exact h2 | omega)
  refine Rg_run rfl (o_assignh (v := v7) rfl) ?_
  refine Rg_nil (W_ret ?_)
  refine ⟨_, res_tmp rfl rfl, ?_⟩
  rw [List.nil_append] at hown5; exact ⟨hown5.mono (fun g h1 h2 => by omega), hX⟩

theorem icompact_ok (β : Prop) (a : Option Addr) (c : Nat) (B : Nat → Prop) (l : List Pr) (w : World) (ho : Own encPr 2 127 B w (.slice a l.length c) l) : Ok Tryz.prog 136 #[.slice a l.length c] w fun v w' => ∃ m, v = .slice a m c ∧ Own encPr 2 127 B w' (.slice a m c) (compL l) ∧ Bel β B w w' := by
  have hs := ho.slA encPr_ok; have hlen := hs.len; have hcap := ho.capOf.1
  refine Ok_of_W 61 Tryz.func136 rfl rfl rfl ?_
  have hX : Bel β (B) w w := Bel.refl _ _
  refine W_seq (W_region ?_)
  refine Rg_run rfl o_assignc ?_
  refine Rg_nil (W_seq (W_seq (W_region ?_)))
  refine Rg_run rfl (o_moveh (v := .slice _ _ _) rfl) ?_
  refine Rg_run rfl (o_llen Tryz.underlying66 rfl) ?_
  refine Rg_run rfl (o_lss rfl rfl) ?_
  refine Rg_nil ?_
  refine W_cond rfl (fun hc1 => ?_) (fun hc1 => ?_)
  · skip
    first | replace hc1 := of_decide_eq_true hc1 | replace hc1 := bnot_t hc1 | skip
    refine W_seq (W_region ?_)
    refine Rg_run rfl (o_moveh (v := .slice _ _ _) rfl) ?_
    refine Rg_run rfl (o_assignh (v := .slice _ _ _) rfl) ?_
    refine Rg_nil (W_ret ?_)
    refine ⟨_, res_tmp rfl rfl, ?_⟩
    exact ⟨_, rfl, by rw [comp_one (by omega)]; exact ho, hX⟩
  first | replace hc1 := of_decide_eq_false hc1 | replace hc1 := bnot_f hc1 | skip
  refine W_skip (W_seq (W_seq (W_region ?_)))
  refine Rg_run rfl o_assignc ?_
  refine Rg_nil (W_block ?_)
  refine W_for (α := Nat) [(2, 5), (10, 59)] (fun k => [(3, .int .i64 (k : Int))]) (fun k w' => (1 ≤ k ∧ k ≤ l.length ∧ compL (l.take k) = l.take k) ∧ Bel β (B) w w' ∧ (Own encPr 2 127 B w' (.slice a l.length c) l)) (fun k => l.length - k) 1 ⟨rfl, trivial⟩ ⟨⟨by omega, by omega, comp_take1 (by omega)⟩, Bel.refl _ _, ho⟩ ?_
  rintro k fb3 w2 ⟨⟨hk1, hk, hall⟩, hXL1, ho⟩
  have z4 := Bel.size hXL1
  replace hX := Bel.out hX hXL1 (fun g h1 h2 => by first | exact h2 | omega)
  have hs := ho.slA encPr_ok
  refine W_seq (W_seq (W_region ?_))
  refine Rg_run rfl (o_moveh (v := .int _ _) rfl) ?_
  refine Rg_run rfl (o_moveh (v := .slice _ _ _) rfl) ?_
  refine Rg_run rfl (o_llen Tryz.underlying66 rfl) ?_
  refine Rg_run rfl (o_lss rfl rfl) ?_
  refine Rg_nil ?_
  refine W_cond rfl (fun hc2 => ?_) (fun hc2 => ?_)
  · skip
    first | replace hc2 := of_decide_eq_true hc2 | replace hc2 := bnot_t hc2 | skip
    refine W_skip (W_seq (W_block (W_seq ?_)))
    apply W_draw (β := β) [peq _, peq _, peq _, peq _, peq _, peq _, peq _, peq _, peq _, peq _] 10 mixed (by kernel_rfl) rfl ⟨peq_stable _, peq_stable _, peq_stable _, peq_stable _, peq_stable _, peq_stable _, peq_stable _, peq_stable _, peq_stable _, peq_stable _, trivial⟩ ?ob6 ?fin6
    case ob6 =>
      refine OblL_cons (fun w5 x6 => ?_) ?_
      · skip
        have z7 := Bel.size x6
        refine bindP_nil ?_
        exact OpS_v rfl (o_moveh (v := .slice _ _ _) rfl)
      refine OblL_cons (fun w8 x9 => ?_) ?_
      · skip
        have z10 := Bel.size x9
        refine bindP_nil ?_
        exact OpS_v rfl (o_moveh (v := .int _ _) rfl)
      refine OblL_cons (fun w11 x12 => ?_) ?_
      · skip
        have z13 := Bel.size x12
        have ho := ho.ext x12
        refine bindP_eq (bindP_eq (bindP_nil ?_))
        exact OpS_v rfl (o_iaO Tryz.underlying66 Tryz.sizeOf127 ho rfl rfl (by omega))
      refine OblL_cons (fun w14 x15 => ?_) ?_
      · skip
        have z16 := Bel.size x15
        have hs := hs.ext x15
        refine bindP_eq (bindP_nil ?_)
        exact OpS_v rfl (o_ldRS Tryz.isAgg127 Tryz.sizeOf127 hs rfl (getE pz0 (by omega)))
      refine OblL_cons (fun w17 x18 => ?_) ?_
      · skip
        have z19 := Bel.size x18
        refine bindP_nil ?_
        exact OpS_v rfl (o_moveh (v := .slice _ _ _) rfl)
      refine OblL_cons (fun w20 x21 => ?_) ?_
      · skip
        have z22 := Bel.size x21
        refine bindP_nil ?_
        exact OpS_v rfl (o_moveh (v := .int _ _) rfl)
      refine OblL_cons (fun w23 x24 => ?_) ?_
      · skip
        have z25 := Bel.size x24
        refine bindP_eq (bindP_nil ?_)
        exact OpS_v rfl (o_subN (b := 1) rfl rfl (by omega) (by omega))
      refine OblL_cons (fun w26 x27 => ?_) ?_
      · skip
        have z28 := Bel.size x27
        have ho := ho.ext x27
        refine bindP_eq (bindP_eq (bindP_nil ?_))
        exact OpS_v rfl (o_iaO Tryz.underlying66 Tryz.sizeOf127 ho rfl rfl (by omega))
      refine OblL_cons (fun w29 x30 => ?_) ?_
      · skip
        have z31 := Bel.size x30
        have hs := hs.ext x30
        refine bindP_eq (bindP_nil ?_)
        exact OpS_v rfl (o_ldRS Tryz.isAgg127 Tryz.sizeOf127 hs rfl (getE pz0 (by omega)))
      refine OblL_cons (fun w32 x33 => ?_) ?_
      · skip
        have z34 := Bel.size x33
        refine bindP_eq (bindP_eq (bindP_nil ?_))
        exact OpS_v rfl (o_teql eq_pr rfl rfl)
      exact OblL_nil
    case fin6 =>
      intro w35 x36
      have z37 := Bel.size x36
      replace hX := Bel.ex hX x36
      replace hXL1 := Bel.ex hXL1 x36
      replace ho := ho.ext x36
      replace hs := hs.ext x36
      refine bindP_eq (bindP_eq (bindP_eq (bindP_eq (bindP_eq (bindP_eq (bindP_eq (bindP_eq (bindP_eq ?_))))))))
      refine bindP_eq (bindP_nil (Rg_nil ?_))
      refine W_cond rfl (fun hc3 => ?_) (fun hc3 => ?_)
      · skip
        first | replace hc3 := of_decide_eq_true hc3 | replace hc3 := bnot_t hc3 | skip
        refine W_seq (W_region ?_)
        refine Rg_run rfl (o_moveh (v := .slice _ _ _) rfl) ?_
        refine Rg_run rfl (o_moveh (v := .int _ _) rfl) ?_
        refine Rg_run rfl (o_sfromO (j := k) Tryz.underlying66 Tryz.sizeOf127 rfl rfl (by omega) (by omega)) ?_
        refine Rg_run rfl (o_assignh (v := .slice _ _ _) rfl) ?_
        refine Rg_nil (W_seq (W_seq (W_region ?_)))
        refine Rg_run rfl o_assignc ?_
        refine Rg_nil (W_block ?_)
        refine W_for (α := List Pr × Nat × Nat) [(3, 3), (5, 5), (29, 53)] (fun p => [(3, .int .i64 (p.2.2 : Int)), (5, .int .i64 (p.2.1 : Int))]) (fun p w' => (1 ≤ p.2.1 ∧ k + p.2.1 ≤ l.length ∧ p.1 = compL (l.take (k + p.2.1)) ∧ p.1.length = p.2.2 ∧ p.2.2 + 1 ≤ k + p.2.1) ∧ Bel β (B) w35 w' ∧ (Own encPr 2 127 B w' (.slice a l.length c) (p.1 ++ l.drop p.1.length))) (fun p => l.length - (k + p.2.1)) (l.take k, 1, k) ⟨rfl, rfl, trivial⟩ ⟨⟨Nat.le_refl _, by show k + 1 ≤ l.length; omega, by rw [comp_eq (z := pz0) (by omega) hk1 (by simpa using hc3), hall], by simp; omega, Nat.le_refl _⟩, Bel.refl _ _, (by rw [List.length_take, Nat.min_eq_left (by omega), List.take_append_drop]; exact ho)⟩ ?_
        rintro p fb40 w39 ⟨⟨hp1, hp2, hp3, hp4, hp5⟩, hXL38, hown⟩
        have z41 := Bel.size hXL38
        replace hX := Bel.out hX hXL38 (fun g h1 h2 => by first | exact h2 | omega)
        replace hXL1 := Bel.out hXL1 hXL38 (fun g h1 h2 => by first | exact h2 | omega)
        have hs := hown.slA encPr_ok
        refine W_seq (W_seq (W_region ?_))
        refine Rg_run rfl (o_moveh (v := .int _ _) rfl) ?_
        refine Rg_run rfl (o_moveh (v := .slice _ _ _) rfl) ?_
        refine Rg_run rfl (o_llen Tryz.underlying66 rfl) ?_
        refine Rg_run rfl (o_lss rfl rfl) ?_
        refine Rg_nil ?_
        refine W_cond rfl (fun hc4 => ?_) (fun hc4 => ?_)
        · skip
          first | replace hc4 := of_decide_eq_true hc4 | replace hc4 := bnot_t hc4 | skip
          refine W_skip (W_seq (W_block (W_seq ?_)))
          apply W_draw (β := β) [peq _, peq _, peq _, peq _, peq _, peq _, peq _, peq _, peq _, peq _] 10 mixed (by kernel_rfl) rfl ⟨peq_stable _, peq_stable _, peq_stable _, peq_stable _, peq_stable _, peq_stable _, peq_stable _, peq_stable _, peq_stable _, peq_stable _, trivial⟩ ?ob11 ?fin11
          case ob11 =>
            refine OblL_cons (fun w42 x43 => ?_) ?_
            · skip
              have z44 := Bel.size x43
              refine bindP_nil ?_
              exact OpS_v rfl (o_moveh (v := .slice _ _ _) rfl)
            refine OblL_cons (fun w45 x46 => ?_) ?_
            · skip
              have z47 := Bel.size x46
              refine bindP_nil ?_
              exact OpS_v rfl (o_moveh (v := .int _ _) rfl)
            refine OblL_cons (fun w48 x49 => ?_) ?_
            · skip
              have z50 := Bel.size x49
              have hown := hown.ext x49
              refine bindP_eq (bindP_eq (bindP_nil ?_))
              exact OpS_v rfl (o_iaO2 (i := p.2.1) Tryz.underlying66 Tryz.sizeOf127 hown rfl rfl (by omega) (by omega))
            refine OblL_cons (fun w51 x52 => ?_) ?_
            · skip
              have z53 := Bel.size x52
              have hs := hs.ext x52
              refine bindP_eq (bindP_nil ?_)
              exact OpS_v rfl (o_ldRS Tryz.isAgg127 Tryz.sizeOf127 hs rfl (tail_get (z := pz0) (by omega) (by omega)))
            refine OblL_cons (fun w54 x55 => ?_) ?_
            · skip
              have z56 := Bel.size x55
              refine bindP_nil ?_
              exact OpS_v rfl (o_moveh (v := .slice _ _ _) rfl)
            refine OblL_cons (fun w57 x58 => ?_) ?_
            · skip
              have z59 := Bel.size x58
              refine bindP_nil ?_
              exact OpS_v rfl (o_moveh (v := .int _ _) rfl)
            refine OblL_cons (fun w60 x61 => ?_) ?_
            · skip
              have z62 := Bel.size x61
              refine bindP_eq (bindP_nil ?_)
              exact OpS_v rfl (o_subN (b := 1) rfl rfl (by omega) (by omega))
            refine OblL_cons (fun w63 x64 => ?_) ?_
            · skip
              have z65 := Bel.size x64
              have hown := hown.ext x64
              refine bindP_eq (bindP_eq (bindP_nil ?_))
              exact OpS_v rfl (o_iaO2 (i := p.2.1 - 1) Tryz.underlying66 Tryz.sizeOf127 hown rfl rfl (by omega) (by omega))
            refine OblL_cons (fun w66 x67 => ?_) ?_
            · skip
              have z68 := Bel.size x67
              have hs := hs.ext x67
              refine bindP_eq (bindP_nil ?_)
              exact OpS_v rfl (o_ldRS Tryz.isAgg127 Tryz.sizeOf127 hs rfl (tail_get (z := pz0) (by omega) (by omega)))
            refine OblL_cons (fun w69 x70 => ?_) ?_
            · skip
              have z71 := Bel.size x70
              refine bindP_eq (bindP_eq (bindP_nil ?_))
              exact OpS_v rfl (o_tneq eq_pr rfl rfl)
            exact OblL_nil
          case fin11 =>
            intro w72 x73
            have z74 := Bel.size x73
            replace hX := Bel.ex hX x73
            replace hXL1 := Bel.ex hXL1 x73
            replace hXL38 := Bel.ex hXL38 x73
            replace hown := hown.ext x73
            replace hs := hs.ext x73
            refine bindP_eq (bindP_eq (bindP_eq (bindP_eq (bindP_eq (bindP_eq (bindP_eq (bindP_eq (bindP_eq ?_))))))))
            refine bindP_eq (bindP_nil (Rg_nil ?_))
            refine W_cond rfl (fun hc5 => ?_) (fun hc5 => ?_)
            · skip
              first | replace hc5 := of_decide_eq_true hc5 | replace hc5 := bnot_t hc5 | skip
              refine W_seq (W_region ?_)
              refine Rg_run rfl (o_moveh (v := .slice _ _ _) rfl) ?_
              refine Rg_run rfl (o_moveh (v := .int _ _) rfl) ?_
              refine Rg_run rfl (o_moveh (v := .slice _ _ _) rfl) ?_
              refine Rg_run rfl (o_moveh (v := .int _ _) rfl) ?_
              refine Rg_run rfl (o_iaO2 (i := p.2.1) Tryz.underlying66 Tryz.sizeOf127 hown rfl rfl (by omega) (by omega)) ?_
              refine Rg_run rfl (o_ldRS Tryz.isAgg127 Tryz.sizeOf127 hs rfl (tail_get (z := pz0) (by omega) (by omega))) ?_
              refine Rg_run rfl (o_iaO Tryz.underlying66 Tryz.sizeOf127 hown rfl rfl (by omega)) ?_
              refine Rg_elst (u := l.getD (k + p.2.1) pz0) rfl encPr_ok Tryz.sizeOf127 rfl rfl rfl hown (by simp; omega) ?_
              intro w75 x76 hown
              have z77 := Bel.size x76
              replace hX := Bel.out hX x76 (fun g h1 h2 => by first | exact h2 | omega)
              replace hXL1 := Bel.out hXL1 x76 (fun g h1 h2 => by first | exact h2 | omega)
              replace hXL38 := Bel.out hXL38 x76 (fun g h1 h2 => by first | exact h2 | omega)
              refine Rg_nil (W_region ?_)
              refine Rg_run rfl (o_moveh (v := .int _ _) rfl) ?_
              refine Rg_run rfl (o_add rfl rfl (by first | omega | (unfold I64; omega) | (simp; done) | (simp; omega) | (simp at *; omega))) ?_
              refine Rg_run rfl (o_assignh (v := .int _ _) rfl) ?_
              refine Rg_nil (W_region ?_)
              refine Rg_run rfl (o_moveh (v := .int _ _) rfl) ?_
              refine Rg_run rfl (o_add rfl rfl (by first | omega | (unfold I64; omega) | (simp; done) | (simp; omega) | (simp at *; omega))) ?_
              refine Rg_run rfl (o_assignh (v := .int _ _) rfl) ?_
              refine Rg_nil ?_
              refine ⟨(p.1 ++ [l.getD (k + p.2.1) pz0], p.2.1 + 1, p.2.2 + 1), ⟨?_, ?_, trivial⟩, ?_, ⟨?_, hXL38, ?_⟩, ?_⟩
              · first | rfl | (go_num) | (exact congrArg _ (by omega))
              · first | rfl | (go_num) | (exact congrArg _ (by omega))
              · repeat (first | exact off_refl _ _ | exact off_mix | refine off_put rfl ?_ | refine off_putN ?_ | refine off_setL rfl ?_ | refine off_mix' rfl ?_)
              · exact ⟨by show 1 ≤ p.2.1 + 1; omega, by show k + (p.2.1 + 1) ≤ l.length; omega, by show _ = compL (l.take (k + p.2.1 + 1)); rw [comp_ne (z := pz0) (by omega) (by omega) (by rw [show k + p.2.1 - 1 = k + (p.2.1 - 1) by omega]; simpa using hc5), hp3], by simp [hp4], by show p.2.2 + 1 + 1 ≤ k + (p.2.1 + 1); omega⟩
              · rw [← hp4, tail_set (by omega)] at hown; exact hown
              · show l.length - (k + (p.2.1 + 1)) < _; omega
            first | replace hc5 := of_decide_eq_false hc5 | replace hc5 := bnot_f hc5 | skip
            refine W_skip (W_region ?_)
            refine Rg_run rfl (o_moveh (v := .int _ _) rfl) ?_
            refine Rg_run rfl (o_add rfl rfl (by first | omega | (unfold I64; omega) | (simp; done) | (simp; omega) | (simp at *; omega))) ?_
            refine Rg_run rfl (o_assignh (v := .int _ _) rfl) ?_
            refine Rg_nil ?_
            refine ⟨(p.1, p.2.1 + 1, p.2.2), ⟨?_, ?_, trivial⟩, ?_, ⟨?_, hXL38, ?_⟩, ?_⟩
            · first | rfl | (go_num) | (exact congrArg _ (by omega))
            · first | rfl | (go_num) | (exact congrArg _ (by omega))
            · repeat (first | exact off_refl _ _ | exact off_mix | refine off_put rfl ?_ | refine off_putN ?_ | refine off_setL rfl ?_ | refine off_mix' rfl ?_)
            · exact ⟨by show 1 ≤ p.2.1 + 1; omega, by show k + (p.2.1 + 1) ≤ l.length; omega, by show _ = compL (l.take (k + p.2.1 + 1)); rw [comp_eq (z := pz0) (by omega) (by omega) (by rw [show k + p.2.1 - 1 = k + (p.2.1 - 1) by omega]; simpa using hc5), hp3], hp4, by show p.2.2 + 1 ≤ k + (p.2.1 + 1); omega⟩
            · exact hown
            · show l.length - (k + (p.2.1 + 1)) < _; omega
        first | replace hc4 := of_decide_eq_false hc4 | replace hc4 := bnot_f hc4 | skip
        refine W_exit (exAt_hit (W_seq (W_region ?_)))
        refine Rg_run rfl (o_moveh (v := .slice _ _ _) rfl) ?_
        refine Rg_run rfl (o_moveh (v := .int _ _) rfl) ?_
        refine Rg_run rfl (o_sfromO (j := p.2.2) Tryz.underlying66 Tryz.sizeOf127 rfl rfl (by omega) (by omega)) ?_
        refine Rg_clear pz0 encPr_ok el_pr rfl rfl hown (by simp; omega) (by simp; omega) ?_
        intro w78 x79 hown
        have z80 := Bel.size x79
        replace hX := Bel.out hX x79 (fun g h1 h2 => by first | exact h2 | omega)
        replace hXL1 := Bel.out hXL1 x79 (fun g h1 h2 => by first | exact h2 | omega)
        refine Rg_nil (W_seq (W_region ?_))
        refine Rg_run rfl (o_moveh (v := .slice _ _ _) rfl) ?_
        refine Rg_run rfl (o_moveh (v := .int _ _) rfl) ?_
        refine Rg_run rfl (o_slto Tryz.underlying66 Tryz.sizeOf127 rfl rfl (by first | omega | (unfold I64; omega) | (simp; done) | (simp; omega) | (simp at *; omega))) ?_
        refine Rg_run rfl (o_assignh (v := .slice _ _ _) rfl) ?_
        refine Rg_nil (W_ret ?_)
        refine ⟨_, res_tmp rfl rfl, ?_⟩
        have e : compL l = p.1 := by rw [hp3, show k + p.2.1 = l.length by omega, List.take_length]
        exact ⟨_, rfl, by rw [e]; exact hown.cutTo encPr_ok hp4, hX⟩
      first | replace hc3 := of_decide_eq_false hc3 | replace hc3 := bnot_f hc3 | skip
      refine W_skip (W_region ?_)
      refine Rg_run rfl (o_moveh (v := .int _ _) rfl) ?_
      refine Rg_run rfl (o_add rfl rfl (by first | omega | (unfold I64; omega) | (simp; done) | (simp; omega) | (simp at *; omega))) ?_
      refine Rg_run rfl (o_assignh (v := .int _ _) rfl) ?_
      refine Rg_nil ?_
      refine ⟨k + 1, ⟨?_, trivial⟩, ?_, ⟨?_, hXL1, ?_⟩, ?_⟩
      · first | rfl | (go_num) | (exact congrArg _ (by omega))
      · repeat (first | exact off_refl _ _ | exact off_mix | refine off_put rfl ?_ | refine off_putN ?_ | refine off_setL rfl ?_ | refine off_mix' rfl ?_)
      · exact ⟨by omega, by omega, by rw [comp_ne (z := pz0) (by omega) hk1 (by simpa using hc3), hall, List.take_succ_eq_append_getElem (by omega)]; simp [List.getD, show k < l.length by omega]⟩
      · exact ho
      · omega
  first | replace hc2 := of_decide_eq_false hc2 | replace hc2 := bnot_f hc2 | skip
  refine W_exit (exAt_hit (W_seq (W_region ?_)))
  refine Rg_run rfl (o_moveh (v := .slice _ _ _) rfl) ?_
  refine Rg_run rfl (o_assignh (v := .slice _ _ _) rfl) ?_
  refine Rg_nil (W_ret ?_)
  refine ⟨_, res_tmp rfl rfl, ?_⟩
  rw [List.take_of_length_le (by omega)] at hall
  exact ⟨_, rfl, by rw [hall]; exact ho, hX⟩

theorem pclip_ok (a : Option Addr) (c : Nat) (n : Nat) (w : World) (hn : n ≤ c) : Ok Tryz.prog 135 #[.slice a n c] w fun v w' => v = .slice a n n ∧ Ext False w w' := by
  refine Ok_of_W 9 Tryz.func135 rfl rfl rfl ?_
  have hX : Ext False w w := Bel.refl _ _
  refine W_seq (W_region ?_)
  refine Rg_run rfl o_assignc ?_
  refine Rg_nil (W_seq (W_region ?_))
  refine Rg_run rfl (o_moveh (v := .slice _ _ _) rfl) ?_
  refine Rg_run rfl (o_moveh (v := .slice _ _ _) rfl) ?_
  refine Rg_run rfl (o_llen Tryz.underlying66 rfl) ?_
  refine Rg_run rfl (o_moveh (v := .slice _ _ _) rfl) ?_
  refine Rg_run rfl (o_llen Tryz.underlying66 rfl) ?_
  refine Rg_run rfl (o_sl3 Tryz.underlying66 Tryz.sizeOf127 rfl rfl rfl (Nat.le_refl _) hn) ?_
  refine Rg_run rfl (o_assignh (v := .slice _ _ _) rfl) ?_
  refine Rg_nil (W_ret ?_)
  refine ⟨_, res_tmp rfl rfl, ?_⟩
  exact ⟨rfl, hX⟩

end Go.Proofs.YtncmjgmlnnenhaaGreatDoor
