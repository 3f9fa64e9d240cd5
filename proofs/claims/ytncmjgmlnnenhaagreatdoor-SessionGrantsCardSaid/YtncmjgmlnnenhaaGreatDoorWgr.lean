/- Walks, printed by program: each theorem says what a function of the translation returns. -/
import Derived.Test.YtncmjgmlnnenhaaGreatDoorWgsl
namespace Go.Proofs.YtncmjgmlnnenhaaGreatDoor
open Go Go.Lx Go.RowKit
set_option maxRecDepth 100000
set_option linter.unusedVariables false
set_option linter.unusedSimpArgs false
set_option linter.unnecessarySimpa false
theorem isnani_ok (w : World) (x : Int) : Ok Tryz.prog 174 #[.int .i64 x] w fun v w' => v = .bool (false) ∧ Ext False w w' := by
  refine Ok_of_W 6 Tryz.func174 rfl rfl rfl ?_
  have hX : Ext False w w := Bel.refl _ _
  refine W_seq (W_region ?_)
  refine Rg_run rfl o_assignc ?_
  refine Rg_nil (W_seq (W_region ?_))
  refine Rg_run rfl (o_moveh (v := .int _ _) rfl) ?_
  refine Rg_run rfl (o_moveh (v := .int _ _) rfl) ?_
  refine Rg_run rfl (o_neq rfl rfl) ?_
  refine Rg_run rfl (o_assignh (v := .bool _) rfl) ?_
  refine Rg_nil (W_ret ?_)
  refine ⟨_, res_tmp rfl rfl, ?_⟩
  refine ⟨congrArg Value.bool ?_, hX⟩
  all_goals (simp)

theorem cmpi_ok (w : World) (a : Int) (b : Int) : Ok Tryz.prog 148 #[.int .i64 a, .int .i64 b] w fun v w' => v = .int .i64 (cmpI a b) ∧ Ext False w w' := by
  refine Ok_of_W 20 Tryz.func148 rfl rfl rfl ?_
  have hX : Ext False w w := Bel.refl _ _
  refine W_seq (W_region ?_)
  refine Rg_run rfl o_assignc ?_
  refine Rg_nil (W_seq (W_region ?_))
  refine Rg_run rfl (o_moveh (v := .int _ _) rfl) ?_
  refine Rg_enter rfl (o_call1 Tryz.call174 rfl) (Ok.mono (isnani_ok _ _) ?_)
  rintro _ w1 ⟨rfl, x2⟩
  replace hX := Bel.ex hX x2
  refine Rg_run rfl (o_assignh (v := .bool _) rfl) ?_
  refine Rg_nil (W_seq (W_region ?_))
  refine Rg_run rfl (o_moveh (v := .int _ _) rfl) ?_
  refine Rg_enter rfl (o_call1 Tryz.call174 rfl) (Ok.mono (isnani_ok _ _) ?_)
  rintro _ w3 ⟨rfl, x4⟩
  replace hX := Bel.ex hX x4
  refine Rg_run rfl (o_assignh (v := .bool _) rfl) ?_
  refine Rg_nil (W_seq (W_seq (W_region ?_)))
  refine Rg_run rfl (o_moveh (v := .bool _) rfl) ?_
  refine Rg_nil ?_
  refine W_cond_false rfl ?_
  refine W_skip (W_seq (W_seq (W_region ?_)))
  refine Rg_run rfl (o_moveh (v := .bool _) rfl) ?_
  refine Rg_nil ?_
  refine W_cond_false rfl ?_
  refine W_skip (W_seq (W_seq (W_region ?_)))
  refine Rg_run rfl (o_moveh (v := .int _ _) rfl) ?_
  refine Rg_run rfl (o_moveh (v := .int _ _) rfl) ?_
  refine Rg_run rfl (o_lss rfl rfl) ?_
  refine Rg_nil ?_
  refine W_cond rfl (fun hc3 => ?_) (fun hc3 => ?_)
  · skip
    refine W_seq (W_region ?_)
    refine Rg_run rfl o_assignc ?_
    refine Rg_nil (W_ret ?_)
    refine ⟨_, res_tmp rfl rfl, ?_⟩
    refine ⟨congrArg (Value.int .i64) ?_, hX⟩
    all_goals (rw [cmpI, if_pos (of_decide_eq_true hc3)])
  refine W_skip (W_seq (W_seq (W_region ?_)))
  refine Rg_run rfl (o_moveh (v := .int _ _) rfl) ?_
  refine Rg_run rfl (o_moveh (v := .int _ _) rfl) ?_
  refine Rg_run rfl (o_gtr rfl rfl) ?_
  refine Rg_nil ?_
  refine W_cond rfl (fun hc4 => ?_) (fun hc4 => ?_)
  · skip
    refine W_seq (W_region ?_)
    refine Rg_run rfl o_assignc ?_
    refine Rg_nil (W_ret ?_)
    refine ⟨_, res_tmp rfl rfl, ?_⟩
    refine ⟨congrArg (Value.int .i64) ?_, hX⟩
    all_goals (rw [cmpI, if_neg (of_decide_eq_false hc3), if_pos (of_decide_eq_true hc4)])
  refine W_skip (W_seq (W_region ?_))
  refine Rg_run rfl o_assignc ?_
  refine Rg_nil (W_ret ?_)
  refine ⟨_, res_tmp rfl rfl, ?_⟩
  refine ⟨congrArg (Value.int .i64) ?_, hX⟩
  all_goals (rw [cmpI, if_neg (of_decide_eq_false hc3), if_neg (of_decide_eq_false hc4)])

theorem gcompare_ok (a b : Ent) (ha : a.p.ok) (hb : b.p.ok) (w : World) : Ok Tryz.prog 114 #[.agg (encE a).toArray, .agg (encE b).toArray] w fun v w' => v = .int .i64 (cmpE a b) ∧ Ext False w w' := by
  refine Ok_of_W 20 Tryz.func114 rfl rfl rfl ?_
  have hX : Ext False w w := Bel.refl _ _
  refine W_seq (W_region ?_)
  refine Rg_newB rfl (o_box (v := .agg _) rfl) ?_
  intro b2 w1 x2 hge2 hb2
  change Box _ _ _ (encE _) at hb2
  replace hX := Bel.ex hX x2
  refine Rg_newB rfl (o_box (v := .agg _) rfl) ?_
  intro b3 w3 x4 hge3 hb3
  change Box _ _ _ (encE _) at hb3
  replace hX := Bel.ex hX x4
  replace hb2 := hb2.ext x4
  refine Rg_run rfl o_assignc ?_
  refine Rg_nil (W_seq (W_seq (W_region ?_)))
  refine Rg_run rfl (o_fa Tryz.underlying131 rfl Tryz.sizeOf3 rfl) ?_
  refine Rg_run rfl (o_load1 Tryz.isAgg3 rfl (hb2.at.get 0 rfl)) ?_
  refine Rg_run rfl (o_fa Tryz.underlying131 rfl Tryz.sizeOf3 rfl) ?_
  refine Rg_run rfl (o_load1 Tryz.isAgg3 rfl (hb3.at.get 0 rfl)) ?_
  refine Rg_run rfl (o_neq rfl rfl) ?_
  refine Rg_nil ?_
  refine W_cond rfl (fun hc1 => ?_) (fun hc1 => ?_)
  · skip
    refine W_seq (W_region ?_)
    refine Rg_run rfl (o_fa Tryz.underlying131 rfl Tryz.sizeOf3 rfl) ?_
    refine Rg_run rfl (o_load1 Tryz.isAgg3 rfl (hb2.at.get 0 rfl)) ?_
    refine Rg_run rfl (o_fa Tryz.underlying131 rfl Tryz.sizeOf3 rfl) ?_
    refine Rg_run rfl (o_load1 Tryz.isAgg3 rfl (hb3.at.get 0 rfl)) ?_
    refine Rg_enter rfl (o_call2 Tryz.call148 rfl rfl) (Ok.mono (cmpi_ok _ _ _) ?_)
    rintro _ w5 ⟨rfl, x6⟩
    replace hX := Bel.ex hX x6
    replace hb2 := hb2.ext x6
    replace hb3 := hb3.ext x6
    refine Rg_run rfl (o_assignh (v := .int _ _) rfl) ?_
    refine Rg_nil (W_ret ?_)
    refine ⟨_, res_tmp rfl rfl, ?_⟩
    refine ⟨congrArg (Value.int .i64) ?_, hX⟩
    all_goals (rw [cmpE, if_pos hc1])
  refine W_skip (W_seq (W_region ?_))
  refine Rg_run rfl (o_fa Tryz.underlying131 rfl Tryz.sizeOf75 rfl) ?_
  refine Rg_run rfl (o_loadS Tryz.isAgg75 Tryz.sizeOf75 rfl (hb2.at.sub 1 3) rfl) ?_
  refine Rg_run rfl (o_fa Tryz.underlying131 rfl Tryz.sizeOf75 rfl) ?_
  refine Rg_run rfl (o_loadS Tryz.isAgg75 Tryz.sizeOf75 rfl (hb3.at.sub 1 3) rfl) ?_
  refine Rg_enter rfl (o_call2 Tryz.call124 rfl rfl) (Ok.mono (pmcompare_ok (False) _ ha _ hb _) ?_)
  rintro _ w7 ⟨rfl, x8⟩
  replace hX := Bel.ex hX x8
  replace hb2 := hb2.ext x8
  replace hb3 := hb3.ext x8
  refine Rg_run rfl (o_assignh (v := .int _ _) rfl) ?_
  refine Rg_nil (W_ret ?_)
  refine ⟨_, res_tmp rfl rfl, ?_⟩
  refine ⟨congrArg (Value.int .i64) ?_, hX⟩
  all_goals (rw [cmpE, if_neg (by rw [hc1]; simp)])

theorem grole_ok (w : World) (r : Int) : Ok Tryz.prog 108 #[.int .i64 r] w fun v w' => v = .bool (decide (1 ≤ r) && decide (r ≤ 63)) ∧ Ext False w w' := by
  refine Ok_of_W 9 Tryz.func108 rfl rfl rfl ?_
  have hX : Ext False w w := Bel.refl _ _
  refine W_seq (W_region ?_)
  refine Rg_run rfl o_assignc ?_
  refine Rg_nil (W_seq (W_region ?_))
  refine Rg_run rfl (o_moveh (v := .int _ _) rfl) ?_
  refine Rg_run rfl (o_geq rfl rfl) ?_
  refine Rg_run rfl (o_moveh (v := .bool _) rfl) ?_
  refine Rg_may 2 5 rfl rfl rfl (fun hg => (o_moveh (v := .int _ _) rfl)) ?_
  refine Rg_may 2 5 rfl rfl rfl (fun hg => (o_leq (gsel (u := undef) hg) rfl)) ?_
  refine Rg_run rfl (o_and (u := undef) rfl rfl) ?_
  refine Rg_run rfl (o_assignh (v := .bool _) rfl) ?_
  refine Rg_nil (W_ret ?_)
  refine ⟨_, res_tmp rfl rfl, ?_⟩
  refine ⟨congrArg Value.bool ?_, hX⟩
  all_goals (rfl)

theorem gindex_ok (a : Option Addr) (c : Nat) (G : Nat → Prop) (l : List Ent) (x : Ent) (w : World) (hs : Sl encE 4 G w a c l) : Ok Tryz.prog 109 #[.slice a l.length c, .agg (encE x).toArray] w fun v w' => v = .int .i64 (ixOf (fun y => y == x) l) ∧ Ext False w w' := by
  have hlen := hs.len
  replace hs := hs.mono (F' := fun g => g < w.heap.size) (fun g h1 h2 => h1)
  refine Ok_of_W 19 Tryz.func109 rfl rfl rfl ?_
  have hX : Ext False w w := Bel.refl _ _
  refine W_seq (W_region ?_)
  refine Rg_newB rfl (o_box (v := .agg _) rfl) ?_
  intro b3 w1 x2 hge3 hb3
  change Box _ _ _ (encE _) at hb3
  replace hX := Bel.ex hX x2
  replace hs := hs.ext x2
  refine Rg_run rfl o_assignc ?_
  refine Rg_nil (W_seq (W_seq (W_region ?_)))
  refine Rg_run rfl (o_moveh (v := .slice _ _ _) rfl) ?_
  refine Rg_run rfl (o_llen Tryz.underlying128 rfl) ?_
  refine Rg_run rfl o_movec ?_
  refine Rg_nil (W_block ?_)
  refine W_for (α := Nat) [(4, 5), (8, 18)] (fun k => [(8, .int .i64 (k : Int))]) (fun k w' => (k ≤ l.length ∧ (l.take k).any (fun y => y == x) = false) ∧ Ext False w1 w') (fun k => l.length - k) 0 ⟨rfl, trivial⟩ ⟨⟨by omega, by simp⟩, Bel.refl _ _⟩ ?_
  rintro k fb5 w4 ⟨⟨hk, hall⟩, hXL3⟩
  replace hX := Bel.ex hX hXL3
  replace hs := hs.ext hXL3
  replace hb3 := hb3.ext hXL3
  refine W_seq (W_region ?_)
  refine Rg_run rfl (o_lss rfl rfl) ?_
  refine Rg_nil (W_seq ?_)
  refine W_cond rfl (fun hc1 => ?_) (fun hc1 => ?_)
  · skip
    replace hc1 := of_decide_eq_true hc1
    refine W_skip (W_seq (W_block (W_seq (W_region ?_))))
    refine Rg_run rfl (o_moveh (v := .int _ _) rfl) ?_
    refine Rg_run rfl (o_assignh (v := .int _ _) rfl) ?_
    refine Rg_nil (W_seq ?_)
    apply W_draw (β := False) [peq _, peq _, peq _, peq _, peq _, peq _] 6 mixed (by kernel_rfl) rfl ⟨peq_stable _, peq_stable _, peq_stable _, peq_stable _, peq_stable _, peq_stable _, trivial⟩ ?ob4 ?fin4
    case ob4 =>
      refine OblL_cons (fun w6 x7 => ?_) ?_
      · skip
        have hb3 := hb3.ext x7
        refine bindP_nil ?_
        exact OpS_v rfl (o_loadS Tryz.isAgg131 Tryz.sizeOf131 rfl hb3.at rfl)
      refine OblL_cons (fun w8 x9 => ?_) ?_
      · skip
        refine bindP_nil ?_
        exact OpS_v rfl (o_moveh (v := .slice _ _ _) rfl)
      refine OblL_cons (fun w10 x11 => ?_) ?_
      · skip
        refine bindP_nil ?_
        exact OpS_v rfl (o_moveh (v := .int _ _) rfl)
      refine OblL_cons (fun w12 x13 => ?_) ?_
      · skip
        have hs := hs.ext x13
        refine bindP_eq (bindP_eq (bindP_nil ?_))
        exact OpS_v rfl (o_iaR Tryz.underlying128 Tryz.sizeOf131 hs rfl rfl (by first | omega | (unfold I64; omega) | (simp; done) | (simp; omega) | (simp at *; omega)))
      refine OblL_cons (fun w14 x15 => ?_) ?_
      · skip
        have hs := hs.ext x15
        refine bindP_eq (bindP_nil ?_)
        exact OpS_v rfl (o_ldRS Tryz.isAgg131 Tryz.sizeOf131 hs rfl (getE ez (by omega)))
      refine OblL_cons (fun w16 x17 => ?_) ?_
      · skip
        refine bindP_eq (bindP_eq (bindP_nil ?_))
        exact OpS_v rfl (o_teql eq_ent rfl rfl)
      exact OblL_nil
    case fin4 =>
      intro w18 x19
      replace hX := Bel.ex hX x19
      replace hXL3 := Bel.ex hXL3 x19
      replace hs := hs.ext x19
      replace hb3 := hb3.ext x19
      refine bindP_eq (bindP_eq (bindP_eq (bindP_eq (bindP_eq (bindP_eq (bindP_nil (Rg_nil ?_)))))))
      refine W_cond rfl (fun hc2 => ?_) (fun hc2 => ?_)
      · skip
        rw [beq_swE] at hc2
        refine W_seq (W_region ?_)
        refine Rg_run rfl (o_moveh (v := .int _ _) rfl) ?_
        refine Rg_run rfl (o_assignh (v := .int _ _) rfl) ?_
        refine Rg_nil (W_ret ?_)
        refine ⟨_, res_tmp rfl rfl, ?_⟩
        refine ⟨congrArg (Value.int .i64) ?_, hX⟩
        all_goals (exact (ixOf_at (by omega) hall (by simpa [List.getD, show k < l.length by omega] using hc2)).symm)
      rw [beq_swE] at hc2
      refine W_skip (W_region ?_)
      refine Rg_run rfl (o_add rfl rfl (by first | omega | (unfold I64; omega) | (simp; done) | (simp; omega) | (simp at *; omega))) ?_
      refine Rg_run rfl (o_moveh (v := .int _ _) rfl) ?_
      refine Rg_nil ?_
      refine ⟨k + 1, ⟨?_, trivial⟩, ?_, ⟨?_, hXL3⟩, ?_⟩
      · first | rfl | (go_num) | (exact congrArg _ (by omega))
      · repeat (first | exact off_refl _ _ | exact off_mix | refine off_put rfl ?_ | refine off_putN ?_ | refine off_setL rfl ?_ | refine off_mix' rfl ?_)
      · exact ⟨by omega, anyT_succ (by omega) hall (by simpa [List.getD, show k < l.length by omega] using hc2)⟩
      · omega
  replace hc1 := of_decide_eq_false hc1
  refine W_exit (exAt_hit (W_seq (W_region ?_)))
  refine Rg_run rfl o_assignc ?_
  refine Rg_nil (W_ret ?_)
  refine ⟨_, res_tmp rfl rfl, ?_⟩
  refine ⟨congrArg (Value.int .i64) ?_, hX⟩
  all_goals (exact (ixOf_none (k := k) (by omega) hall).symm)

theorem gbs_ok (a : Option Addr) (c : Nat) (G : Nat → Prop) (m : List Ent) (x : Ent) (w : World) (hs : Sl encE 4 G w a c m) (hm : OkG m) (hx : Ve x) : Ok Tryz.prog 113 #[.slice a m.length c, .agg (encE x).toArray, .func (.func 114) #[] #[]] w fun v w' => v = .tuple #[.int .i64 (cntG m x : Int), .bool (decide (x ∈ m))] ∧ Ext False w w' := by
  have hlen := hm.len
  replace hs := hs.mono (F' := fun g => g < w.heap.size) (fun g h1 h2 => h1)
  refine Ok_of_W 49 Tryz.func113 rfl rfl rfl ?_
  have hX : Ext False w w := Bel.refl _ _
  refine W_seq (W_region ?_)
  refine Rg_newB rfl (o_box (v := .agg _) rfl) ?_
  intro b4 w1 x2 hge4 hb4
  change Box _ _ _ (encE _) at hb4
  replace hX := Bel.ex hX x2
  replace hs := hs.ext x2
  refine Rg_run rfl o_assignc ?_
  refine Rg_run rfl o_assignc ?_
  refine Rg_nil (W_seq (W_region ?_))
  refine Rg_run rfl (o_moveh (v := .slice _ _ _) rfl) ?_
  refine Rg_run rfl (o_llen Tryz.underlying128 rfl) ?_
  refine Rg_run rfl (o_assignh (v := .int _ _) rfl) ?_
  refine Rg_nil (W_seq (W_region ?_))
  refine Rg_run rfl (o_moveh (v := .int _ _) rfl) ?_
  refine Rg_run rfl o_assignc ?_
  refine Rg_run rfl (o_assignh (v := .int _ _) rfl) ?_
  refine Rg_nil (W_seq (W_block ?_))
  refine W_for (α := Nat × Nat) [(9, 11), (15, 34)] (fun q => [(9, .int .i64 (q.1 : Int)), (10, .int .i64 (q.2 : Int))]) (fun q w' => (BsG m x q.1 q.2) ∧ Ext False w1 w') (fun q => q.2 - q.1) (0, m.length) ⟨rfl, rfl, trivial⟩ ⟨BsG.start _ _, Bel.refl _ _⟩ ?_
  rintro ⟨i, j⟩ fb5 w4 ⟨hb, hXL3⟩
  dsimp only at *
  replace hX := Bel.ex hX hXL3
  replace hs := hs.ext hXL3
  replace hb4 := hb4.ext hXL3
  have hb1 := hb.le
  have hb2 := hb.len
  refine W_seq (W_seq (W_region ?_))
  refine Rg_run rfl (o_moveh (v := .int _ _) rfl) ?_
  refine Rg_run rfl (o_moveh (v := .int _ _) rfl) ?_
  refine Rg_run rfl (o_lss rfl rfl) ?_
  refine Rg_nil ?_
  refine W_cond rfl (fun hc1 => ?_) (fun hc1 => ?_)
  · skip
    replace hc1 := of_decide_eq_true hc1
    have hij : i < j := by omega
    refine W_skip (W_block (W_seq (W_region ?_)))
    refine Rg_run rfl (o_moveh (v := .int _ _) rfl) ?_
    refine Rg_run rfl (o_moveh (v := .int _ _) rfl) ?_
    refine Rg_run rfl (o_addN (p := i) (b := j) rfl rfl (by omega)) ?_
    refine Rg_run rfl (o_convV (n := i + j) Tryz.underlying3 Tryz.underlying185 rfl (by omega)) ?_
    refine Rg_run rfl (o_shrU (a := BitVec.ofNat 64 (i + j)) (n := 1) rfl rfl (by decide)) ?_
    refine Rg_run rfl (o_convU (n := ((i + j) / 2)) Tryz.underlying185 Tryz.underlying3 rfl (half_natE (by omega)) (by omega)) ?_
    refine Rg_run rfl (o_assignh (v := .int _ _) rfl) ?_
    refine Rg_nil (W_seq ?_)
    apply W_draw (β := False) [peq _, peq _, peq _, peq _, peq _, peq _, peq _, peq _] 8 mixed (by kernel_rfl) rfl ⟨peq_stable _, peq_stable _, peq_stable _, peq_stable _, peq_stable _, peq_stable _, peq_stable _, peq_stable _, trivial⟩ ?ob5 ?fin5
    case ob5 =>
      refine OblL_cons (fun w6 x7 => ?_) ?_
      · skip
        refine bindP_nil ?_
        exact OpS_v rfl (o_moveh (v := .func _ _ _) rfl)
      refine OblL_cons (fun w8 x9 => ?_) ?_
      · skip
        refine bindP_nil ?_
        exact OpS_v rfl (o_moveh (v := .slice _ _ _) rfl)
      refine OblL_cons (fun w10 x11 => ?_) ?_
      · skip
        refine bindP_nil ?_
        exact OpS_v rfl (o_moveh (v := .int _ _) rfl)
      refine OblL_cons (fun w12 x13 => ?_) ?_
      · skip
        have hs := hs.ext x13
        refine bindP_eq (bindP_eq (bindP_nil ?_))
        exact OpS_v rfl (o_iaR Tryz.underlying128 Tryz.sizeOf131 hs rfl rfl (by first | omega | (unfold I64; omega) | (simp; done) | (simp; omega) | (simp at *; omega)))
      refine OblL_cons (fun w14 x15 => ?_) ?_
      · skip
        have hs := hs.ext x15
        refine bindP_eq (bindP_nil ?_)
        exact OpS_v rfl (o_ldRS Tryz.isAgg131 Tryz.sizeOf131 hs rfl (getE ez (by omega)))
      refine OblL_cons (fun w16 x17 => ?_) ?_
      · skip
        have hb4 := hb4.ext x17
        refine bindP_nil ?_
        exact OpS_v rfl (o_loadS Tryz.isAgg131 Tryz.sizeOf131 rfl hb4.at rfl)
      refine OblL_cons (fun w18 x19 => ?_) ?_
      · skip
        refine bindP_eq (bindP_eq (bindP_eq (bindP_nil ?_)))
        exact OpS_call rfl (o_clo2 Tryz.call114 rfl rfl rfl) (gcompare_ok (m.getD ((i + j) / 2) ez) x (hm.ve _ (gm (z := ez) (show ((i + j) / 2) < m.length by omega))).2.2.1 hx.2.2.1 _)
      refine OblL_cons (fun w20 x21 => ?_) ?_
      · skip
        refine bindP_eq (bindP_nil ?_)
        exact OpS_v rfl (o_lss rfl rfl)
      exact OblL_nil
    case fin5 =>
      intro w22 x23
      replace hX := Bel.ex hX x23
      replace hXL3 := Bel.ex hXL3 x23
      refine bindP_eq (bindP_eq (bindP_eq (bindP_eq (bindP_eq (bindP_eq (bindP_eq (bindP_eq (bindP_nil ?_))))))))
      refine Rg_nil ?_
      refine W_cond rfl (fun hc2 => ?_) (fun hc2 => ?_)
      · skip
        replace hc2 := of_decide_eq_true hc2
        refine W_region ?_
        refine Rg_run rfl (o_moveh (v := .int _ _) rfl) ?_
        refine Rg_run rfl (o_add rfl rfl (by first | omega | (unfold I64; omega) | (simp; done) | (simp; omega) | (simp at *; omega))) ?_
        refine Rg_run rfl (o_assignh (v := .int _ _) rfl) ?_
        refine Rg_nil ?_
        refine ⟨(((i + j) / 2) + 1, j), ⟨?_, ?_, trivial⟩, ?_, ⟨?_, hXL3⟩, ?_⟩
        · first | rfl | (go_num) | (exact congrArg _ (by omega))
        · first | rfl | (go_num) | (exact congrArg _ (by omega))
        · repeat (first | exact off_refl _ _ | exact off_mix | refine off_put rfl ?_ | refine off_putN ?_ | refine off_setL rfl ?_ | refine off_mix' rfl ?_)
        · exact hb.lo hm hx (by omega) (by omega) hc2
        · show j - (((i + j) / 2) + 1) < j - i; omega
      replace hc2 := of_decide_eq_false hc2
      refine W_region ?_
      refine Rg_run rfl (o_moveh (v := .int _ _) rfl) ?_
      refine Rg_run rfl (o_assignh (v := .int _ _) rfl) ?_
      refine Rg_nil ?_
      refine ⟨(i, ((i + j) / 2)), ⟨?_, ?_, trivial⟩, ?_, ⟨?_, hXL3⟩, ?_⟩
      · first | rfl | (go_num) | (exact congrArg _ (by omega))
      · first | rfl | (go_num) | (exact congrArg _ (by omega))
      · repeat (first | exact off_refl _ _ | exact off_mix | refine off_put rfl ?_ | refine off_putN ?_ | refine off_setL rfl ?_ | refine off_mix' rfl ?_)
      · exact hb.hi hm hx (by omega) (by omega) hc2
      · show ((i + j) / 2) - i < j - i; omega
  replace hc1 := of_decide_eq_false hc1
  obtain rfl : i = j := by omega
  refine W_exit (exAt_hit (W_seq ?_))
  apply W_draw (β := False) [peq _, peq _, peq _, peq _, peq _, peq _, peq _, peq _, peq _, peq _, peq _, peq _, peq _, peq _, peq _, peq _] 16 mixed (by kernel_rfl) rfl ⟨peq_stable _, peq_stable _, peq_stable _, peq_stable _, peq_stable _, peq_stable _, peq_stable _, peq_stable _, peq_stable _, peq_stable _, peq_stable _, peq_stable _, peq_stable _, peq_stable _, peq_stable _, peq_stable _, trivial⟩ ?ob8 ?fin8
  case ob8 =>
    refine OblL_cons (fun w24 x25 => ?_) ?_
    · skip
      refine bindP_nil ?_
      exact OpS_v rfl (o_moveh (v := .int _ _) rfl)
    refine OblL_cons (fun w26 x27 => ?_) ?_
    · skip
      refine bindP_nil ?_
      exact OpS_v rfl (o_moveh (v := .int _ _) rfl)
    refine OblL_cons (fun w28 x29 => ?_) ?_
    · skip
      refine bindP_nil ?_
      exact OpS_v rfl (o_moveh (v := .int _ _) rfl)
    refine OblL_cons (fun w30 x31 => ?_) ?_
    · skip
      refine bindP_eq (bindP_eq (bindP_nil ?_))
      exact OpS_v rfl (o_lss rfl rfl)
    refine OblL_cons (fun w32 x33 => ?_) ?_
    · skip
      refine bindP_eq (bindP_nil ?_)
      exact OpS_v rfl (o_moveh (v := .bool _) rfl)
    refine OblL_cons (fun w34 x35 => ?_) ?_
    · skip
      refine bindP_eq (bindP_nil ?_)
      exact OpS_may 4 39 rfl rfl (fun hg => (o_moveh (v := .func _ _ _) rfl))
    refine OblL_cons (fun w36 x37 => ?_) ?_
    · skip
      refine bindP_eq (bindP_nil ?_)
      exact OpS_may 4 39 rfl rfl (fun hg => (o_moveh (v := .slice _ _ _) rfl))
    refine OblL_cons (fun w38 x39 => ?_) ?_
    · skip
      refine bindP_eq (bindP_nil ?_)
      exact OpS_may 4 39 rfl rfl (fun hg => (o_moveh (v := .int _ _) rfl))
    refine OblL_cons (fun w40 x41 => ?_) ?_
    · skip
      have hs := hs.ext x41
      refine bindP_eq (bindP_eq (bindP_eq (bindP_nil ?_)))
      exact OpS_may 4 39 rfl rfl (fun hg => (o_iaR Tryz.underlying128 Tryz.sizeOf131 hs (gsel (u := undef) hg) (gsel (u := undef) hg) (by first | omega | (unfold I64; omega) | (simp; done) | (simp; omega) | (simp at *; omega))))
    refine OblL_cons (fun w42 x43 => ?_) ?_
    · skip
      have hs := hs.ext x43
      refine bindP_eq (bindP_eq (bindP_nil ?_))
      exact OpS_may 4 39 rfl rfl (fun hg => (o_ldRS Tryz.isAgg131 Tryz.sizeOf131 hs (gsel (u := undef) hg) (getE ez (by simpa using hg))))
    refine OblL_cons (fun w44 x45 => ?_) ?_
    · skip
      have hb4 := hb4.ext x45
      refine bindP_eq (bindP_nil ?_)
      exact OpS_may 4 39 rfl rfl (fun hg => (o_loadS Tryz.isAgg131 Tryz.sizeOf131 rfl hb4.at rfl))
    refine OblL_cons (fun w46 x47 => ?_) ?_
    · skip
      refine bindP_eq (bindP_eq (bindP_eq (bindP_eq (bindP_eq (bindP_nil ?_)))))
      exact OpS_mayCall 4 39 rfl rfl (fun hg => ⟨(o_clo2 Tryz.call114 (gsel (u := undef) hg) (gsel (u := undef) hg) (gsel (u := undef) hg)), gcompare_ok (m.getD i ez) x (by have hil : i < m.length := (by simpa using hg); exact (hm.ve _ (gm (z := ez) (show i < m.length by omega))).2.2.1) hx.2.2.1 _⟩)
    refine OblL_cons (fun w48 x49 => ?_) ?_
    · skip
      refine bindP_eq (bindP_eq (bindP_nil ?_))
      exact OpS_may 4 39 rfl rfl (fun hg => (o_eql (gsel (u := undef) hg) rfl))
    refine OblL_cons (fun w50 x51 => ?_) ?_
    · skip
      refine bindP_eq (bindP_eq (bindP_nil ?_))
      exact OpS_v rfl (o_and (u := undef) rfl rfl)
    refine OblL_cons (fun w52 x53 => ?_) ?_
    · skip
      refine bindP_eq (bindP_eq (bindP_eq (bindP_nil ?_)))
      exact OpS_v rfl (o_assignh (v := .int _ _) rfl)
    refine OblL_cons (fun w54 x55 => ?_) ?_
    · skip
      refine bindP_eq (bindP_eq (bindP_eq (bindP_eq (bindP_eq (bindP_eq (bindP_eq (bindP_eq (bindP_eq ?_))))))))
      refine bindP_eq (bindP_eq (bindP_eq (bindP_eq (bindP_eq (bindP_eq (bindP_eq (bindP_eq (bindP_nil ?_))))))))
      exact OpS_v rfl (o_assignh (v := .bool _) rfl)
    exact OblL_nil
  case fin8 =>
    intro w56 x57
    replace hX := Bel.ex hX x57
    refine bindP_eq (bindP_eq (bindP_eq (bindP_eq (bindP_eq (bindP_eq (bindP_eq (bindP_eq (bindP_eq ?_))))))))
    refine bindP_eq (bindP_eq (bindP_eq (bindP_eq (bindP_eq (bindP_eq (bindP_eq (bindP_nil (Rg_nil ?_))))))))
    refine W_ret ?_
    refine ⟨_, res_tmp2 rfl rfl rfl, ?_⟩
    rw [hb.fin hm hx, hb.uniq (cnt_bs hm hx)]
    exact ⟨rfl, hX⟩

theorem gnew_ok (w : World) : Ok Tryz.prog 29 #[] w fun v w' => ∃ p, v = .pointer (some ⟨p, 0, none⟩) ∧ GbIs w' (.pointer (some ⟨p, 0, none⟩)) [] ∧ Ext False w w' := by
  refine Ok_of_W 3 Tryz.func29 rfl rfl rfl ?_
  have hX : Ext False w w := Bel.refl _ _
  refine W_seq (W_region ?_)
  refine Rg_run rfl o_assignc ?_
  refine Rg_nil (W_seq (W_region ?_))
  refine Rg_run rfl (o_build (cells := [.slice none 0 0]) (vs := []) rfl (by kernel_rfl)) ?_
  refine Rg_newB rfl (o_box (v := .agg _) rfl) ?_
  intro b2 w1 x2 hge2 hb2
  have hlt2 := hb2.lt
  have z3 := Bel.size x2
  replace hX := Bel.ex hX x2
  refine Rg_run rfl (o_assignh (v := .pointer _) rfl) ?_
  refine Rg_nil (W_ret ?_)
  refine ⟨_, res_tmp rfl rfl, ?_⟩
  change Box _ _ _ [.slice none 0 0] at hb2
  exact ⟨b2, rfl, gb_nil hb2, hX⟩

theorem ggrant_ok (v0 : Value) (m : List Ent) (w : World) (hb0 : GbIs w v0 m) (hm : OkG m) (e : Ent) (he : e.p.ok) : Ok Tryz.prog 66 #[v0, .int .i64 e.r, .agg (encP e.p).toArray] w fun v w' => (∃ p, v = .tuple #[p, .int .i64 (grantR m e).2] ∧ GbP w' p (grantR m e).2 (grantR m e).1) ∧ Ext False w w' := by
  obtain ⟨pb, ab, cb, rfl, hba, hb⟩ := hb0
  have hbl := hba.lt
  have hlen : m.length ≤ 1000 := hm.len
  refine Ok_of_W 54 Tryz.func66 rfl rfl rfl ?_
  have hX : Ext False w w := Bel.refl _ _
  refine W_seq (W_region ?_)
  refine Rg_newB rfl (o_box (v := .agg _) rfl) ?_
  intro b5 w1 x2 hge5 hb5
  have hlt5 := hb5.lt
  change Box _ _ _ (encP _) at hb5
  have z3 := Bel.size x2
  replace hX := Bel.ex hX x2
  replace hb := hb.ext x2
  replace hba := hba.ext x2
  refine Rg_run rfl o_assignc ?_
  refine Rg_run rfl o_assignc ?_
  refine Rg_nil (W_seq (W_seq (W_region ?_)))
  refine Rg_run rfl (o_moveh (v := .pointer _) rfl) ?_
  refine Rg_run rfl (o_peq Tryz.underlying61 rfl rfl) ?_
  refine Rg_run rfl (o_moveh (v := .bool _) rfl) ?_
  refine Rg_on 2 14 rfl rfl ?_
  refine Rg_run rfl (o_moveh (v := .int _ _) rfl) ?_
  refine Rg_on 2 14 rfl rfl ?_
  refine Rg_enter rfl (o_call1 Tryz.call108 rfl) (Ok.mono (grole_ok _ _) ?_)
  rintro _ w4 ⟨rfl, x5⟩
  have z6 := Bel.size x5
  replace hX := Bel.ex hX x5
  replace hb := hb.ext x5
  replace hba := hba.ext x5
  replace hb5 := hb5.ext x5
  refine Rg_on 2 14 rfl rfl ?_
  refine Rg_run rfl (o_not rfl) ?_
  refine Rg_run rfl (o_pickF (v := .bool _) rfl rfl) ?_
  refine Rg_nil ?_
  refine W_cond rfl (fun hc1 => ?_) (fun hc1 => ?_)
  · skip
    have hr : e.r < 1 ∨ 63 < e.r := by simp at hc1; omega
    refine W_seq (W_region ?_)
    refine Rg_run rfl o_assignc ?_
    refine Rg_run rfl o_assignc ?_
    refine Rg_nil (W_ret ?_)
    refine ⟨_, res_tmp2 rfl rfl rfl, ?_⟩
    have e0 : grantR m e = (m, 1) := by rw [grantR, if_pos hr]
    rw [e0]
    exact ⟨⟨_, rfl, ⟨fun h => by simp at h, fun _ => rfl⟩⟩, hX⟩
  have hr : ¬ (e.r < 1 ∨ 63 < e.r) := by simp at hc1; omega
  refine W_skip (W_seq (W_seq (W_region ?_)))
  refine Rg_run rfl (o_loadS Tryz.isAgg75 Tryz.sizeOf75 rfl hb5.at rfl) ?_
  refine Rg_enter rfl (o_call1 Tryz.call77 rfl) (Ok.mono (check_ok (False) _ he _) ?_)
  rintro _ w7 ⟨rfl, x8⟩
  have z9 := Bel.size x8
  replace hX := Bel.ex hX x8
  replace hb := hb.ext x8
  replace hba := hba.ext x8
  replace hb5 := hb5.ext x8
  refine Rg_run rfl (o_assignh (v := .int _ _) rfl) ?_
  refine Rg_nil (W_seq (W_region ?_))
  refine Rg_run rfl (o_moveh (v := .int _ _) rfl) ?_
  refine Rg_run rfl (o_neq rfl rfl) ?_
  refine Rg_nil ?_
  refine W_cond rfl (fun hc2 => ?_) (fun hc2 => ?_)
  · skip
    have hk0 : checkS e.p ≠ 0 := by simpa using hc2
    refine W_seq (W_region ?_)
    refine Rg_run rfl (o_moveh (v := .int _ _) rfl) ?_
    refine Rg_run rfl o_assignc ?_
    refine Rg_run rfl (o_assignh (v := .int _ _) rfl) ?_
    refine Rg_nil (W_ret ?_)
    refine ⟨_, res_tmp2 rfl rfl rfl, ?_⟩
    have e0 : grantR m e = (m, checkS e.p) := by rw [grantR, if_neg hr, if_pos hk0]
    rw [e0]
    exact ⟨⟨_, rfl, ⟨fun h => absurd h hk0, fun _ => rfl⟩⟩, hX⟩
  have hk0 : ¬ checkS e.p ≠ 0 := by simpa using hc2
  have hve : Ve e := ⟨by omega, by omega, he, by omega⟩
  refine W_skip (W_seq (W_region ?_))
  refine Rg_run rfl (o_moveh (v := .int _ _) rfl) ?_
  refine Rg_run rfl (o_loadS Tryz.isAgg75 Tryz.sizeOf75 rfl hb5.at rfl) ?_
  refine Rg_run rfl (o_build (cells := encE e) (vs := [(0, .int _ _), (1, .agg _)]) rfl (by kernel_rfl)) ?_
  refine Rg_alst rfl rfl Tryz.zeroValue131 rfl Tryz.sizeOf131 (fun _ => rfl) rfl rfl ?_
  intro b9 w10 x11 hge9 hb9
  have hlt9 := hb9.lt
  change Box _ _ _ (encE _) at hb9
  have z12 := Bel.size x11
  replace hX := Bel.ex hX x11
  replace hb := hb.ext x11
  replace hba := hba.ext x11
  refine Rg_nil (W_seq ?_)
  apply W_draw (β := False) [peq _, peq _, peq _, peq _, peq _, peq _, peq _, peq _, peq _, peq _, peq _] 11 mixed (by kernel_rfl) rfl ⟨peq_stable _, peq_stable _, peq_stable _, peq_stable _, peq_stable _, peq_stable _, peq_stable _, peq_stable _, peq_stable _, peq_stable _, peq_stable _, trivial⟩ ?ob7 ?fin7
  case ob7 =>
    refine OblL_cons (fun w13 x14 => ?_) ?_
    · skip
      have z15 := Bel.size x14
      refine bindP_nil ?_
      exact OpS_v rfl (o_moveh (v := .pointer _) rfl)
    refine OblL_cons (fun w16 x17 => ?_) ?_
    · skip
      have z18 := Bel.size x17
      refine bindP_eq (bindP_nil ?_)
      exact OpS_v rfl (o_nilc rfl)
    refine OblL_cons (fun w19 x20 => ?_) ?_
    · skip
      have z21 := Bel.size x20
      refine bindP_eq (bindP_nil ?_)
      exact OpS_v rfl (o_fa Tryz.underlying141 rfl Tryz.sizeOf128 rfl)
    refine OblL_cons (fun w22 x23 => ?_) ?_
    · skip
      have z24 := Bel.size x23
      have hba := hba.ext x23
      refine bindP_eq (bindP_nil ?_)
      exact OpS_v rfl (o_load1 Tryz.isAgg128 rfl (hba.get 0 rfl))
    refine OblL_cons (fun w25 x26 => ?_) ?_
    · skip
      have z27 := Bel.size x26
      have hb9 := hb9.ext x26
      refine bindP_nil ?_
      exact OpS_v rfl (o_loadS Tryz.isAgg131 Tryz.sizeOf131 rfl hb9.at rfl)
    refine OblL_cons (fun w28 x29 => ?_) ?_
    · skip
      have z30 := Bel.size x29
      have hb := hb.ext x29
      refine bindP_eq (bindP_eq (bindP_nil ?_))
      exact OpS_call rfl (o_call3 Tryz.call113 rfl rfl rfl) (gbs_ok _ _ _ m e _ hb hm hve)
    refine OblL_cons (fun w31 x32 => ?_) ?_
    · skip
      have z33 := Bel.size x32
      refine bindP_eq (bindP_nil ?_)
      exact OpS_v rfl (o_moveh (v := .tuple _) rfl)
    refine OblL_cons (fun w34 x35 => ?_) ?_
    · skip
      have z36 := Bel.size x35
      refine bindP_eq (bindP_nil ?_)
      exact OpS_v rfl (o_extract rfl rfl)
    refine OblL_cons (fun w37 x38 => ?_) ?_
    · skip
      have z39 := Bel.size x38
      refine bindP_eq (bindP_nil ?_)
      exact OpS_v rfl (o_extract rfl rfl)
    refine OblL_cons (fun w40 x41 => ?_) ?_
    · skip
      have z42 := Bel.size x41
      refine bindP_eq (bindP_eq (bindP_eq (bindP_eq (bindP_eq (bindP_eq (bindP_eq (bindP_eq (bindP_eq ?_))))))))
      refine bindP_eq (bindP_nil ?_)
      exact OpS_v rfl (o_assignh (v := .int _ _) rfl)
    refine OblL_cons (fun w43 x44 => ?_) ?_
    · skip
      have z45 := Bel.size x44
      refine bindP_eq (bindP_eq (bindP_eq (bindP_eq (bindP_eq (bindP_eq (bindP_eq (bindP_eq (bindP_eq ?_))))))))
      refine bindP_eq (bindP_eq (bindP_eq (bindP_nil ?_)))
      exact OpS_v rfl (o_assignh (v := .bool _) rfl)
    exact OblL_nil
  case fin7 =>
    intro w46 x47
    have z48 := Bel.size x47
    replace hX := Bel.ex hX x47
    replace hb := hb.ext x47
    replace hba := hba.ext x47
    replace hb9 := hb9.ext x47
    refine bindP_eq (bindP_eq (bindP_eq (bindP_eq (bindP_eq (bindP_eq (bindP_eq (bindP_eq (bindP_eq ?_))))))))
    refine bindP_eq (bindP_eq (bindP_nil (Rg_nil (W_seq (W_seq (W_region ?_))))))
    refine Rg_run rfl (o_moveh (v := .bool _) rfl) ?_
    refine Rg_nil ?_
    refine W_cond rfl (fun hc3 => ?_) (fun hc3 => ?_)
    · skip
      have hin : e ∈ m := of_decide_eq_true hc3
      refine W_seq (W_region ?_)
      refine Rg_run rfl o_assignc ?_
      refine Rg_run rfl o_assignc ?_
      refine Rg_nil (W_ret ?_)
      refine ⟨_, res_tmp2 rfl rfl rfl, ?_⟩
      have e0 : grantR m e = (m, 5) := by rw [grantR, if_neg hr, if_neg hk0, if_pos hin]
      rw [e0]
      exact ⟨⟨_, rfl, ⟨fun h => by simp at h, fun _ => rfl⟩⟩, hX⟩
    have hin : e ∉ m := of_decide_eq_false hc3
    refine W_skip (W_seq (W_seq (W_region ?_)))
    refine Rg_run rfl (o_moveh (v := .pointer _) rfl) ?_
    refine Rg_run rfl (o_nilc rfl) ?_
    refine Rg_run rfl (o_fa Tryz.underlying141 rfl Tryz.sizeOf128 rfl) ?_
    refine Rg_run rfl (o_load1 Tryz.isAgg128 rfl (hba.get 0 rfl)) ?_
    refine Rg_run rfl (o_llen Tryz.underlying128 rfl) ?_
    refine Rg_run rfl (o_geq rfl rfl) ?_
    refine Rg_nil ?_
    refine W_cond rfl (fun hc4 => ?_) (fun hc4 => ?_)
    · skip
      replace hc4 := of_decide_eq_true hc4
      refine W_seq (W_region ?_)
      refine Rg_run rfl o_assignc ?_
      refine Rg_run rfl o_assignc ?_
      refine Rg_nil (W_ret ?_)
      refine ⟨_, res_tmp2 rfl rfl rfl, ?_⟩
      have e0 : grantR m e = (m, 14) := by rw [grantR, if_neg hr, if_neg hk0, if_neg hin, if_pos (by omega)]
      rw [e0]
      exact ⟨⟨_, rfl, ⟨fun h => by simp at h, fun _ => rfl⟩⟩, hX⟩
    replace hc4 := of_decide_eq_false hc4
    refine W_skip (W_seq ?_)
    obtain ⟨n1, hn1⟩ : ∃ n, n = w46.heap.size := ⟨_, rfl⟩
    apply W_drawC (β := False) (fun _ => 0) [peqC _, peqC _, peqC _, peqC _, (postOwn encE 4 131 1 m), peqC _, peqC _, (fun v w c => ∃ a, v = .slice a 1 1 ∧ postOwn encE 4 131 2 [e] v w c)] [0, 0, 0, 0, 1, 0, 0, 2] 8 mixed (by kernel_rfl) (by kernel_rfl) rfl ⟨peqC_stable _ _, peqC_stable _ _, peqC_stable _ _, peqC_stable _ _, (postOwn_stable), peqC_stable _ _, peqC_stable _ _, (postBs_stable), trivial⟩ ?ob12 ?fin12
    case ob12 =>
      refine OblC_cons (fun w49 c51 x50 hc052 hk53 => ?_) ?_
      · skip
        replace x50 := RelG.ext0 x50
        have z54 := Bel.size x50
        refine bindC_nil ?_
        exact OpC_v rfl (o_moveh (v := .pointer _) rfl)
      refine OblC_cons (fun w55 c57 x56 hc058 hk59 => ?_) ?_
      · skip
        replace x56 := RelG.ext0 x56
        have z60 := Bel.size x56
        refine bindC_eq (bindC_nil ?_)
        exact OpC_v rfl (o_nilc rfl)
      refine OblC_cons (fun w61 c63 x62 hc064 hk65 => ?_) ?_
      · skip
        replace x62 := RelG.ext0 x62
        have z66 := Bel.size x62
        refine bindC_eq (bindC_nil ?_)
        exact OpC_v rfl (o_fa Tryz.underlying141 rfl Tryz.sizeOf128 rfl)
      refine OblC_cons (fun w67 c69 x68 hc070 hk71 => ?_) ?_
      · skip
        replace x68 := RelG.ext0 x68
        have z72 := Bel.size x68
        have hba := hba.ext x68
        refine bindC_eq (bindC_nil ?_)
        exact OpC_v rfl (o_load1 Tryz.isAgg128 rfl (hba.get 0 rfl))
      refine OblC_cons (fun w73 c75 x74 hc076 hk77 => ?_) ?_
      · skip
        replace x74 := RelG.ext0 x74
        have z78 := Bel.size x74
        have hb := hb.ext x74
        refine bindC_eq (bindC_nil ?_)
        exact OpC_own rfl (o_call1 Tryz.call111 rfl) (gclone_ok _ _ _ hb.trd (by omega))
      refine OblC_cons (fun w79 c81 x80 hc082 hk83 => ?_) ?_
      · skip
        replace x80 := RelG.ext0 x80
        have z84 := Bel.size x80
        refine bindC_nil ?_
        exact OpC_v rfl (o_moveh (v := .int _ _) rfl)
      refine OblC_cons (fun w85 c87 x86 hc088 hk89 => ?_) ?_
      · skip
        replace x86 := RelG.ext0 x86
        have z90 := Bel.size x86
        have hb9 := hb9.ext x86
        refine bindC_nil ?_
        exact OpC_v rfl (o_loadS Tryz.isAgg131 Tryz.sizeOf131 rfl hb9.at rfl)
      refine OblC_cons (fun w91 c93 x92 hc094 hk95 => ?_) ?_
      · skip
        replace x92 := RelG.ext0 x92
        have z96 := Bel.size x92
        refine bindC_eq (bindC_nil ?_)
        exact OpC_bs (vs := [.agg _]) [e] encE_ok el_ent rfl rfl ⟨rfl, trivial⟩ rfl rfl rfl rfl
      exact OblC_nil
    case fin12 =>
      intro w97 c99 x98 hc0100
      replace x98 := RelG.ext0 x98
      have z101 := Bel.size x98
      replace hX := Bel.ex hX x98
      refine bindC_eq (bindC_eq (bindC_eq (bindC_eq ?_)))
      refine bindC_mem (fun v47 hv47 => ?_)
      refine bindC_eq (bindC_eq ?_)
      refine bindC_mem (fun v50 hv50 => ?_)
      refine bindC_nil ?_
      change Own _ _ _ _ _ _ _ at hv47
      replace hv47 := Own.mono hv47 (D' := fun g => n1 ≤ g ∧ c99 g = 1) (fun g h1 h2 => ⟨Nat.le_of_not_lt fun q => by have h := hc0100 g (by omega); rw [h2] at h; simp at h, h2⟩)
      obtain ⟨a50, hva50, ho50⟩ := hv50
      subst hva50
      change Own _ _ _ _ _ _ _ at ho50
      replace ho50 := Own.mono ho50 (D' := fun g => n1 ≤ g ∧ c99 g = 2) (fun g h1 h2 => ⟨Nat.le_of_not_lt fun q => by have h := hc0100 g (by omega); rw [h2] at h; simp at h, h2⟩)
      refine Rg_enter rfl (o_call3 Tryz.call115 rfl rfl rfl) (Ok.mono (entinsV_ok _ _ _ (cntG m e) _ _ _ _ _ hv47 ho50 (cnt_bs hm hve).len (by omega) (fun q h1 h2 => by omega)) ?_)
      rintro v51 w102 ⟨hown51, x103⟩
      have z104 := Bel.size x103
      replace hX := Bel.out hX x103 (fun g h1 h2 => by first | exact h2 | omega)
      obtain ⟨a51, c51, hv51, -⟩ := hown51.sl encE_ok
      subst hv51
      refine Rg_run rfl (o_build (cells := [.slice a51 (m.take (cntG m e) ++ ([e] : List Ent) ++ m.drop (cntG m e)).length c51]) (vs := [(0, .slice _ _ _)]) rfl (by kernel_rfl)) ?_
      refine Rg_newB rfl (o_box (v := .agg _) rfl) ?_
      intro b53 w105 x106 hge53 hb53
      have hlt53 := hb53.lt
      have z107 := Bel.size x106
      replace hX := Bel.ex hX x106
      replace hown51 := hown51.ext x106
      refine Rg_run rfl (o_assignh (v := .pointer _) rfl) ?_
      refine Rg_run rfl o_assignc ?_
      refine Rg_nil (W_ret ?_)
      refine ⟨_, res_tmp2 rfl rfl rfl, ?_⟩
      change Box _ _ _ [.slice a51 (m.take (cntG m e) ++ ([e] : List Ent) ++ m.drop (cntG m e)).length c51] at hb53
      have e0 : grantR m e = (insGo cmpE e m, 0) := by rw [grantR, if_neg hr, if_neg hk0, if_neg hin, if_neg (by omega)]
      rw [e0]
      refine ⟨⟨_, rfl, ⟨fun _ => ?_, fun h => absurd rfl h⟩⟩, hX⟩
      have hg := gb_new hb53 rfl hown51
      rw [(cnt_bs hm hve).ins hm hve hin] at hg
      exact hg

theorem gdrop_ok (v0 : Value) (m : List Ent) (w : World) (hb0 : GbIs w v0 m) (hm : OkG m) (e : Ent) (he : e.p.ok) : Ok Tryz.prog 64 #[v0, .int .i64 e.r, .agg (encP e.p).toArray] w fun v w' => (∃ p, v = .tuple #[p, .int .i64 (dropR m e).2] ∧ GbP w' p (dropR m e).2 (dropR m e).1) ∧ Ext False w w' := by
  obtain ⟨pb, ab, cb, rfl, hba, hb⟩ := hb0
  have hbl := hba.lt
  have hlen : m.length ≤ 1000 := hm.len
  refine Ok_of_W 37 Tryz.func64 rfl rfl rfl ?_
  have hX : Ext False w w := Bel.refl _ _
  refine W_seq (W_region ?_)
  refine Rg_newB rfl (o_box (v := .agg _) rfl) ?_
  intro b5 w1 x2 hge5 hb5
  have hlt5 := hb5.lt
  change Box _ _ _ (encP _) at hb5
  have z3 := Bel.size x2
  replace hX := Bel.ex hX x2
  replace hb := hb.ext x2
  replace hba := hba.ext x2
  refine Rg_run rfl o_assignc ?_
  refine Rg_run rfl o_assignc ?_
  refine Rg_nil (W_seq (W_seq (W_region ?_)))
  refine Rg_run rfl (o_moveh (v := .pointer _) rfl) ?_
  refine Rg_run rfl (o_peq Tryz.underlying61 rfl rfl) ?_
  refine Rg_run rfl (o_moveh (v := .bool _) rfl) ?_
  refine Rg_on 2 11 rfl rfl ?_
  refine Rg_run rfl (o_moveh (v := .int _ _) rfl) ?_
  refine Rg_on 2 11 rfl rfl ?_
  refine Rg_enter rfl (o_call1 Tryz.call108 rfl) (Ok.mono (grole_ok _ _) ?_)
  rintro _ w4 ⟨rfl, x5⟩
  have z6 := Bel.size x5
  replace hX := Bel.ex hX x5
  replace hb := hb.ext x5
  replace hba := hba.ext x5
  replace hb5 := hb5.ext x5
  refine Rg_on 2 11 rfl rfl ?_
  refine Rg_run rfl (o_not rfl) ?_
  refine Rg_run rfl (o_pickF (v := .bool _) rfl rfl) ?_
  refine Rg_nil ?_
  refine W_cond rfl (fun hc1 => ?_) (fun hc1 => ?_)
  · skip
    have hr : e.r < 1 ∨ 63 < e.r := by simp at hc1; omega
    refine W_seq (W_region ?_)
    refine Rg_run rfl o_assignc ?_
    refine Rg_run rfl o_assignc ?_
    refine Rg_nil (W_ret ?_)
    refine ⟨_, res_tmp2 rfl rfl rfl, ?_⟩
    have e0 : dropR m e = (m, 1) := by rw [dropR, if_pos hr]
    rw [e0]
    exact ⟨⟨_, rfl, ⟨fun h => by simp at h, fun _ => rfl⟩⟩, hX⟩
  have hr : ¬ (e.r < 1 ∨ 63 < e.r) := by simp at hc1; omega
  refine W_skip (W_seq ?_)
  apply W_draw (β := False) [peq _, peq _, peq _, peq _, peq _, peq _, peq _, peq _, peq _] 9 mixed (by kernel_rfl) rfl ⟨peq_stable _, peq_stable _, peq_stable _, peq_stable _, peq_stable _, peq_stable _, peq_stable _, peq_stable _, peq_stable _, trivial⟩ ?ob3 ?fin3
  case ob3 =>
    refine OblL_cons (fun w7 x8 => ?_) ?_
    · skip
      have z9 := Bel.size x8
      refine bindP_nil ?_
      exact OpS_v rfl (o_moveh (v := .pointer _) rfl)
    refine OblL_cons (fun w10 x11 => ?_) ?_
    · skip
      have z12 := Bel.size x11
      refine bindP_eq (bindP_nil ?_)
      exact OpS_v rfl (o_nilc rfl)
    refine OblL_cons (fun w13 x14 => ?_) ?_
    · skip
      have z15 := Bel.size x14
      refine bindP_eq (bindP_nil ?_)
      exact OpS_v rfl (o_fa Tryz.underlying141 rfl Tryz.sizeOf128 rfl)
    refine OblL_cons (fun w16 x17 => ?_) ?_
    · skip
      have z18 := Bel.size x17
      have hba := hba.ext x17
      refine bindP_eq (bindP_nil ?_)
      exact OpS_v rfl (o_load1 Tryz.isAgg128 rfl (hba.get 0 rfl))
    refine OblL_cons (fun w19 x20 => ?_) ?_
    · skip
      have z21 := Bel.size x20
      refine bindP_nil ?_
      exact OpS_v rfl (o_moveh (v := .int _ _) rfl)
    refine OblL_cons (fun w22 x23 => ?_) ?_
    · skip
      have z24 := Bel.size x23
      have hb5 := hb5.ext x23
      refine bindP_nil ?_
      exact OpS_v rfl (o_loadS Tryz.isAgg75 Tryz.sizeOf75 rfl hb5.at rfl)
    refine OblL_cons (fun w25 x26 => ?_) ?_
    · skip
      have z27 := Bel.size x26
      refine bindP_eq (bindP_eq (bindP_nil ?_))
      exact OpS_v rfl (o_build (cells := encE e) (vs := [(0, .int _ _), (1, .agg _)]) rfl (by kernel_rfl))
    refine OblL_cons (fun w28 x29 => ?_) ?_
    · skip
      have z30 := Bel.size x29
      have hb := hb.ext x29
      refine bindP_eq (bindP_eq (bindP_nil ?_))
      exact OpS_call rfl (o_call2 Tryz.call109 rfl rfl) (gindex_ok _ _ _ m e _ hb)
    refine OblL_cons (fun w31 x32 => ?_) ?_
    · skip
      have z33 := Bel.size x32
      refine bindP_eq (bindP_eq (bindP_eq (bindP_eq (bindP_eq (bindP_eq (bindP_eq (bindP_eq (bindP_eq ?_))))))))
      refine bindP_eq (bindP_nil ?_)
      exact OpS_v rfl (o_assignh (v := .int _ _) rfl)
    exact OblL_nil
  case fin3 =>
    intro w34 x35
    have z36 := Bel.size x35
    replace hX := Bel.ex hX x35
    replace hb := hb.ext x35
    replace hba := hba.ext x35
    refine bindP_eq (bindP_eq (bindP_eq (bindP_eq (bindP_eq (bindP_eq (bindP_eq (bindP_eq (bindP_eq ?_))))))))
    refine bindP_nil (Rg_nil (W_seq (W_seq (W_region ?_))))
    refine Rg_run rfl (o_moveh (v := .int _ _) rfl) ?_
    refine Rg_run rfl (o_lss rfl rfl) ?_
    refine Rg_nil ?_
    refine W_cond rfl (fun hc2 => ?_) (fun hc2 => ?_)
    · skip
      have hin : e ∉ m := of_decide_eq_true (by rw [← ixE]; exact hc2)
      refine W_seq (W_region ?_)
      refine Rg_run rfl o_assignc ?_
      refine Rg_run rfl o_assignc ?_
      refine Rg_nil (W_ret ?_)
      refine ⟨_, res_tmp2 rfl rfl rfl, ?_⟩
      have e0 : dropR m e = (m, 4) := by rw [dropR, if_neg hr, if_pos hin]
      rw [e0]
      exact ⟨⟨_, rfl, ⟨fun h => by simp at h, fun _ => rfl⟩⟩, hX⟩
    have hi0 := of_decide_eq_false hc2
    have hin : e ∈ m := Decidable.byContradiction fun h => hi0 (of_decide_eq_true (by rw [ixE]; simpa using h))
    obtain ⟨i, hi1, hi2, hi3⟩ := ixE_some (by omega : 0 ≤ ixOf (fun y => y == e) m)
    rw [hi1]
    refine W_skip (W_seq (W_region ?_))
    refine Rg_run rfl (o_moveh (v := .pointer _) rfl) ?_
    refine Rg_run rfl (o_nilc rfl) ?_
    refine Rg_run rfl (o_fa Tryz.underlying141 rfl Tryz.sizeOf128 rfl) ?_
    refine Rg_run rfl (o_load1 Tryz.isAgg128 rfl (hba.get 0 rfl)) ?_
    refine Rg_enter rfl (o_call1 Tryz.call111 rfl) (Ok.mono (gclone_ok _ _ _ hb.trd (by omega)) ?_)
    rintro v30 w37 ⟨hown30, x38⟩
    have z39 := Bel.size x38
    replace hX := Bel.ex hX x38
    replace hown30 := hown30.mono (D' := fun g => w.heap.size ≤ g) (fun g h1 h2 => by omega)
    refine Rg_run rfl (o_moveh (v := .int _ _) rfl) ?_
    refine Rg_run rfl (o_moveh (v := .int _ _) rfl) ?_
    refine Rg_run rfl (o_addN (p := i) (b := 1) rfl rfl (by omega)) ?_
    refine Rg_enter rfl (o_call3 Tryz.call110 rfl rfl rfl) (Ok.mono (entdelV_ok _ _ i _ _ hown30 hi2 (by omega)) ?_)
    rintro v34 w40 ⟨hown34, x41⟩
    have z42 := Bel.size x41
    replace hX := Bel.out hX x41 (fun g h1 h2 => by first | exact h2 | omega)
    obtain ⟨a34, c34, hv34, -⟩ := hown34.sl encE_ok
    subst hv34
    refine Rg_run rfl (o_build (cells := [.slice a34 (m.take i ++ m.drop (i + 1)).length c34]) (vs := [(0, .slice _ _ _)]) rfl (by kernel_rfl)) ?_
    refine Rg_newB rfl (o_box (v := .agg _) rfl) ?_
    intro b36 w43 x44 hge36 hb36
    have hlt36 := hb36.lt
    have z45 := Bel.size x44
    replace hX := Bel.ex hX x44
    replace hown34 := hown34.ext x44
    refine Rg_run rfl (o_assignh (v := .pointer _) rfl) ?_
    refine Rg_run rfl o_assignc ?_
    refine Rg_nil (W_ret ?_)
    refine ⟨_, res_tmp2 rfl rfl rfl, ?_⟩
    change Box _ _ _ [.slice a34 (m.take i ++ m.drop (i + 1)).length c34] at hb36
    have e0 : dropR m e = (m.filter (· != e), 0) := by rw [dropR, if_neg hr, if_neg (fun h => h hin)]
    rw [e0]
    refine ⟨⟨_, rfl, ⟨fun _ => ?_, fun h => absurd rfl h⟩⟩, hX⟩
    have hg := gb_new hb36 rfl hown34
    rw [del_filter hm.nodup hi2 hi3] at hg
    exact hg

theorem gents_ok (v0 : Value) (m : List Ent) (w : World) (hb0 : GbIs w v0 m) (hm : OkG m) : Ok Tryz.prog 70 #[v0] w fun v w' => Own encE 4 131 (Fsh w w') w' v m ∧ Ext False w w' := by
  obtain ⟨pb, ab, cb, rfl, hba, hb⟩ := hb0
  have hbl := hba.lt
  have hlen : m.length ≤ 1000 := hm.len
  refine Ok_of_W 10 Tryz.func70 rfl rfl rfl ?_
  have hX : Ext False w w := Bel.refl _ _
  refine W_seq (W_region ?_)
  refine Rg_run rfl o_assignc ?_
  refine Rg_nil (W_seq (W_seq (W_region ?_)))
  refine Rg_run rfl (o_moveh (v := .pointer _) rfl) ?_
  refine Rg_run rfl (o_peq Tryz.underlying61 rfl rfl) ?_
  refine Rg_nil ?_
  refine W_cond_false rfl ?_
  refine W_skip (W_seq (W_region ?_))
  refine Rg_run rfl (o_moveh (v := .pointer _) rfl) ?_
  refine Rg_run rfl (o_nilc rfl) ?_
  refine Rg_run rfl (o_fa Tryz.underlying141 rfl Tryz.sizeOf128 rfl) ?_
  refine Rg_run rfl (o_load1 Tryz.isAgg128 rfl (hba.get 0 rfl)) ?_
  refine Rg_enter rfl (o_call1 Tryz.call111 rfl) (Ok.mono (gclone_ok _ _ _ hb.trd (by omega)) ?_)
  rintro v9 w1 ⟨hown9, x2⟩
  have z3 := Bel.size x2
  replace hX := Bel.ex hX x2
  replace hown9 := hown9.mono (D' := fun g => w.heap.size ≤ g) (fun g h1 h2 => by omega)
  refine Rg_run rfl (o_assignh (v := v9) rfl) ?_
  refine Rg_nil (W_ret ?_)
  refine ⟨_, res_tmp rfl rfl, ?_⟩
  exact ⟨hown9.mono (fun g h1 h2 => ⟨by omega, by omega⟩), hX⟩

theorem glen_ok (v0 : Value) (m : List Ent) (w : World) (hb0 : GbIs w v0 m) (hm : OkG m) : Ok Tryz.prog 118 #[v0] w fun v w' => v = .int .i64 (m.length : Int) ∧ Ext False w w' := by
  obtain ⟨pb, ab, cb, rfl, hba, hb⟩ := hb0
  have hbl := hba.lt
  have hlen : m.length ≤ 1000 := hm.len
  refine Ok_of_W 10 Tryz.func118 rfl rfl rfl ?_
  have hX : Ext False w w := Bel.refl _ _
  refine W_seq (W_region ?_)
  refine Rg_run rfl o_assignc ?_
  refine Rg_nil (W_seq (W_seq (W_region ?_)))
  refine Rg_run rfl (o_moveh (v := .pointer _) rfl) ?_
  refine Rg_run rfl (o_peq Tryz.underlying61 rfl rfl) ?_
  refine Rg_nil ?_
  refine W_cond_false rfl ?_
  refine W_skip (W_seq (W_region ?_))
  refine Rg_run rfl (o_moveh (v := .pointer _) rfl) ?_
  refine Rg_run rfl (o_nilc rfl) ?_
  refine Rg_run rfl (o_fa Tryz.underlying141 rfl Tryz.sizeOf128 rfl) ?_
  refine Rg_run rfl (o_load1 Tryz.isAgg128 rfl (hba.get 0 rfl)) ?_
  refine Rg_run rfl (o_llen Tryz.underlying128 rfl) ?_
  refine Rg_run rfl (o_assignh (v := .int _ _) rfl) ?_
  refine Rg_nil (W_ret ?_)
  refine ⟨_, res_tmp rfl rfl, ?_⟩
  refine ⟨congrArg (Value.int .i64) ?_, hX⟩
  all_goals (rfl)

theorem gall_ok (v0 : Value) (m : List Ent) (w : World) (hb0 : GbIs w v0 m) (hm : OkG m) (s : SV) (Gs : Nat → Prop) (hs : Sl encU 1 Gs w s.a s.c (wl s.x)) : Ok Tryz.prog 25 #[v0, .agg (encSV s).toArray] w fun v w' => Own encP 3 75 (Fsh w w') w' v (normS (allG m s.x)) ∧ Ext False w w' := by
  have hlen := hm.len
  replace hs := hs.mono (F' := fun g => Gs g ∧ g < w.heap.size) (fun g h1 h2 => ⟨h2, h1⟩)
  refine Ok_of_W 27 Tryz.func25 rfl rfl rfl ?_
  have hX : Ext False w w := Bel.refl _ _
  refine W_seq (W_region ?_)
  refine Rg_newB rfl (o_box (v := .agg _) rfl) ?_
  intro b3 w1 x2 hge3 hb3
  have hlt3 := hb3.lt
  change Box _ _ _ (encSV _) at hb3
  have z3 := Bel.size x2
  replace hX := Bel.ex hX x2
  replace hs := hs.ext x2
  replace hb0 := hb0.ext x2
  refine Rg_run rfl o_assignc ?_
  refine Rg_nil (W_seq (W_region ?_))
  refine Rg_run rfl o_assignc ?_
  refine Rg_nil (W_seq (W_seq (W_region ?_)))
  refine Rg_run rfl (o_moveh (v := v0) rfl) ?_
  refine Rg_enter rfl (o_call1 Tryz.call70 rfl) (Ok.mono (gents_ok _ _ _ hb0 hm) ?_)
  rintro v9 w4 ⟨hown9, x5⟩
  have z6 := Bel.size x5
  replace hX := Bel.ex hX x5
  replace hs := hs.ext x5
  replace hb3 := hb3.ext x5
  obtain ⟨a9, c9, hv9, hs9⟩ := hown9.sl encE_ok
  subst hv9
  refine Rg_run rfl (o_llen Tryz.underlying128 rfl) ?_
  refine Rg_run rfl o_movec ?_
  refine Rg_nil (W_block ?_)
  refine W_for (α := Nat × Value) [(5, 5), (7, 7), (11, 24)] (fun q => [(11, .int .i64 (q.1 : Int)), (5, q.2)]) (fun q w' => (q.1 ≤ m.length) ∧ Bel False (fun g => w4.heap.size ≤ g) w4 w' ∧ (Own encP 3 75 (fun g => w4.heap.size ≤ g) w' q.2 (allG (m.take q.1) s.x))) (fun q => m.length - q.1) (0, .slice none 0 0) ⟨rfl, rfl, trivial⟩ ⟨Nat.zero_le _, Bel.refl _ _, Own.nil _ _⟩ ?_
  rintro ⟨k, t⟩ fb9 w8 ⟨hk, hXL7, hown⟩
  dsimp only at *
  have z10 := Bel.size hXL7
  replace hX := Bel.out hX hXL7 (fun g h1 h2 => by first | exact h2 | omega)
  replace hs := hs.keep hXL7 (fun g h1 h2 h3 => by omega)
  replace hb3 := hb3.keep hXL7 (fun h => by omega)
  replace hs9 := hs9.keep hXL7 (fun g h1 h2 h3 => by omega)
  refine W_seq (W_region ?_)
  refine Rg_run rfl (o_lss rfl rfl) ?_
  refine Rg_nil (W_seq ?_)
  refine W_cond rfl (fun hc1 => ?_) (fun hc1 => ?_)
  · skip
    replace hc1 := of_decide_eq_true hc1
    refine W_skip (W_seq (W_block (W_seq (W_region ?_))))
    refine Rg_run rfl (o_iaR Tryz.underlying128 Tryz.sizeOf131 hs9 rfl rfl (by first | omega | (unfold I64; omega) | (simp; done) | (simp; omega) | (simp at *; omega))) ?_
    refine Rg_run rfl (o_ldRS Tryz.isAgg131 Tryz.sizeOf131 hs9 rfl (getE ez (by omega))) ?_
    refine Rg_alst rfl rfl Tryz.zeroValue131 rfl Tryz.sizeOf131 (fun _ => rfl) rfl rfl ?_
    intro b7 w11 x12 hge7 hb7
    have hlt7 := hb7.lt
    change Box _ _ _ (encE _) at hb7
    have z13 := Bel.size x12
    replace hX := Bel.ex hX x12
    replace hXL7 := Bel.ex hXL7 x12
    replace hs := hs.ext x12
    replace hb3 := hb3.ext x12
    replace hown := hown.ext x12
    refine Rg_nil (W_seq (W_region ?_))
    refine Rg_run rfl (o_loadS Tryz.isAgg36 Tryz.sizeOf36 rfl hb3.at rfl) ?_
    refine Rg_run rfl (o_fa Tryz.underlying131 rfl Tryz.sizeOf3 rfl) ?_
    refine Rg_run rfl (o_load1 Tryz.isAgg3 rfl (hb7.at.get 0 rfl)) ?_
    refine Rg_enter rfl (o_call2 Tryz.call46 rfl rfl) (Ok.mono (bhas_ok _ ⟨_, _, _⟩ _ hs _ (by have := hm.ve _ (gm (z := ez) (show k < m.length by omega)); unfold Ve at this; unfold I64; omega)) ?_)
    rintro _ w14 ⟨rfl, x15⟩
    have z16 := Bel.size x15
    replace hX := Bel.ex hX x15
    replace hXL7 := Bel.ex hXL7 x15
    replace hown := hown.ext x15
    replace hb7 := hb7.ext x15
    refine Rg_nil ?_
    refine W_cond rfl (fun hc2 => ?_) (fun hc2 => ?_)
    · skip
      refine W_region ?_
      refine Rg_run rfl (o_moveh (v := t) rfl) ?_
      refine Rg_run rfl (o_fa Tryz.underlying131 rfl Tryz.sizeOf75 rfl) ?_
      refine Rg_run rfl (o_loadS Tryz.isAgg75 Tryz.sizeOf75 rfl (hb7.at.sub 1 3) rfl) ?_
      refine Rg_bs (vs := [.agg _]) ([(m.getD k ez).p]) rfl encP_ok el_perm rfl rfl ⟨rfl, trivial⟩ rfl rfl rfl rfl ?_
      intro a22 w17 x18 hown22
      have z19 := Bel.size x18
      replace hX := Bel.ex hX x18
      replace hXL7 := Bel.ex hXL7 x18
      replace hown := hown.ext x18
      replace hown22 := hown22.mono (D' := fun g => w4.heap.size ≤ g) (fun g h1 h2 => by omega)
      refine Rg_app rfl encP_ok el_perm rfl rfl hown (hown22.slA encP_ok) rfl (by have := allG_len (m.take k) s.x; rw [List.length_take] at this; simp; omega) (fun g h => by omega) ?_
      intro v23 w20 x21 hown
      have z22 := Bel.size x21
      replace hX := Bel.out hX x21 (fun g h1 h2 => by first | exact h2 | omega)
      replace hXL7 := Bel.out hXL7 x21 (fun g h1 h2 => by first | exact h2 | omega)
      refine Rg_run rfl (o_assignh (v := v23) rfl) ?_
      refine Rg_nil (W_region ?_)
      refine Rg_run rfl (o_add rfl rfl (by first | omega | (unfold I64; omega) | (simp; done) | (simp; omega) | (simp at *; omega))) ?_
      refine Rg_run rfl (o_moveh (v := .int _ _) rfl) ?_
      refine Rg_nil ?_
      refine ⟨(k + 1, v23), ⟨?_, ?_, trivial⟩, ?_, ⟨?_, hXL7, ?_⟩, ?_⟩
      · first | rfl | (go_num) | (exact congrArg _ (by omega))
      · first | rfl | (go_num) | (exact congrArg _ (by omega))
      · repeat (first | exact off_refl _ _ | exact off_mix | refine off_put rfl ?_ | refine off_putN ?_ | refine off_setL rfl ?_ | refine off_mix' rfl ?_)
      · show k + 1 ≤ m.length; omega
      · show Own _ _ _ _ _ _ (allG (m.take (k + 1)) s.x)
        rw [allG_yes (by omega) hc2]; exact hown
      · show m.length - (k + 1) < m.length - k; omega
    refine W_skip (W_region ?_)
    refine Rg_run rfl (o_add rfl rfl (by first | omega | (unfold I64; omega) | (simp; done) | (simp; omega) | (simp at *; omega))) ?_
    refine Rg_run rfl (o_moveh (v := .int _ _) rfl) ?_
    refine Rg_nil ?_
    refine ⟨(k + 1, t), ⟨?_, ?_, trivial⟩, ?_, ⟨?_, hXL7, ?_⟩, ?_⟩
    · first | rfl | (go_num) | (exact congrArg _ (by omega))
    · first | rfl | (go_num) | (exact congrArg _ (by omega))
    · repeat (first | exact off_refl _ _ | exact off_mix | refine off_put rfl ?_ | refine off_putN ?_ | refine off_setL rfl ?_ | refine off_mix' rfl ?_)
    · show k + 1 ≤ m.length; omega
    · show Own _ _ _ _ _ _ (allG (m.take (k + 1)) s.x)
      rw [allG_no (by omega) hc2]; exact hown
    · show m.length - (k + 1) < m.length - k; omega
  replace hc1 := of_decide_eq_false hc1
  refine W_exit (exAt_hit (W_seq (W_region ?_)))
  rw [List.take_of_length_le (by omega)] at hown
  refine Rg_run rfl (o_moveh (v := t) rfl) ?_
  refine Rg_enter rfl (o_call1 Tryz.call71 rfl) (Ok.mono (pnormal_ok _ _ _ (hown.trd encP_ok) (by have := allG_len m s.x; omega) (allG_ok hm)) ?_)
  rintro v26 w23 ⟨hown26, x24⟩
  have z25 := Bel.size x24
  replace hX := Bel.ex hX x24
  replace hown26 := hown26.mono (D' := fun g => w4.heap.size ≤ g) (fun g h1 h2 => by omega)
  refine Rg_run rfl (o_assignh (v := v26) rfl) ?_
  refine Rg_nil (W_ret ?_)
  refine ⟨_, res_tmp rfl rfl, ?_⟩
  exact ⟨hown26.mono (fun g h1 h2 => ⟨by omega, h1⟩), hX⟩

end Go.Proofs.YtncmjgmlnnenhaaGreatDoor
