/- Walks, printed by program: each theorem says what a function of the translation returns. -/
import Derived.Test.YtndlnfdaeipifaaGreatDoorWawk13
namespace Go.Proofs.YtndlnfdaeipifaaGreatDoor
open Go Go.Lx Go.RowKit
set_option maxRecDepth 100000
set_option linter.unusedVariables false
set_option linter.unusedSimpArgs false
set_option linter.unnecessarySimpa false
theorem ggrant_nil (r : Int) (x : Perm) (w : World) : Ok Tryz.prog 30 #[.pointer none, .int .i64 r, .agg (encP x).toArray] w fun v w' => v = .tuple #[.pointer none, .int .i64 1] ∧ Ext False w w' := by
  refine Ok_of_W 54 Tryz.func30 rfl rfl rfl ?_
  have hX : Ext False w w := Bel.refl _ _
  refine W_seq ?_
  refine W_region ?_
  refine Rg_newB rfl (o_box (v := .agg _) rfl) ?_
  intro b5 w1 x2 hge5 hb5
  change Box _ _ _ (encP _) at hb5
  replace hX := Bel.ex hX x2
  refine Rg_run rfl o_assignc ?_
  refine Rg_run rfl o_assignc ?_
  refine Rg_nil ?_
  refine W_seq ?_
  refine W_seq ?_
  refine W_region ?_
  refine Rg_run rfl (o_moveh (v := .pointer _) rfl) ?_
  refine Rg_run rfl (o_peq Tryz.underlying25 rfl rfl) ?_
  refine Rg_run rfl (o_moveh (v := .bool _) rfl) ?_
  refine Rg_off 2 14 rfl rfl rfl rfl rfl ?_
  refine Rg_off 2 14 rfl rfl rfl rfl rfl ?_
  refine Rg_off 2 14 rfl rfl rfl rfl rfl ?_
  refine Rg_run rfl (o_pickT (v := .bool _) rfl rfl) ?_
  refine Rg_nil ?_
  refine W_cond_true rfl ?_
  refine W_seq ?_
  refine W_region ?_
  refine Rg_run rfl o_assignc ?_
  refine Rg_run rfl o_assignc ?_
  refine Rg_nil ?_
  refine W_ret ?_
  refine ⟨_, res_tmp2 rfl rfl rfl, ?_⟩
  exact ⟨rfl, hX⟩

theorem gdrop_nil (r : Int) (x : Perm) (w : World) : Ok Tryz.prog 38 #[.pointer none, .int .i64 r, .agg (encP x).toArray] w fun v w' => v = .tuple #[.pointer none, .int .i64 1] ∧ Ext False w w' := by
  refine Ok_of_W 37 Tryz.func38 rfl rfl rfl ?_
  have hX : Ext False w w := Bel.refl _ _
  refine W_seq ?_
  refine W_region ?_
  refine Rg_newB rfl (o_box (v := .agg _) rfl) ?_
  intro b5 w1 x2 hge5 hb5
  change Box _ _ _ (encP _) at hb5
  replace hX := Bel.ex hX x2
  refine Rg_run rfl o_assignc ?_
  refine Rg_run rfl o_assignc ?_
  refine Rg_nil ?_
  refine W_seq ?_
  refine W_seq ?_
  refine W_region ?_
  refine Rg_run rfl (o_moveh (v := .pointer _) rfl) ?_
  refine Rg_run rfl (o_peq Tryz.underlying25 rfl rfl) ?_
  refine Rg_run rfl (o_moveh (v := .bool _) rfl) ?_
  refine Rg_off 2 11 rfl rfl rfl rfl rfl ?_
  refine Rg_off 2 11 rfl rfl rfl rfl rfl ?_
  refine Rg_off 2 11 rfl rfl rfl rfl rfl ?_
  refine Rg_run rfl (o_pickT (v := .bool _) rfl rfl) ?_
  refine Rg_nil ?_
  refine W_cond_true rfl ?_
  refine W_seq ?_
  refine W_region ?_
  refine Rg_run rfl o_assignc ?_
  refine Rg_run rfl o_assignc ?_
  refine Rg_nil ?_
  refine W_ret ?_
  refine ⟨_, res_tmp2 rfl rfl rfl, ?_⟩
  exact ⟨rfl, hX⟩

theorem gents_nil  (w : World) : Ok Tryz.prog 34 #[.pointer none] w fun v w' => v = .slice none 0 0 ∧ Ext False w w' := by
  refine Ok_of_W 10 Tryz.func34 rfl rfl rfl ?_
  have hX : Ext False w w := Bel.refl _ _
  refine W_seq ?_
  refine W_region ?_
  refine Rg_run rfl o_assignc ?_
  refine Rg_nil ?_
  refine W_seq ?_
  refine W_seq ?_
  refine W_region ?_
  refine Rg_run rfl (o_moveh (v := .pointer _) rfl) ?_
  refine Rg_run rfl (o_peq Tryz.underlying25 rfl rfl) ?_
  refine Rg_nil ?_
  refine W_cond_true rfl ?_
  refine W_seq ?_
  refine W_region ?_
  refine Rg_run rfl o_assignc ?_
  refine Rg_nil ?_
  refine W_ret ?_
  refine ⟨_, res_tmp rfl rfl, ?_⟩
  exact ⟨rfl, hX⟩

theorem glen_nil  (w : World) : Ok Tryz.prog 42 #[.pointer none] w fun v w' => v = .int .i64 0 ∧ Ext False w w' := by
  refine Ok_of_W 10 Tryz.func42 rfl rfl rfl ?_
  have hX : Ext False w w := Bel.refl _ _
  refine W_seq ?_
  refine W_region ?_
  refine Rg_run rfl o_assignc ?_
  refine Rg_nil ?_
  refine W_seq ?_
  refine W_seq ?_
  refine W_region ?_
  refine Rg_run rfl (o_moveh (v := .pointer _) rfl) ?_
  refine Rg_run rfl (o_peq Tryz.underlying25 rfl rfl) ?_
  refine Rg_nil ?_
  refine W_cond_true rfl ?_
  refine W_seq ?_
  refine W_region ?_
  refine Rg_run rfl o_assignc ?_
  refine Rg_nil ?_
  refine W_ret ?_
  refine ⟨_, res_tmp rfl rfl, ?_⟩
  exact ⟨rfl, hX⟩

theorem gbytes_nil  (w : World) : Ok Tryz.prog 32 #[.pointer none] w fun v w' => v = .slice none 0 0 ∧ Ext False w w' := by
  refine Ok_of_W 49 Tryz.func32 rfl rfl rfl ?_
  have hX : Ext False w w := Bel.refl _ _
  refine W_seq ?_
  refine W_region ?_
  refine Rg_run rfl o_assignc ?_
  refine Rg_nil ?_
  refine W_seq ?_
  refine W_seq ?_
  refine W_region ?_
  refine Rg_run rfl (o_moveh (v := .pointer _) rfl) ?_
  refine Rg_run rfl (o_peq Tryz.underlying25 rfl rfl) ?_
  refine Rg_nil ?_
  refine W_cond_true rfl ?_
  refine W_seq ?_
  refine W_region ?_
  refine Rg_run rfl o_assignc ?_
  refine Rg_nil ?_
  refine W_ret ?_
  refine ⟨_, res_tmp rfl rfl, ?_⟩
  exact ⟨rfl, hX⟩

theorem gof_nil (r : Int) (w : World) : Ok Tryz.prog 21 #[.pointer none, .int .i64 r] w fun v w' => v = .slice none 0 0 ∧ Ext False w w' := by
  refine Ok_of_W 26 Tryz.func21 rfl rfl rfl ?_
  have hX : Ext False w w := Bel.refl _ _
  refine W_seq ?_
  refine W_region ?_
  refine Rg_run rfl o_assignc ?_
  refine Rg_nil ?_
  refine W_seq ?_
  refine W_region ?_
  refine Rg_run rfl o_assignc ?_
  refine Rg_nil ?_
  refine W_seq ?_
  refine W_seq ?_
  refine W_region ?_
  refine Rg_run rfl (o_moveh (v := .pointer _) rfl) ?_
  refine Rg_enter rfl (o_call1 Tryz.call34 rfl) (Ok.mono (gents_nil _) ?_)
  rintro _ w1 ⟨rfl, x2⟩
  have z3 := Bel.size x2
  replace hX := Bel.ex hX x2
  refine Rg_run rfl (o_llen Tryz.underlying34 rfl) ?_
  refine Rg_run rfl o_movec ?_
  refine Rg_nil ?_
  refine W_block ?_
  refine W_for (α := Nat) [(5, 5), (7, 7), (11, 24)] (fun k => [(11, .int .i64 (k : Int)), (5, .slice none 0 0)]) (fun k w' => (True) ∧ Ext False w1 w') (fun k => 0) 0 ⟨rfl, rfl, trivial⟩ ⟨trivial, Bel.refl _ _⟩ ?_
  rintro k fb6 w5 ⟨_, hXL4⟩
  have z7 := Bel.size hXL4
  replace hX := Bel.ex hX hXL4
  refine W_seq ?_
  refine W_region ?_
  refine Rg_run rfl (o_lss rfl rfl) ?_
  refine Rg_nil ?_
  refine W_seq ?_
  refine W_cond_false (congrArg Value.bool (decide_eq_false (by omega))) ?_
  refine W_exit ?_
  refine exAt_hit ?_
  refine W_seq ?_
  refine W_region ?_
  refine Rg_run rfl (o_moveh (v := .slice _ _ _) rfl) ?_
  refine Rg_run rfl (o_assignh (v := .slice _ _ _) rfl) ?_
  refine Rg_nil ?_
  refine W_ret ?_
  refine ⟨_, res_tmp rfl rfl, ?_⟩
  exact ⟨rfl, hX⟩

theorem gred_nil  (w : World) : Ok Tryz.prog 16 #[.pointer none, .pointer none] w fun v w' => v = .slice none 0 0 ∧ Ext False w w' := by
  refine Ok_of_W 58 Tryz.func16 rfl rfl rfl ?_
  have hX : Ext False w w := Bel.refl _ _
  refine W_seq ?_
  refine W_region ?_
  refine Rg_run rfl o_assignc ?_
  refine Rg_nil ?_
  refine W_seq ?_
  refine W_region ?_
  refine Rg_run rfl o_assignc ?_
  refine Rg_nil ?_
  refine W_seq ?_
  refine W_seq ?_
  refine W_region ?_
  refine Rg_run rfl (o_moveh (v := .pointer _) rfl) ?_
  refine Rg_enter rfl (o_call1 Tryz.call34 rfl) (Ok.mono (gents_nil _) ?_)
  rintro _ w1 ⟨rfl, x2⟩
  have z3 := Bel.size x2
  replace hX := Bel.ex hX x2
  refine Rg_run rfl (o_llen Tryz.underlying34 rfl) ?_
  refine Rg_run rfl o_movec ?_
  refine Rg_nil ?_
  refine W_block ?_
  refine W_for (α := Nat) [(5, 5), (7, 7), (9, 9), (13, 56)] (fun k => [(13, .int .i64 (k : Int)), (5, .slice none 0 0)]) (fun k w' => (True) ∧ Ext False w1 w') (fun k => 0) 0 ⟨rfl, rfl, trivial⟩ ⟨trivial, Bel.refl _ _⟩ ?_
  rintro k fb6 w5 ⟨_, hXL4⟩
  have z7 := Bel.size hXL4
  replace hX := Bel.ex hX hXL4
  refine W_seq ?_
  refine W_region ?_
  refine Rg_run rfl (o_lss rfl rfl) ?_
  refine Rg_nil ?_
  refine W_seq ?_
  refine W_cond_false (congrArg Value.bool (decide_eq_false (by omega))) ?_
  refine W_exit ?_
  refine exAt_hit ?_
  refine W_seq ?_
  refine W_region ?_
  refine Rg_run rfl (o_moveh (v := .slice _ _ _) rfl) ?_
  refine Rg_run rfl (o_assignh (v := .slice _ _ _) rfl) ?_
  refine Rg_nil ?_
  refine W_ret ?_
  refine ⟨_, res_tmp rfl rfl, ?_⟩
  exact ⟨rfl, hX⟩

theorem geq_nn  (w : World) : Ok Tryz.prog 28 #[.pointer none, .pointer none] w fun v w' => v = .bool true ∧ Ext False w w' := by
  refine Ok_of_W 26 Tryz.func28 rfl rfl rfl ?_
  have hX : Ext False w w := Bel.refl _ _
  refine W_seq ?_
  refine W_region ?_
  refine Rg_run rfl o_assignc ?_
  refine Rg_nil ?_
  refine W_seq ?_
  refine W_seq ?_
  refine W_region ?_
  refine Rg_run rfl (o_moveh (v := .pointer _) rfl) ?_
  refine Rg_run rfl (o_peq Tryz.underlying25 rfl rfl) ?_
  refine Rg_run rfl (o_moveh (v := .bool _) rfl) ?_
  refine Rg_off 2 7 rfl rfl rfl rfl rfl ?_
  refine Rg_off 2 7 rfl rfl rfl rfl rfl ?_
  refine Rg_run rfl (o_pickT (v := .bool _) rfl rfl) ?_
  refine Rg_nil ?_
  refine W_cond_true rfl ?_
  refine W_seq ?_
  refine W_region ?_
  refine Rg_run rfl (o_moveh (v := .pointer _) rfl) ?_
  refine Rg_run rfl (o_peq Tryz.underlying25 rfl rfl) ?_
  refine Rg_run rfl (o_moveh (v := .bool _) rfl) ?_
  refine Rg_on 2 13 rfl rfl ?_
  refine Rg_run rfl (o_moveh (v := .pointer _) rfl) ?_
  refine Rg_on 2 13 rfl rfl ?_
  refine Rg_run rfl (o_peq Tryz.underlying25 rfl rfl) ?_
  refine Rg_run rfl (o_pickT (v := .bool _) rfl rfl) ?_
  refine Rg_run rfl (o_assignh (v := .bool _) rfl) ?_
  refine Rg_nil ?_
  refine W_ret ?_
  refine ⟨_, res_tmp rfl rfl, ?_⟩
  exact ⟨rfl, hX⟩

theorem geq_nt (b : Nat) (w : World) : Ok Tryz.prog 28 #[.pointer none, .pointer (some ⟨b, 0, none⟩)] w fun v w' => v = .bool false ∧ Ext False w w' := by
  refine Ok_of_W 26 Tryz.func28 rfl rfl rfl ?_
  have hX : Ext False w w := Bel.refl _ _
  refine W_seq ?_
  refine W_region ?_
  refine Rg_run rfl o_assignc ?_
  refine Rg_nil ?_
  refine W_seq ?_
  refine W_seq ?_
  refine W_region ?_
  refine Rg_run rfl (o_moveh (v := .pointer _) rfl) ?_
  refine Rg_run rfl (o_peq Tryz.underlying25 rfl rfl) ?_
  refine Rg_run rfl (o_moveh (v := .bool _) rfl) ?_
  refine Rg_off 2 7 rfl rfl rfl rfl rfl ?_
  refine Rg_off 2 7 rfl rfl rfl rfl rfl ?_
  refine Rg_run rfl (o_pickT (v := .bool _) rfl rfl) ?_
  refine Rg_nil ?_
  refine W_cond_true rfl ?_
  refine W_seq ?_
  refine W_region ?_
  refine Rg_run rfl (o_moveh (v := .pointer _) rfl) ?_
  refine Rg_run rfl (o_peq Tryz.underlying25 rfl rfl) ?_
  refine Rg_run rfl (o_moveh (v := .bool _) rfl) ?_
  refine Rg_on 2 13 rfl rfl ?_
  refine Rg_run rfl (o_moveh (v := .pointer _) rfl) ?_
  refine Rg_on 2 13 rfl rfl ?_
  refine Rg_run rfl (o_peq Tryz.underlying25 rfl rfl) ?_
  refine Rg_run rfl (o_pickT (v := .bool _) rfl rfl) ?_
  refine Rg_run rfl (o_assignh (v := .bool _) rfl) ?_
  refine Rg_nil ?_
  refine W_ret ?_
  refine ⟨_, res_tmp rfl rfl, ?_⟩
  exact ⟨rfl, hX⟩

theorem geq_tn (b : Nat) (w : World) : Ok Tryz.prog 28 #[.pointer (some ⟨b, 0, none⟩), .pointer none] w fun v w' => v = .bool false ∧ Ext False w w' := by
  refine Ok_of_W 26 Tryz.func28 rfl rfl rfl ?_
  have hX : Ext False w w := Bel.refl _ _
  refine W_seq ?_
  refine W_region ?_
  refine Rg_run rfl o_assignc ?_
  refine Rg_nil ?_
  refine W_seq ?_
  refine W_seq ?_
  refine W_region ?_
  refine Rg_run rfl (o_moveh (v := .pointer _) rfl) ?_
  refine Rg_run rfl (o_peq Tryz.underlying25 rfl rfl) ?_
  refine Rg_run rfl (o_moveh (v := .bool _) rfl) ?_
  refine Rg_on 2 7 rfl rfl ?_
  refine Rg_run rfl (o_moveh (v := .pointer _) rfl) ?_
  refine Rg_on 2 7 rfl rfl ?_
  refine Rg_run rfl (o_peq Tryz.underlying25 rfl rfl) ?_
  refine Rg_run rfl (o_pickF (v := .bool _) rfl rfl) ?_
  refine Rg_nil ?_
  refine W_cond_true rfl ?_
  refine W_seq ?_
  refine W_region ?_
  refine Rg_run rfl (o_moveh (v := .pointer _) rfl) ?_
  refine Rg_run rfl (o_peq Tryz.underlying25 rfl rfl) ?_
  refine Rg_run rfl (o_moveh (v := .bool _) rfl) ?_
  refine Rg_off 2 13 rfl rfl rfl rfl rfl ?_
  refine Rg_off 2 13 rfl rfl rfl rfl rfl ?_
  refine Rg_run rfl (o_pickF (v := .bool _) rfl rfl) ?_
  refine Rg_run rfl (o_assignh (v := .bool _) rfl) ?_
  refine Rg_nil ?_
  refine W_ret ?_
  refine ⟨_, res_tmp rfl rfl, ?_⟩
  exact ⟨rfl, hX⟩

theorem gall_nil (s : SV) (w : World) : Ok Tryz.prog 35 #[.pointer none, .agg (encSV s).toArray] w fun v w' => ∃ a c, v = .slice a 0 c ∧ Ext False w w' := by
  refine Ok_of_W 27 Tryz.func35 rfl rfl rfl ?_
  have hX : Ext False w w := Bel.refl _ _
  refine W_seq ?_
  refine W_region ?_
  refine Rg_newB rfl (o_box (v := .agg _) rfl) ?_
  intro b3 w1 x2 hge3 hb3
  have hlt3 := hb3.lt
  change Box _ _ _ (encSV _) at hb3
  have z3 := Bel.size x2
  replace hX := Bel.ex hX x2
  refine Rg_run rfl o_assignc ?_
  refine Rg_nil ?_
  refine W_seq ?_
  refine W_region ?_
  refine Rg_run rfl o_assignc ?_
  refine Rg_nil ?_
  refine W_seq ?_
  refine W_seq ?_
  refine W_region ?_
  refine Rg_run rfl (o_moveh (v := .pointer _) rfl) ?_
  refine Rg_enter rfl (o_call1 Tryz.call34 rfl) (Ok.mono (gents_nil _) ?_)
  rintro _ w4 ⟨rfl, x5⟩
  have z6 := Bel.size x5
  replace hX := Bel.ex hX x5
  refine Rg_run rfl (o_llen Tryz.underlying34 rfl) ?_
  refine Rg_run rfl o_movec ?_
  refine Rg_nil ?_
  refine W_block ?_
  refine W_for (α := Nat) [(5, 5), (7, 7), (11, 24)] (fun k => [(11, .int .i64 (k : Int)), (5, .slice none 0 0)]) (fun k w' => (True) ∧ Ext False w4 w') (fun k => 0) 0 ⟨rfl, rfl, trivial⟩ ⟨trivial, Bel.refl _ _⟩ ?_
  rintro k fb9 w8 ⟨_, hXL7⟩
  have z10 := Bel.size hXL7
  replace hX := Bel.ex hX hXL7
  refine W_seq ?_
  refine W_region ?_
  refine Rg_run rfl (o_lss rfl rfl) ?_
  refine Rg_nil ?_
  refine W_seq ?_
  refine W_cond_false (congrArg Value.bool (decide_eq_false (by omega))) ?_
  refine W_exit ?_
  refine exAt_hit ?_
  refine W_seq ?_
  refine W_region ?_
  refine Rg_run rfl (o_moveh (v := .slice _ _ _) rfl) ?_
  refine Rg_enter rfl (o_call1 Tryz.call75 rfl) (Ok.mono (pnormal_ok _ _ [] Rd.none (by simp) (by simp)) ?_)
  rintro v26 w11 ⟨hown26, x12⟩
  have z13 := Bel.size x12
  replace hX := Bel.ex hX x12
  replace hown26 := hown26.mono (D' := fun g => w.heap.size ≤ g) (fun g h1 h2 => by omega)
  refine Rg_run rfl (o_assignh (v := v26) rfl) ?_
  refine Rg_nil ?_
  refine W_ret ?_
  refine ⟨_, res_tmp rfl rfl, ?_⟩
  obtain ⟨a26, c26, hv26, _⟩ := hown26.sl encP_ok
  exact ⟨a26, c26, hv26, hX⟩

theorem gcov_nil (a s : Str) (w : World) : Ok Tryz.prog 24 #[.pointer none, str a, str s] w fun v w' => v = .agg (encSV ⟨none, 0, 0⟩).toArray ∧ Ext False w w' := by
  refine Ok_of_W 29 Tryz.func24 rfl rfl rfl ?_
  have hX : Ext False w w := Bel.refl _ _
  refine W_seq ?_
  refine W_region ?_
  refine Rg_newB rfl (o_alloc Tryz.zeroValue58) ?_
  intro b6 w1 x2 hge6 hb6
  have hlt6 := hb6.lt
  change Box _ _ _ ([.slice _ _ _]) at hb6
  have z3 := Bel.size x2
  replace hX := Bel.ex hX x2
  refine Rg_nil ?_
  refine W_seq ?_
  refine W_region ?_
  refine Rg_run rfl (o_build (cells := encSV ⟨none, 0, 0⟩) (vs := []) rfl (by kernel_rfl)) ?_
  refine Rg_alst rfl rfl Tryz.zeroValue58 rfl Tryz.sizeOf58 (fun _ => rfl) rfl rfl ?_
  intro b7 w4 x5 hge7 hb7
  have hlt7 := hb7.lt
  change Box _ _ _ (encSV _) at hb7
  have z6 := Bel.size x5
  replace hX := Bel.ex hX x5
  replace hb6 := hb6.ext x5
  refine Rg_nil ?_
  refine W_seq ?_
  refine W_seq ?_
  refine W_region ?_
  refine Rg_run rfl (o_moveh (v := .pointer _) rfl) ?_
  refine Rg_enter rfl (o_call1 Tryz.call34 rfl) (Ok.mono (gents_nil _) ?_)
  rintro _ w7 ⟨rfl, x8⟩
  have z9 := Bel.size x8
  replace hX := Bel.ex hX x8
  replace hb6 := hb6.ext x8
  replace hb7 := hb7.ext x8
  refine Rg_run rfl (o_llen Tryz.underlying34 rfl) ?_
  refine Rg_run rfl o_movec ?_
  refine Rg_nil ?_
  refine W_block ?_
  refine W_for (α := Nat) [(9, 9), (14, 27)] (fun k => [(14, .int .i64 (k : Int))]) (fun k w' => (True) ∧ Ext False w7 w') (fun k => 0) 0 ⟨rfl, trivial⟩ ⟨trivial, Bel.refl _ _⟩ ?_
  rintro k fb12 w11 ⟨_, hXL10⟩
  have z13 := Bel.size hXL10
  replace hX := Bel.ex hX hXL10
  replace hb6 := hb6.ext hXL10
  replace hb7 := hb7.ext hXL10
  refine W_seq ?_
  refine W_region ?_
  refine Rg_run rfl (o_lss rfl rfl) ?_
  refine Rg_nil ?_
  refine W_seq ?_
  refine W_cond_false (congrArg Value.bool (decide_eq_false (by omega))) ?_
  refine W_exit ?_
  refine exAt_hit ?_
  refine W_seq ?_
  refine W_region ?_
  refine Rg_run rfl (o_loadS Tryz.isAgg58 Tryz.sizeOf58 rfl hb7.at rfl) ?_
  refine Rg_storeW (v := .agg _) rfl Tryz.sizeOf58 rfl rfl hb6 rfl rfl rfl ?_
  intro w14 c15 hb6
  change Box _ _ _ (encSV _) at hb6
  have z16 := Bel.size c15
  replace hX := Bel.out hX c15 (fun g h1 h2 => by first | exact h2 | omega)
  refine Rg_nil ?_
  refine W_ret ?_
  refine ⟨_, res_1 (v := .agg _) rfl (rv_cellS Tryz.isAgg58 Tryz.sizeOf58 rfl hb6.at rfl), ?_⟩
  exact ⟨rfl, hX⟩

theorem ghas_nil (r : SV) (Gs : Nat → Prop) (a s : Str) (w : World) (hr : Sl encU 1 Gs w r.a r.c (wl r.x)) : Ok Tryz.prog 27 #[.pointer none, .agg (encSV r).toArray, str a, str s] w fun v w' => v = .bool false ∧ Ext False w w' := by
  replace hr := hr.mono (F' := fun g => Gs g ∧ g < w.heap.size) (fun g h1 h2 => ⟨h2, h1⟩)
  refine Ok_of_W 15 Tryz.func27 rfl rfl rfl ?_
  have hX : Ext False w w := Bel.refl _ _
  refine W_seq ?_
  refine W_region ?_
  refine Rg_newB rfl (o_box (v := .agg _) rfl) ?_
  intro b5 w1 x2 hge5 hb5
  change Box _ _ _ (encSV _) at hb5
  replace hX := Bel.ex hX x2
  replace hr := hr.ext x2
  refine Rg_run rfl o_assignc ?_
  refine Rg_nil ?_
  refine W_seq ?_
  apply W_draw (β := False) [peq _, peq _, peq _, peq _, peq _, peq _, peq _] 7 mixed (by kernel_rfl) rfl ⟨peq_stable _, peq_stable _, peq_stable _, peq_stable _, peq_stable _, peq_stable _, peq_stable _, trivial⟩ ?ob1 ?fin1
  case ob1 =>
    refine OblL_cons (fun w3 x4 => ?_) ?_
    · skip
      refine bindP_nil ?_
      exact OpS_v rfl (o_moveh (v := .pointer _) rfl)
    refine OblL_cons (fun w5 x6 => ?_) ?_
    · skip
      refine bindP_nil ?_
      exact OpS_v rfl (o_moveh (v := str _) rfl)
    refine OblL_cons (fun w7 x8 => ?_) ?_
    · skip
      refine bindP_nil ?_
      exact OpS_v rfl (o_moveh (v := str _) rfl)
    refine OblL_cons (fun w9 x10 => ?_) ?_
    · skip
      refine bindP_eq ?_
      refine bindP_eq ?_
      refine bindP_eq ?_
      refine bindP_nil ?_
      exact OpS_call rfl (o_call3 Tryz.call24 rfl rfl rfl) (gcov_nil _ _ _)
    refine OblL_cons (fun w11 x12 => ?_) ?_
    · skip
      have hb5 := hb5.ext x12
      refine bindP_nil ?_
      exact OpS_v rfl (o_loadS Tryz.isAgg58 Tryz.sizeOf58 rfl hb5.at rfl)
    refine OblL_cons (fun w13 x14 => ?_) ?_
    · skip
      have hr := hr.ext x14
      refine bindP_eq ?_
      refine bindP_eq ?_
      refine bindP_eq ?_
      refine bindP_nil ?_
      exact OpS_call rfl (o_call2 Tryz.call62 rfl rfl) (bmeets_ok _ ⟨none, 0, 0⟩ (fun _ => True) Sl.none r _ hr)
    refine OblL_cons (fun w15 x16 => ?_) ?_
    · skip
      refine bindP_eq ?_
      refine bindP_eq ?_
      refine bindP_eq ?_
      refine bindP_eq ?_
      refine bindP_eq ?_
      refine bindP_eq ?_
      refine bindP_eq ?_
      refine bindP_eq ?_
      refine bindP_nil ?_
      exact OpS_v rfl (o_assignh (v := .bool _) rfl)
    exact OblL_nil
  case fin1 =>
    intro w17 x18
    replace hX := Bel.ex hX x18
    replace hr := hr.ext x18
    replace hb5 := hb5.ext x18
    refine bindP_eq ?_
    refine bindP_eq ?_
    refine bindP_eq ?_
    refine bindP_eq ?_
    refine bindP_eq ?_
    refine bindP_eq ?_
    refine bindP_eq ?_
    refine bindP_nil ?_
    refine Rg_nil ?_
    refine W_ret ?_
    refine ⟨_, res_tmp rfl rfl, ?_⟩
    refine ⟨congrArg Value.bool ?_, hX⟩
    all_goals (simp)

theorem law_GrantNil (w : World) (hT : Tb w) (v0 : Value) (l : List GOp) (hs : Rd encGo 5 (Lt w.heap.size) w v0 l) (dl : ∀ z ∈ l, Sl encB 1 (Lt w.heap.size) w z.p.a z.p.c z.p.names) (x : GOp) (hx : Sl encB 1 (Lt w.heap.size) w x.p.a x.p.c x.p.names) : Ok Tryz.prog 10 #[v0, .agg (encGo x).toArray] w fun v w' => v = .bool true ∧ Ext False w w' := by
  obtain ⟨a, c, rfl, hs⟩ := hs
  have hlen := hs.len
  have hTl := hT.lt
  refine Ok_of_W 119 Tryz.func10 rfl rfl rfl ?_
  have hX : Ext False w w := Bel.refl _ _
  refine W_seq ?_
  refine W_region ?_
  refine Rg_newB rfl (o_box (v := .agg _) rfl) ?_
  intro b3 w1 x2 hge3 hb3
  have hlt3 := hb3.lt
  change Box _ _ _ (encGo _) at hb3
  have z3 := Bel.size x2
  replace hX := Bel.ex hX x2
  replace hT := hT.ext x2
  replace hs := hs.ext x2
  replace dl := (fun z hz => (dl z hz).ext x2)
  replace hx := hx.ext x2
  refine Rg_run rfl o_assignc ?_
  refine Rg_nil ?_
  refine W_seq ?_
  refine W_seq ?_
  refine W_region ?_
  refine Rg_enter rfl (o_call0 Tryz.call12) (Ok.mono (awake_ok _ hT) ?_)
  rintro _ w4 ⟨rfl, x5⟩
  have z6 := Bel.size x5
  replace hX := Bel.ex hX x5
  replace hT := hT.ext x5
  replace hs := hs.ext x5
  replace dl := (fun z hz => (dl z hz).ext x5)
  replace hx := hx.ext x5
  replace hb3 := hb3.ext x5
  refine Rg_run rfl (o_not rfl) ?_
  refine Rg_nil ?_
  refine W_cond_false rfl ?_
  refine W_skip ?_
  refine W_seq ?_
  refine W_region ?_
  refine Rg_run rfl (o_moveh (v := .slice _ _ _) rfl) ?_
  refine Rg_enter rfl (o_call1 Tryz.call13 rfl) (Ok.mono (lplay13_ok _ _ l hs.trd (fun z hz => (dl z hz).top)) ?_)
  rintro _ w7 ⟨⟨p19, q19, m19, rfl, hm19, hbk19, hrq19⟩, x8⟩
  have z9 := Bel.size x8
  replace hX := Bel.ex hX x8
  replace hT := hT.ext x8
  replace hs := hs.ext x8
  replace dl := (fun z hz => (dl z hz).ext x8)
  replace hx := hx.ext x8
  replace hb3 := hb3.ext x8
  refine Rg_run rfl (o_moveh (v := .tuple _) rfl) ?_
  refine Rg_run rfl (o_extract rfl rfl) ?_
  refine Rg_run rfl (o_extract rfl rfl) ?_
  refine Rg_run rfl (o_assignh (v := .pointer (some ⟨p19, 0, none⟩)) rfl) ?_
  refine Rg_run rfl (o_assignh (v := q19) rfl) ?_
  refine Rg_nil ?_
  refine W_seq ?_
  refine W_seq ?_
  refine W_region ?_
  obtain ⟨am19, cm19, hme19, hms19⟩ := hrq19
  subst hme19
  have hlm19 := hm19.len
  refine Rg_run rfl (o_moveh (v := .pointer (some ⟨p19, 0, none⟩)) rfl) ?_
  refine Rg_run rfl (o_peq Tryz.underlying25 rfl rfl) ?_
  refine Rg_nil ?_
  refine W_cond_false rfl ?_
  refine W_skip ?_
  refine W_seq ?_
  refine W_seq ?_
  refine W_region ?_
  refine Rg_run rfl (o_moveh (v := .pointer (some ⟨p19, 0, none⟩)) rfl) ?_
  refine Rg_enter rfl (o_call1 Tryz.call34 rfl) (Ok.mono (gents_ok _ _ _ hbk19.is hm19) ?_)
  rintro v25 w10 ⟨hown25, x11⟩
  have z12 := Bel.size x11
  replace hX := Bel.ex hX x11
  replace hT := hT.ext x11
  replace hx := hx.ext x11
  replace hb3 := hb3.ext x11
  replace hbk19 := hbk19.ext x11
  replace hms19 := hms19.ext x11
  obtain ⟨a25, c25, hv25, hs25⟩ := hown25.sl encE_ok; subst hv25
  refine Rg_run rfl (o_llen Tryz.underlying34 rfl) ?_
  refine Rg_run rfl o_movec ?_
  refine Rg_nil ?_
  refine W_block ?_
  refine W_for (α := Nat) [(7, 7), (27, 35)] (fun k => [(27, .int .i64 (k : Int))]) (fun k w' => (k ≤ m19.length) ∧ Bel False (fun g => w10.heap.size ≤ g) w10 w') (fun k => m19.length - k) 0 ⟨rfl, trivial⟩ ⟨Nat.zero_le _, Bel.refl _ _⟩ ?_
  rintro k fb15 w14 ⟨hk, hXL13⟩
  have z16 := Bel.size hXL13
  replace hX := Bel.out hX hXL13 (fun g h1 h2 => by first | exact h2 | omega)
  replace hT := hT.keep hXL13 (fun h => by omega)
  replace hx := hx.keep hXL13 (fun g h1 h2 h3 => by omega)
  replace hb3 := hb3.keep hXL13 (fun h => by omega)
  replace hbk19 := hbk19.keep hXL13 (fun g h1 h2 h3 => by omega)
  replace hms19 := hms19.keep hXL13 (fun g h1 h2 h3 => by omega)
  replace hs25 := hs25.keep hXL13 (fun g h1 h2 h3 => by omega)
  refine W_seq ?_
  refine W_region ?_
  refine Rg_run rfl (o_lss rfl rfl) ?_
  refine Rg_nil ?_
  refine W_seq ?_
  refine W_cond rfl (fun hc3 => ?_) (fun hc3 => ?_)
  · skip
    replace hc3 := of_decide_eq_true hc3
    refine W_skip ?_
    refine W_seq ?_
    refine W_block ?_
    refine W_seq ?_
    refine W_region ?_
    refine Rg_run rfl (o_moveh (v := .int _ _) rfl) ?_
    refine Rg_run rfl (o_assignh (v := .int _ _) rfl) ?_
    refine Rg_nil ?_
    refine W_region ?_
    refine Rg_run rfl (o_moveh (v := .pointer (some ⟨p19, 0, none⟩)) rfl) ?_
    refine Rg_enter rfl (o_call1 Tryz.call34 rfl) (Ok.mono (gents_ok _ _ _ hbk19.is hm19) ?_)
    rintro v31 w17 ⟨hown31, x18⟩
    have z19 := Bel.size x18
    replace hX := Bel.ex hX x18
    replace hXL13 := Bel.ex hXL13 x18
    obtain ⟨a31, c31, hv31, -⟩ := hown31.sl encE_ok
    subst hv31
    refine Rg_run rfl (o_moveh (v := .int _ _) rfl) ?_
    refine Rg_run rfl (o_iaO (i := k) Tryz.underlying34 Tryz.sizeOf76 hown31 rfl rfl (by omega)) ?_
    refine Rg_run rfl (o_faE Tryz.underlying76 rfl Tryz.sizeOf3 (hown31.slA encE_ok) rfl (show m19[k]? = some (m19.getD k ez) from getE ez (by omega))) ?_
    refine Rg_elstF (i := k) (j := 0) (⟨9, (m19.getD k ez).p⟩) ((m19.getD k ez)) rfl encE_ok Tryz.sizeOf3 rfl rfl rfl rfl hown31 (show m19[k]? = some (m19.getD k ez) from getE ez (by omega)) rfl (by decide) ?_
    intro w20 x21 hown31
    have z22 := Bel.size x21
    replace hX := Bel.out hX x21 (fun g h1 h2 => by first | exact h2 | omega)
    replace hXL13 := Bel.out hXL13 x21 (fun g h1 h2 => by first | exact h2 | omega)
    refine Rg_nil ?_
    refine W_region ?_
    refine Rg_run rfl (o_add rfl rfl (by first | omega | (unfold I64; omega) | (simp; done) | (simp; omega) | (simp at *; omega))) ?_
    refine Rg_run rfl (o_moveh (v := .int _ _) rfl) ?_
    refine Rg_nil ?_
    refine ⟨k + 1, ⟨?_, trivial⟩, ?_, ⟨?_, hXL13⟩, ?_⟩
    · first | rfl | (go_num) | (exact congrArg _ (by omega))
    · repeat (first | exact off_refl _ _ | exact off_mix | refine off_put rfl ?_ | refine off_putN ?_ | refine off_setL rfl ?_ | refine off_mix' rfl ?_)
    · show k + 1 ≤ m19.length; omega
    · omega
  · skip
    replace hc3 := of_decide_eq_false hc3
    refine W_exit ?_
    refine exAt_hit ?_
    refine W_seq ?_
    refine W_region ?_
    refine Rg_run rfl (o_fa Tryz.underlying68 rfl Tryz.sizeOf51 rfl) ?_
    refine Rg_run rfl (o_loadS Tryz.isAgg51 Tryz.sizeOf51 rfl (hb3.at.sub 2 3) rfl) ?_
    refine Rg_enter rfl (o_call1 Tryz.call22 rfl) (Ok.mono (make_ok _ x.p hx.top) ?_)
    rintro _ w23 ⟨rfl, x24⟩
    have z25 := Bel.size x24
    replace hX := Bel.ex hX x24
    replace hT := hT.ext x24
    replace hx := hx.ext x24
    replace hb3 := hb3.ext x24
    replace hbk19 := hbk19.ext x24
    replace hms19 := hms19.ext x24
    replace hs25 := hs25.ext x24
    refine Rg_run rfl (o_moveh (v := .tuple _) rfl) ?_
    refine Rg_run rfl (o_extract rfl rfl) ?_
    refine Rg_run rfl (o_extract rfl rfl) ?_
    refine Rg_newB rfl (o_alloc Tryz.zeroValue52) ?_
    intro b8 w26 x27 hge8 hb8
    have hlt8 := hb8.lt
    change Box _ _ _ ([str _, str _, .bool _]) at hb8
    have z28 := Bel.size x27
    replace hX := Bel.ex hX x27
    replace hT := hT.ext x27
    replace hx := hx.ext x27
    replace hb3 := hb3.ext x27
    replace hbk19 := hbk19.ext x27
    replace hms19 := hms19.ext x27
    replace hs25 := hs25.ext x27
    refine Rg_newB rfl (o_alloc Tryz.zeroValue41) ?_
    intro b9 w29 x30 hge9 hb9
    have hlt9 := hb9.lt
    change Box _ _ _ ([str _, str _, .bool _]) at hb9
    have z31 := Bel.size x30
    replace hX := Bel.ex hX x30
    replace hT := hT.ext x30
    replace hx := hx.ext x30
    replace hb3 := hb3.ext x30
    replace hbk19 := hbk19.ext x30
    replace hms19 := hms19.ext x30
    replace hs25 := hs25.ext x30
    replace hb8 := hb8.ext x30
    refine Rg_storeW (v := .agg _) rfl Tryz.sizeOf52 rfl rfl hb8 rfl rfl rfl ?_
    intro w32 c33 hb8
    change Box _ _ _ (encP _) at hb8
    have z34 := Bel.size c33
    replace hX := Bel.out hX c33 (fun g h1 h2 => by first | exact h2 | omega)
    replace hT := hT.keep c33 (fun h => by omega)
    replace hx := hx.keep c33 (fun g h1 h2 h3 => by omega)
    replace hb3 := hb3.keep c33 (fun h => by omega)
    replace hbk19 := hbk19.keep c33 (fun g h1 h2 h3 => by omega)
    replace hms19 := hms19.keep c33 (fun g h1 h2 h3 => by omega)
    replace hs25 := hs25.keep c33 (fun g h1 h2 h3 => by omega)
    replace hb9 := hb9.keep c33 (fun h => by omega)
    refine Rg_storeW (v := .agg _) rfl Tryz.sizeOf41 rfl rfl hb9 rfl rfl rfl ?_
    intro w35 c36 hb9
    change Box _ _ _ (encP _) at hb9
    have z37 := Bel.size c36
    replace hX := Bel.out hX c36 (fun g h1 h2 => by first | exact h2 | omega)
    replace hT := hT.keep c36 (fun h => by omega)
    replace hx := hx.keep c36 (fun g h1 h2 h3 => by omega)
    replace hb3 := hb3.keep c36 (fun h => by omega)
    replace hbk19 := hbk19.keep c36 (fun g h1 h2 h3 => by omega)
    replace hms19 := hms19.keep c36 (fun g h1 h2 h3 => by omega)
    replace hs25 := hs25.keep c36 (fun g h1 h2 h3 => by omega)
    replace hb8 := hb8.keep c36 (fun h => by omega)
    refine Rg_nil ?_
    refine W_seq ?_
    refine W_region ?_
    refine Rg_run rfl o_assignc ?_
    refine Rg_nil ?_
    refine W_seq ?_
    refine W_region ?_
    refine Rg_run rfl (o_moveh (v := .pointer _) rfl) ?_
    refine Rg_run rfl (o_loadS Tryz.isAgg52 Tryz.sizeOf52 rfl hb8.at rfl) ?_
    refine Rg_enter rfl (o_call3 Tryz.call30 rfl rfl rfl) (Ok.mono (ggrant_nil 1 x.p.perm _) ?_)
    rintro _ w38 ⟨rfl, x39⟩
    have z40 := Bel.size x39
    replace hX := Bel.ex hX x39
    replace hT := hT.ext x39
    replace hx := hx.ext x39
    replace hb3 := hb3.ext x39
    replace hbk19 := hbk19.ext x39
    replace hms19 := hms19.ext x39
    replace hs25 := hs25.ext x39
    replace hb8 := hb8.ext x39
    replace hb9 := hb9.ext x39
    refine Rg_run rfl (o_moveh (v := .tuple _) rfl) ?_
    refine Rg_run rfl (o_extract rfl rfl) ?_
    refine Rg_run rfl (o_extract rfl rfl) ?_
    refine Rg_run rfl (o_assignh (v := .pointer _) rfl) ?_
    refine Rg_run rfl (o_assignh (v := .int _ _) rfl) ?_
    refine Rg_nil ?_
    refine W_seq ?_
    refine W_region ?_
    refine Rg_run rfl (o_moveh (v := .pointer _) rfl) ?_
    refine Rg_run rfl (o_loadS Tryz.isAgg52 Tryz.sizeOf52 rfl hb8.at rfl) ?_
    refine Rg_enter rfl (o_call3 Tryz.call38 rfl rfl rfl) (Ok.mono (gdrop_nil 1 x.p.perm _) ?_)
    rintro _ w41 ⟨rfl, x42⟩
    have z43 := Bel.size x42
    replace hX := Bel.ex hX x42
    replace hT := hT.ext x42
    replace hx := hx.ext x42
    replace hb3 := hb3.ext x42
    replace hbk19 := hbk19.ext x42
    replace hms19 := hms19.ext x42
    replace hs25 := hs25.ext x42
    replace hb8 := hb8.ext x42
    replace hb9 := hb9.ext x42
    refine Rg_run rfl (o_moveh (v := .tuple _) rfl) ?_
    refine Rg_run rfl (o_extract rfl rfl) ?_
    refine Rg_run rfl (o_extract rfl rfl) ?_
    refine Rg_run rfl (o_assignh (v := .pointer _) rfl) ?_
    refine Rg_run rfl (o_assignh (v := .int _ _) rfl) ?_
    refine Rg_nil ?_
    refine W_seq ?_
    refine W_region ?_
    refine Rg_run rfl (o_moveh (v := .pointer (some ⟨p19, 0, none⟩)) rfl) ?_
    refine Rg_run rfl (o_moveh (v := .slice _ _ _) rfl) ?_
    refine Rg_enter rfl (o_call2 Tryz.call18 rfl rfl) (Ok.mono (lis13_ok _ _ _ hbk19.is hm19 _ hms19.trd) ?_)
    rintro _ w44 ⟨rfl, x45⟩
    have z46 := Bel.size x45
    replace hX := Bel.ex hX x45
    replace hT := hT.ext x45
    replace hx := hx.ext x45
    replace hb3 := hb3.ext x45
    replace hbk19 := hbk19.ext x45
    replace hms19 := hms19.ext x45
    replace hs25 := hs25.ext x45
    replace hb8 := hb8.ext x45
    replace hb9 := hb9.ext x45
    refine Rg_run rfl (o_moveh (v := .bool _) rfl) ?_
    refine Rg_on 3 57 rfl rfl ?_
    refine Rg_run rfl (o_moveh (v := .int _ _) rfl) ?_
    refine Rg_on 3 57 rfl rfl ?_
    refine Rg_run rfl (o_eql rfl rfl) ?_
    refine Rg_run rfl (o_pickT (v := .bool _) rfl rfl) ?_
    refine Rg_run rfl (o_moveh (v := .bool _) rfl) ?_
    refine Rg_on 7 61 rfl (congrArg Value.bool (by decide)) ?_
    refine Rg_run rfl (o_moveh (v := .int _ _) rfl) ?_
    refine Rg_on 7 61 rfl (congrArg Value.bool (by decide)) ?_
    refine Rg_run rfl (o_eql rfl rfl) ?_
    refine Rg_run rfl (o_pickT (v := .bool _) (congrArg Value.bool (by decide)) rfl) ?_
    refine Rg_run rfl (o_moveh (v := .bool _) rfl) ?_
    refine Rg_on 11 65 rfl (congrArg Value.bool (by decide)) ?_
    refine Rg_run rfl (o_moveh (v := .pointer _) rfl) ?_
    refine Rg_on 11 65 rfl (congrArg Value.bool (by decide)) ?_
    refine Rg_enter rfl (o_call2 Tryz.call21 rfl rfl) (Ok.mono (gof_nil 1 _) ?_)
    rintro _ w47 ⟨rfl, x48⟩
    have z49 := Bel.size x48
    replace hX := Bel.ex hX x48
    replace hT := hT.ext x48
    replace hx := hx.ext x48
    replace hb3 := hb3.ext x48
    replace hbk19 := hbk19.ext x48
    replace hms19 := hms19.ext x48
    replace hs25 := hs25.ext x48
    replace hb8 := hb8.ext x48
    replace hb9 := hb9.ext x48
    refine Rg_on 11 65 rfl (congrArg Value.bool (by decide)) ?_
    refine Rg_run rfl (o_llen Tryz.underlying46 rfl) ?_
    refine Rg_on 11 65 rfl (congrArg Value.bool (by decide)) ?_
    refine Rg_run rfl (o_moveh (v := .pointer _) rfl) ?_
    refine Rg_on 11 65 rfl (congrArg Value.bool (by decide)) ?_
    refine Rg_enter rfl (o_call1 Tryz.call34 rfl) (Ok.mono (gents_nil _) ?_)
    rintro _ w50 ⟨rfl, x51⟩
    have z52 := Bel.size x51
    replace hX := Bel.ex hX x51
    replace hT := hT.ext x51
    replace hx := hx.ext x51
    replace hb3 := hb3.ext x51
    replace hbk19 := hbk19.ext x51
    replace hms19 := hms19.ext x51
    replace hs25 := hs25.ext x51
    replace hb8 := hb8.ext x51
    replace hb9 := hb9.ext x51
    refine Rg_on 11 65 rfl (congrArg Value.bool (by decide)) ?_
    refine Rg_run rfl (o_llen Tryz.underlying34 rfl) ?_
    refine Rg_on 11 65 rfl (congrArg Value.bool (by decide)) ?_
    refine Rg_run rfl (o_add rfl rfl (by first | omega | (unfold I64; omega) | (simp; done) | (simp; omega) | (simp at *; omega))) ?_
    refine Rg_on 11 65 rfl (congrArg Value.bool (by decide)) ?_
    refine Rg_run rfl (o_moveh (v := .pointer _) rfl) ?_
    refine Rg_on 11 65 rfl (congrArg Value.bool (by decide)) ?_
    refine Rg_bs (vs := [.int _ _]) (([1] : List Int)) rfl encJ_ok el_int rfl rfl ⟨rfl, trivial⟩ rfl rfl rfl rfl ?_
    intro a74 w53 x54 hown74
    have z55 := Bel.size x54
    replace hX := Bel.ex hX x54
    replace hT := hT.ext x54
    replace hx := hx.ext x54
    replace hb3 := hb3.ext x54
    replace hbk19 := hbk19.ext x54
    replace hms19 := hms19.ext x54
    replace hs25 := hs25.ext x54
    replace hb8 := hb8.ext x54
    replace hb9 := hb9.ext x54
    replace hown74 := hown74.mono (D' := fun g => w10.heap.size ≤ g) (fun g h1 h2 => by omega)
    refine Rg_on 11 65 rfl (congrArg Value.bool (by decide)) ?_
    refine Rg_enter rfl (o_call1 Tryz.call41 rfl) (Ok.mono (bof_ok _ _ [1] (hown74.trd encJ_ok) (by simp) (by decide)) ?_)
    rintro _ w56 ⟨a75, c75, rfl, hq75, x57⟩
    have z58 := Bel.size x57
    replace hX := Bel.ex hX x57
    replace hT := hT.ext x57
    replace hx := hx.ext x57
    replace hb3 := hb3.ext x57
    replace hbk19 := hbk19.ext x57
    replace hms19 := hms19.ext x57
    replace hs25 := hs25.ext x57
    replace hb8 := hb8.ext x57
    replace hb9 := hb9.ext x57
    replace hown74 := hown74.ext x57
    refine Rg_on 11 65 rfl (congrArg Value.bool (by decide)) ?_
    refine Rg_enter rfl (o_call2 Tryz.call35 rfl rfl) (Ok.mono (gall_nil ⟨a75, c75, ofW [1]⟩ _) ?_)
    rintro _ w59 ⟨a76, c76, rfl, x60⟩
    have z61 := Bel.size x60
    replace hX := Bel.ex hX x60
    replace hT := hT.ext x60
    replace hx := hx.ext x60
    replace hb3 := hb3.ext x60
    replace hbk19 := hbk19.ext x60
    replace hms19 := hms19.ext x60
    replace hs25 := hs25.ext x60
    replace hb8 := hb8.ext x60
    replace hb9 := hb9.ext x60
    replace hown74 := hown74.ext x60
    replace hq75 := hq75.ext x60
    refine Rg_on 11 65 rfl (congrArg Value.bool (by decide)) ?_
    refine Rg_run rfl (o_llen Tryz.underlying46 rfl) ?_
    refine Rg_on 11 65 rfl (congrArg Value.bool (by decide)) ?_
    refine Rg_run rfl (o_add rfl rfl (by first | omega | (unfold I64; omega) | (simp; done) | (simp; omega) | (simp at *; omega))) ?_
    refine Rg_on 11 65 rfl (congrArg Value.bool (by decide)) ?_
    refine Rg_run rfl (o_moveh (v := .pointer _) rfl) ?_
    refine Rg_on 11 65 rfl (congrArg Value.bool (by decide)) ?_
    refine Rg_enter rfl (o_call2 Tryz.call16 rfl rfl) (Ok.mono (gred_nil _) ?_)
    rintro _ w62 ⟨rfl, x63⟩
    have z64 := Bel.size x63
    replace hX := Bel.ex hX x63
    replace hT := hT.ext x63
    replace hx := hx.ext x63
    replace hb3 := hb3.ext x63
    replace hbk19 := hbk19.ext x63
    replace hms19 := hms19.ext x63
    replace hs25 := hs25.ext x63
    replace hb8 := hb8.ext x63
    replace hb9 := hb9.ext x63
    replace hown74 := hown74.ext x63
    replace hq75 := hq75.ext x63
    refine Rg_on 11 65 rfl (congrArg Value.bool (by decide)) ?_
    refine Rg_run rfl (o_llen Tryz.underlying34 rfl) ?_
    refine Rg_on 11 65 rfl (congrArg Value.bool (by decide)) ?_
    refine Rg_run rfl (o_add rfl rfl (by first | omega | (unfold I64; omega) | (simp; done) | (simp; omega) | (simp at *; omega))) ?_
    refine Rg_on 11 65 rfl (congrArg Value.bool (by decide)) ?_
    refine Rg_run rfl (o_moveh (v := .pointer _) rfl) ?_
    refine Rg_on 11 65 rfl (congrArg Value.bool (by decide)) ?_
    refine Rg_enter rfl (o_call1 Tryz.call32 rfl) (Ok.mono (gbytes_nil _) ?_)
    rintro _ w65 ⟨rfl, x66⟩
    have z67 := Bel.size x66
    replace hX := Bel.ex hX x66
    replace hT := hT.ext x66
    replace hx := hx.ext x66
    replace hb3 := hb3.ext x66
    replace hbk19 := hbk19.ext x66
    replace hms19 := hms19.ext x66
    replace hs25 := hs25.ext x66
    replace hb8 := hb8.ext x66
    replace hb9 := hb9.ext x66
    replace hown74 := hown74.ext x66
    replace hq75 := hq75.ext x66
    refine Rg_on 11 65 rfl (congrArg Value.bool (by decide)) ?_
    refine Rg_run rfl (o_llen Tryz.underlying49 rfl) ?_
    refine Rg_on 11 65 rfl (congrArg Value.bool (by decide)) ?_
    refine Rg_run rfl (o_add rfl rfl (by first | omega | (unfold I64; omega) | (simp; done) | (simp; omega) | (simp at *; omega))) ?_
    refine Rg_on 11 65 rfl (congrArg Value.bool (by decide)) ?_
    refine Rg_run rfl (o_moveh (v := .pointer _) rfl) ?_
    refine Rg_on 11 65 rfl (congrArg Value.bool (by decide)) ?_
    refine Rg_enter rfl (o_call1 Tryz.call42 rfl) (Ok.mono (glen_nil _) ?_)
    rintro _ w68 ⟨rfl, x69⟩
    have z70 := Bel.size x69
    replace hX := Bel.ex hX x69
    replace hT := hT.ext x69
    replace hx := hx.ext x69
    replace hb3 := hb3.ext x69
    replace hbk19 := hbk19.ext x69
    replace hms19 := hms19.ext x69
    replace hs25 := hs25.ext x69
    replace hb8 := hb8.ext x69
    replace hb9 := hb9.ext x69
    replace hown74 := hown74.ext x69
    replace hq75 := hq75.ext x69
    refine Rg_on 11 65 rfl (congrArg Value.bool (by decide)) ?_
    refine Rg_run rfl (o_add rfl rfl (by first | omega | (unfold I64; omega) | (simp; done) | (simp; omega) | (simp at *; omega))) ?_
    refine Rg_on 11 65 rfl (congrArg Value.bool (by decide)) ?_
    refine Rg_run rfl (o_eql rfl rfl) ?_
    refine Rg_run rfl (o_pickT (v := .bool _) (congrArg Value.bool (by decide)) rfl) ?_
    refine Rg_run rfl (o_moveh (v := .bool _) rfl) ?_
    refine Rg_on 38 92 rfl (congrArg Value.bool (by decide)) ?_
    refine Rg_run rfl (o_moveh (v := .pointer _) rfl) ?_
    refine Rg_on 38 92 rfl (congrArg Value.bool (by decide)) ?_
    refine Rg_enter rfl (o_call3 Tryz.call24 rfl rfl rfl) (Ok.mono (gcov_nil _ _ _) ?_)
    rintro _ w71 ⟨rfl, x72⟩
    have z73 := Bel.size x72
    replace hX := Bel.ex hX x72
    replace hT := hT.ext x72
    replace hx := hx.ext x72
    replace hb3 := hb3.ext x72
    replace hbk19 := hbk19.ext x72
    replace hms19 := hms19.ext x72
    replace hs25 := hs25.ext x72
    replace hb8 := hb8.ext x72
    replace hb9 := hb9.ext x72
    replace hown74 := hown74.ext x72
    replace hq75 := hq75.ext x72
    refine Rg_on 38 92 rfl (congrArg Value.bool (by decide)) ?_
    refine Rg_enter rfl (o_call1 Tryz.call43 rfl) (Ok.mono (bempty_ok _ ⟨none, 0, 0⟩ (fun _ => True) Sl.none) ?_)
    rintro _ w74 ⟨rfl, x75⟩
    have z76 := Bel.size x75
    replace hX := Bel.ex hX x75
    replace hT := hT.ext x75
    replace hx := hx.ext x75
    replace hb3 := hb3.ext x75
    replace hbk19 := hbk19.ext x75
    replace hms19 := hms19.ext x75
    replace hs25 := hs25.ext x75
    replace hb8 := hb8.ext x75
    replace hb9 := hb9.ext x75
    replace hown74 := hown74.ext x75
    replace hq75 := hq75.ext x75
    refine Rg_run rfl (o_pickT (v := .bool _) (congrArg Value.bool (by decide)) rfl) ?_
    refine Rg_run rfl (o_moveh (v := .bool _) rfl) ?_
    refine Rg_on 43 97 rfl (congrArg Value.bool (by decide)) ?_
    refine Rg_run rfl (o_moveh (v := .pointer _) rfl) ?_
    refine Rg_on 43 97 rfl (congrArg Value.bool (by decide)) ?_
    refine Rg_bs (vs := [.int _ _]) (([1] : List Int)) rfl encJ_ok el_int rfl rfl ⟨rfl, trivial⟩ rfl rfl rfl rfl ?_
    intro a99 w77 x78 hown99
    have z79 := Bel.size x78
    replace hX := Bel.ex hX x78
    replace hT := hT.ext x78
    replace hx := hx.ext x78
    replace hb3 := hb3.ext x78
    replace hbk19 := hbk19.ext x78
    replace hms19 := hms19.ext x78
    replace hs25 := hs25.ext x78
    replace hb8 := hb8.ext x78
    replace hb9 := hb9.ext x78
    replace hown74 := hown74.ext x78
    replace hq75 := hq75.ext x78
    replace hown99 := hown99.mono (D' := fun g => w10.heap.size ≤ g) (fun g h1 h2 => by omega)
    refine Rg_on 43 97 rfl (congrArg Value.bool (by decide)) ?_
    refine Rg_enter rfl (o_call1 Tryz.call41 rfl) (Ok.mono (bof_ok _ _ [1] (hown99.trd encJ_ok) (by simp) (by decide)) ?_)
    rintro _ w80 ⟨a100, c100, rfl, hq100, x81⟩
    have z82 := Bel.size x81
    replace hX := Bel.ex hX x81
    replace hT := hT.ext x81
    replace hx := hx.ext x81
    replace hb3 := hb3.ext x81
    replace hbk19 := hbk19.ext x81
    replace hms19 := hms19.ext x81
    replace hs25 := hs25.ext x81
    replace hb8 := hb8.ext x81
    replace hb9 := hb9.ext x81
    replace hown74 := hown74.ext x81
    replace hq75 := hq75.ext x81
    replace hown99 := hown99.ext x81
    refine Rg_on 43 97 rfl (congrArg Value.bool (by decide)) ?_
    refine Rg_enter rfl (o_call4 Tryz.call27 rfl rfl rfl rfl) (Ok.mono (ghas_nil ⟨a100, c100, ofW [1]⟩ _ _ _ _ hq100) ?_)
    rintro _ w83 ⟨rfl, x84⟩
    have z85 := Bel.size x84
    replace hX := Bel.ex hX x84
    replace hT := hT.ext x84
    replace hx := hx.ext x84
    replace hb3 := hb3.ext x84
    replace hbk19 := hbk19.ext x84
    replace hms19 := hms19.ext x84
    replace hs25 := hs25.ext x84
    replace hb8 := hb8.ext x84
    replace hb9 := hb9.ext x84
    replace hown74 := hown74.ext x84
    replace hq75 := hq75.ext x84
    replace hown99 := hown99.ext x84
    replace hq100 := hq100.ext x84
    refine Rg_on 43 97 rfl (congrArg Value.bool (by decide)) ?_
    refine Rg_run rfl (o_not rfl) ?_
    refine Rg_run rfl (o_pickT (v := .bool _) (congrArg Value.bool (by decide)) rfl) ?_
    refine Rg_run rfl (o_moveh (v := .bool _) rfl) ?_
    refine Rg_on 50 104 rfl (congrArg Value.bool (by decide)) ?_
    refine Rg_run rfl (o_moveh (v := .pointer _) rfl) ?_
    refine Rg_on 50 104 rfl (congrArg Value.bool (by decide)) ?_
    refine Rg_enter rfl (o_call2 Tryz.call28 rfl rfl) (Ok.mono (geq_nn _) ?_)
    rintro _ w86 ⟨rfl, x87⟩
    have z88 := Bel.size x87
    replace hX := Bel.ex hX x87
    replace hT := hT.ext x87
    replace hx := hx.ext x87
    replace hb3 := hb3.ext x87
    replace hbk19 := hbk19.ext x87
    replace hms19 := hms19.ext x87
    replace hs25 := hs25.ext x87
    replace hb8 := hb8.ext x87
    replace hb9 := hb9.ext x87
    replace hown74 := hown74.ext x87
    replace hq75 := hq75.ext x87
    replace hown99 := hown99.ext x87
    replace hq100 := hq100.ext x87
    refine Rg_run rfl (o_pickT (v := .bool _) (congrArg Value.bool (by decide)) rfl) ?_
    refine Rg_run rfl (o_moveh (v := .bool _) rfl) ?_
    refine Rg_on 54 108 rfl (congrArg Value.bool (by decide)) ?_
    refine Rg_run rfl (o_moveh (v := .pointer _) rfl) ?_
    refine Rg_on 54 108 rfl (congrArg Value.bool (by decide)) ?_
    refine Rg_run rfl (o_moveh (v := .pointer (some ⟨p19, 0, none⟩)) rfl) ?_
    refine Rg_on 54 108 rfl (congrArg Value.bool (by decide)) ?_
    refine Rg_enter rfl (o_call2 Tryz.call28 rfl rfl) (Ok.mono (geq_nt p19 _) ?_)
    rintro _ w89 ⟨rfl, x90⟩
    have z91 := Bel.size x90
    replace hX := Bel.ex hX x90
    replace hT := hT.ext x90
    replace hx := hx.ext x90
    replace hb3 := hb3.ext x90
    replace hbk19 := hbk19.ext x90
    replace hms19 := hms19.ext x90
    replace hs25 := hs25.ext x90
    replace hb8 := hb8.ext x90
    replace hb9 := hb9.ext x90
    replace hown74 := hown74.ext x90
    replace hq75 := hq75.ext x90
    replace hown99 := hown99.ext x90
    replace hq100 := hq100.ext x90
    refine Rg_on 54 108 rfl (congrArg Value.bool (by decide)) ?_
    refine Rg_run rfl (o_not rfl) ?_
    refine Rg_run rfl (o_pickT (v := .bool _) (congrArg Value.bool (by decide)) rfl) ?_
    refine Rg_run rfl (o_moveh (v := .bool _) rfl) ?_
    refine Rg_on 60 114 rfl (congrArg Value.bool (by decide)) ?_
    refine Rg_run rfl (o_moveh (v := .pointer (some ⟨p19, 0, none⟩)) rfl) ?_
    refine Rg_on 60 114 rfl (congrArg Value.bool (by decide)) ?_
    refine Rg_enter rfl (o_call2 Tryz.call28 rfl rfl) (Ok.mono (geq_tn p19 _) ?_)
    rintro _ w92 ⟨rfl, x93⟩
    have z94 := Bel.size x93
    replace hX := Bel.ex hX x93
    replace hT := hT.ext x93
    replace hx := hx.ext x93
    replace hb3 := hb3.ext x93
    replace hbk19 := hbk19.ext x93
    replace hms19 := hms19.ext x93
    replace hs25 := hs25.ext x93
    replace hb8 := hb8.ext x93
    replace hb9 := hb9.ext x93
    replace hown74 := hown74.ext x93
    replace hq75 := hq75.ext x93
    replace hown99 := hown99.ext x93
    replace hq100 := hq100.ext x93
    refine Rg_on 60 114 rfl (congrArg Value.bool (by decide)) ?_
    refine Rg_run rfl (o_not rfl) ?_
    refine Rg_run rfl (o_pickT (v := .bool _) (congrArg Value.bool (by decide)) rfl) ?_
    refine Rg_run rfl (o_assignh (v := .bool _) rfl) ?_
    refine Rg_nil ?_
    refine W_ret ?_
    refine ⟨_, res_tmp rfl rfl, ?_⟩
    refine ⟨congrArg Value.bool ?_, hX⟩
    all_goals (rfl)

end Go.Proofs.YtndlnfdaeipifaaGreatDoor
