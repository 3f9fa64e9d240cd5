/- Walks, printed by program: each theorem says what a function of the translation returns. -/
import Derived.Test.YtncmjgmlnnenhaaDoorWlaw22a
namespace Go.Proofs.YtncmjgmlnnenhaaDoor
open Go Go.Lx Go.RowKit
set_option maxRecDepth 100000
set_option linter.unusedVariables false
set_option linter.unusedSimpArgs false
set_option linter.unnecessarySimpa false
theorem sopen_nil (u : Int) (w : World) : Ok Tryd.prog 10 #[.pointer none, .int .i64 u] w fun v w' => v = .tuple #[.pointer none, .int .i64 0, .int .i64 1] ∧ Ext False w w' := by
  refine Ok_of_W 62 Tryd.func10 rfl rfl rfl ?_
  have hX : Ext False w w := Bel.refl _ _
  refine W_seq ?_
  refine W_region ?_
  refine Rg_run rfl o_assignc ?_
  refine Rg_run rfl o_assignc ?_
  refine Rg_run rfl o_assignc ?_
  refine Rg_nil ?_
  refine W_seq ?_
  refine W_seq ?_
  refine W_region ?_
  refine Rg_run rfl (o_moveh (v := .pointer _) rfl) ?_
  refine Rg_run rfl (o_peq Tryd.underlying24 rfl rfl) ?_
  refine Rg_run rfl (o_moveh (v := .bool _) rfl) ?_
  refine Rg_off 2 10 rfl rfl rfl rfl rfl ?_
  refine Rg_off 2 10 rfl rfl rfl rfl rfl ?_
  refine Rg_run rfl (o_pickT (v := .bool _) rfl rfl) ?_
  refine Rg_run rfl (o_moveh (v := .bool _) rfl) ?_
  refine Rg_off 6 14 rfl rfl rfl rfl rfl ?_
  refine Rg_off 6 14 rfl rfl rfl rfl rfl ?_
  refine Rg_run rfl (o_pickT (v := .bool _) rfl rfl) ?_
  refine Rg_nil ?_
  refine W_cond_true rfl ?_
  refine W_seq ?_
  refine W_region ?_
  refine Rg_run rfl o_assignc ?_
  refine Rg_run rfl o_assignc ?_
  refine Rg_run rfl o_assignc ?_
  refine Rg_nil ?_
  refine W_ret ?_
  refine ⟨_, res_T (vs := [.pointer _, .int _ _, .int _ _]) rfl ⟨rfl, rfl, rfl, trivial⟩ (by simp), ?_⟩
  exact ⟨rfl, hX⟩

theorem sclose_nil (n : Int) (w : World) : Ok Tryd.prog 11 #[.pointer none, .int .i64 n] w fun v w' => v = .tuple #[.pointer none, .int .i64 1] ∧ Ext False w w' := by
  refine Ok_of_W 29 Tryd.func11 rfl rfl rfl ?_
  have hX : Ext False w w := Bel.refl _ _
  refine W_seq ?_
  refine W_region ?_
  refine Rg_run rfl o_assignc ?_
  refine Rg_run rfl o_assignc ?_
  refine Rg_nil ?_
  refine W_seq ?_
  refine W_seq ?_
  refine W_region ?_
  refine Rg_run rfl (o_moveh (v := .pointer _) rfl) ?_
  refine Rg_run rfl (o_peq Tryd.underlying24 rfl rfl) ?_
  refine Rg_nil ?_
  refine W_cond_true rfl ?_
  refine W_seq ?_
  refine W_region ?_
  refine Rg_run rfl o_assignc ?_
  refine Rg_run rfl o_assignc ?_
  refine Rg_nil ?_
  refine W_ret ?_
  refine ⟨_, res_tmp2 rfl rfl rfl, ?_⟩
  exact ⟨rfl, hX⟩

theorem sact_nil (n r : Int) (w : World) : Ok Tryd.prog 29 #[.pointer none, .int .i64 n, .int .i64 r] w fun v w' => v = .tuple #[.pointer none, .int .i64 1] ∧ Ext False w w' := by
  refine Ok_of_W 46 Tryd.func29 rfl rfl rfl ?_
  have hX : Ext False w w := Bel.refl _ _
  refine W_seq ?_
  refine W_region ?_
  refine Rg_run rfl o_assignc ?_
  refine Rg_run rfl o_assignc ?_
  refine Rg_nil ?_
  refine W_seq ?_
  refine W_seq ?_
  refine W_region ?_
  refine Rg_run rfl (o_moveh (v := .pointer _) rfl) ?_
  refine Rg_run rfl (o_peq Tryd.underlying24 rfl rfl) ?_
  refine Rg_run rfl (o_moveh (v := .bool _) rfl) ?_
  refine Rg_off 2 13 rfl rfl rfl rfl rfl ?_
  refine Rg_off 2 13 rfl rfl rfl rfl rfl ?_
  refine Rg_off 2 13 rfl rfl rfl rfl rfl ?_
  refine Rg_run rfl (o_pickT (v := .bool _) rfl rfl) ?_
  refine Rg_nil ?_
  refine W_cond_true rfl ?_
  refine W_seq ?_
  refine W_region ?_
  refine Rg_run rfl o_assignc ?_
  refine Rg_run rfl o_assignc ?_
  refine Rg_nil ?_
  refine W_ret ?_
  refine ⟨_, res_tmp2 rfl rfl rfl, ?_⟩
  exact ⟨rfl, hX⟩

theorem sdeact_nil (n r : Int) (w : World) : Ok Tryd.prog 30 #[.pointer none, .int .i64 n, .int .i64 r] w fun v w' => v = .tuple #[.pointer none, .int .i64 1] ∧ Ext False w w' := by
  refine Ok_of_W 55 Tryd.func30 rfl rfl rfl ?_
  have hX : Ext False w w := Bel.refl _ _
  refine W_seq ?_
  refine W_region ?_
  refine Rg_run rfl o_assignc ?_
  refine Rg_run rfl o_assignc ?_
  refine Rg_nil ?_
  refine W_seq ?_
  refine W_seq ?_
  refine W_region ?_
  refine Rg_run rfl (o_moveh (v := .pointer _) rfl) ?_
  refine Rg_run rfl (o_peq Tryd.underlying24 rfl rfl) ?_
  refine Rg_run rfl (o_moveh (v := .bool _) rfl) ?_
  refine Rg_off 2 13 rfl rfl rfl rfl rfl ?_
  refine Rg_off 2 13 rfl rfl rfl rfl rfl ?_
  refine Rg_off 2 13 rfl rfl rfl rfl rfl ?_
  refine Rg_run rfl (o_pickT (v := .bool _) rfl rfl) ?_
  refine Rg_nil ?_
  refine W_cond_true rfl ?_
  refine W_seq ?_
  refine W_region ?_
  refine Rg_run rfl o_assignc ?_
  refine Rg_run rfl o_assignc ?_
  refine Rg_nil ?_
  refine W_ret ?_
  refine ⟨_, res_tmp2 rfl rfl rfl, ?_⟩
  exact ⟨rfl, hX⟩

theorem sget_nil (n : Int) (w : World) : Ok Tryd.prog 25 #[.pointer none, .int .i64 n] w fun v w' => v = .tuple #[.agg (encSe sez).toArray, .bool false] ∧ Ext False w w' := by
  refine Ok_of_W 27 Tryd.func25 rfl rfl rfl ?_
  have hX : Ext False w w := Bel.refl _ _
  refine W_seq ?_
  refine W_region ?_
  refine Rg_newB rfl (o_alloc Tryd.zeroValue55) ?_
  intro b4 w1 x2 hge4 hb4
  have hlt4 := hb4.lt
  change Box _ _ _ ([.int _ _, .int _ _, .slice _ _ _]) at hb4
  have z3 := Bel.size x2
  replace hX := Bel.ex hX x2
  refine Rg_run rfl o_assignc ?_
  refine Rg_nil ?_
  refine W_seq ?_
  refine W_seq ?_
  refine W_region ?_
  refine Rg_run rfl (o_moveh (v := .pointer _) rfl) ?_
  refine Rg_run rfl (o_peq Tryd.underlying24 rfl rfl) ?_
  refine Rg_nil ?_
  refine W_cond_true rfl ?_
  refine W_seq ?_
  refine W_region ?_
  refine Rg_run rfl (o_build (cells := encSe sez) (vs := []) rfl (by kernel_rfl)) ?_
  refine Rg_storeW (v := .agg _) rfl Tryd.sizeOf55 rfl rfl hb4 rfl rfl rfl ?_
  intro w4 c5 hb4
  change Box _ _ _ (encSe _) at hb4
  have z6 := Bel.size c5
  replace hX := Bel.out hX c5 (fun g h1 h2 => by first | exact h2 | omega)
  refine Rg_run rfl o_assignc ?_
  refine Rg_nil ?_
  refine W_ret ?_
  refine ⟨_, res_T (vs := [.agg _, .bool _]) rfl ⟨rv_cellS Tryd.isAgg55 Tryd.sizeOf55 rfl hb4.at rfl, rfl, trivial⟩ (by simp), ?_⟩
  exact ⟨rfl, hX⟩

theorem slist_nil  (w : World) : Ok Tryd.prog 21 #[.pointer none] w fun v w' => v = .slice none 0 0 ∧ Ext False w w' := by
  refine Ok_of_W 10 Tryd.func21 rfl rfl rfl ?_
  have hX : Ext False w w := Bel.refl _ _
  refine W_seq ?_
  refine W_region ?_
  refine Rg_run rfl o_assignc ?_
  refine Rg_nil ?_
  refine W_seq ?_
  refine W_seq ?_
  refine W_region ?_
  refine Rg_run rfl (o_moveh (v := .pointer _) rfl) ?_
  refine Rg_run rfl (o_peq Tryd.underlying24 rfl rfl) ?_
  refine Rg_nil ?_
  refine W_cond_true rfl ?_
  refine W_seq ?_
  refine W_region ?_
  refine Rg_run rfl o_assignc ?_
  refine Rg_nil ?_
  refine W_ret ?_
  refine ⟨_, res_tmp rfl rfl, ?_⟩
  exact ⟨rfl, hX⟩

theorem slen_nil  (w : World) : Ok Tryd.prog 12 #[.pointer none] w fun v w' => v = .int .i64 0 ∧ Ext False w w' := by
  refine Ok_of_W 6 Tryd.func12 rfl rfl rfl ?_
  have hX : Ext False w w := Bel.refl _ _
  refine W_seq ?_
  refine W_region ?_
  refine Rg_run rfl o_assignc ?_
  refine Rg_nil ?_
  refine W_seq ?_
  refine W_region ?_
  refine Rg_run rfl (o_moveh (v := .pointer _) rfl) ?_
  refine Rg_enter rfl (o_call1 Tryd.call21 rfl) (Ok.mono (slist_nil _) ?_)
  rintro _ w1 ⟨rfl, x2⟩
  replace hX := Bel.ex hX x2
  refine Rg_run rfl (o_llen Tryd.underlying52 rfl) ?_
  refine Rg_run rfl (o_assignh (v := .int _ _) rfl) ?_
  refine Rg_nil ?_
  refine W_ret ?_
  refine ⟨_, res_tmp rfl rfl, ?_⟩
  exact ⟨rfl, hX⟩

theorem sof_nil (u : Int) (w : World) : Ok Tryd.prog 28 #[.pointer none, .int .i64 u] w fun v w' => v = .slice none 0 0 ∧ Ext False w w' := by
  refine Ok_of_W 26 Tryd.func28 rfl rfl rfl ?_
  have hX : Ext False w w := Bel.refl _ _
  refine W_seq ?_
  refine W_region ?_
  refine Rg_run rfl o_assignc ?_
  refine Rg_nil ?_
  refine W_seq ?_
  refine W_region ?_
  refine Rg_run rfl o_assignc ?_
  refine Rg_nil ?_
  refine W_seq ?_
  refine W_seq ?_
  refine W_region ?_
  refine Rg_run rfl (o_moveh (v := .pointer _) rfl) ?_
  refine Rg_enter rfl (o_call1 Tryd.call21 rfl) (Ok.mono (slist_nil _) ?_)
  rintro _ w1 ⟨rfl, x2⟩
  have z3 := Bel.size x2
  replace hX := Bel.ex hX x2
  refine Rg_run rfl (o_llen Tryd.underlying52 rfl) ?_
  refine Rg_run rfl o_movec ?_
  refine Rg_nil ?_
  refine W_block ?_
  refine W_for (α := Nat) [(5, 5), (7, 7), (11, 24)] (fun k => [(11, .int .i64 (k : Int)), (5, .slice none 0 0)]) (fun k w' => (True) ∧ Ext False w1 w') (fun k => 0) 0 ⟨rfl, rfl, trivial⟩ ⟨trivial, Bel.refl _ _⟩ ?_
  rintro k fb6 w5 ⟨_, hXL4⟩
  have z7 := Bel.size hXL4
  replace hX := Bel.ex hX hXL4
  refine W_seq ?_
  refine W_region ?_
  refine Rg_run rfl (o_lss rfl rfl) ?_
  refine Rg_nil ?_
  refine W_seq ?_
  refine W_cond_false (congrArg Value.bool (decide_eq_false (by omega))) ?_
  refine W_exit ?_
  refine exAt_hit ?_
  refine W_seq ?_
  refine W_region ?_
  refine Rg_run rfl (o_moveh (v := .slice _ _ _) rfl) ?_
  refine Rg_run rfl (o_assignh (v := .slice _ _ _) rfl) ?_
  refine Rg_nil ?_
  refine W_ret ?_
  refine ⟨_, res_tmp rfl rfl, ?_⟩
  exact ⟨rfl, hX⟩

theorem sbytes_nil  (w : World) : Ok Tryd.prog 31 #[.pointer none] w fun v w' => v = .slice none 0 0 ∧ Ext False w w' := by
  refine Ok_of_W 43 Tryd.func31 rfl rfl rfl ?_
  have hX : Ext False w w := Bel.refl _ _
  refine W_seq ?_
  refine W_region ?_
  refine Rg_run rfl o_assignc ?_
  refine Rg_nil ?_
  refine W_seq ?_
  refine W_seq ?_
  refine W_region ?_
  refine Rg_run rfl (o_moveh (v := .pointer _) rfl) ?_
  refine Rg_run rfl (o_peq Tryd.underlying24 rfl rfl) ?_
  refine Rg_nil ?_
  refine W_cond_true rfl ?_
  refine W_seq ?_
  refine W_region ?_
  refine Rg_run rfl o_assignc ?_
  refine Rg_nil ?_
  refine W_ret ?_
  refine ⟨_, res_tmp rfl rfl, ?_⟩
  exact ⟨rfl, hX⟩

theorem seff_nil (n : Int) (s : SV) (p : Option Addr) (w : World) : Ok Tryd.prog 15 #[.pointer none, .int .i64 n, .agg (encSV s).toArray, .pointer p] w fun v w' => v = .agg (encSV ⟨none, 0, 0⟩).toArray ∧ Ext False w w' := by
  refine Ok_of_W 26 Tryd.func15 rfl rfl rfl ?_
  have hX : Ext False w w := Bel.refl _ _
  refine W_seq ?_
  refine W_region ?_
  refine Rg_newB rfl (o_box (v := .agg _) rfl) ?_
  intro b6 w1 x2 hge6 hb6
  have hlt6 := hb6.lt
  change Box _ _ _ (encSV _) at hb6
  have z3 := Bel.size x2
  replace hX := Bel.ex hX x2
  refine Rg_newB rfl (o_alloc Tryd.zeroValue44) ?_
  intro b8 w4 x5 hge8 hb8
  have hlt8 := hb8.lt
  change Box _ _ _ ([.slice _ _ _]) at hb8
  have z6 := Bel.size x5
  replace hX := Bel.ex hX x5
  replace hb6 := hb6.ext x5
  refine Rg_nil ?_
  refine W_seq ?_
  refine W_region ?_
  refine Rg_run rfl (o_moveh (v := .pointer _) rfl) ?_
  refine Rg_run rfl (o_moveh (v := .int _ _) rfl) ?_
  refine Rg_enter rfl (o_call2 Tryd.call25 rfl rfl) (Ok.mono (sget_nil _ _) ?_)
  rintro _ w7 ⟨rfl, x8⟩
  have z9 := Bel.size x8
  replace hX := Bel.ex hX x8
  replace hb6 := hb6.ext x8
  replace hb8 := hb8.ext x8
  refine Rg_run rfl (o_moveh (v := .tuple _) rfl) ?_
  refine Rg_run rfl (o_extract rfl rfl) ?_
  refine Rg_run rfl (o_extract rfl rfl) ?_
  refine Rg_alst rfl rfl Tryd.zeroValue55 rfl Tryd.sizeOf55 (fun _ => rfl) rfl rfl ?_
  intro b9 w10 x11 hge9 hb9
  have hlt9 := hb9.lt
  change Box _ _ _ (encSe _) at hb9
  have z12 := Bel.size x11
  replace hX := Bel.ex hX x11
  replace hb6 := hb6.ext x11
  replace hb8 := hb8.ext x11
  refine Rg_run rfl (o_assignh (v := .bool _) rfl) ?_
  refine Rg_nil ?_
  refine W_seq ?_
  refine W_seq ?_
  refine W_region ?_
  refine Rg_run rfl (o_moveh (v := .bool _) rfl) ?_
  refine Rg_run rfl (o_not rfl) ?_
  refine Rg_nil ?_
  refine W_cond_true rfl ?_
  refine W_seq ?_
  refine W_region ?_
  refine Rg_run rfl (o_build (cells := encSV ⟨none, 0, 0⟩) (vs := []) rfl (by kernel_rfl)) ?_
  refine Rg_storeW (v := .agg _) rfl Tryd.sizeOf44 rfl rfl hb8 rfl rfl rfl ?_
  intro w13 c14 hb8
  change Box _ _ _ (encSV _) at hb8
  have z15 := Bel.size c14
  replace hX := Bel.out hX c14 (fun g h1 h2 => by first | exact h2 | omega)
  replace hb6 := hb6.keep c14 (fun h => by omega)
  replace hb9 := hb9.keep c14 (fun h => by omega)
  refine Rg_nil ?_
  refine W_ret ?_
  refine ⟨_, res_1 (v := .agg _) rfl (rv_cellS Tryd.isAgg44 Tryd.sizeOf44 rfl hb8.at rfl), ?_⟩
  exact ⟨rfl, hX⟩

theorem seq_nn  (w : World) : Ok Tryd.prog 34 #[.pointer none, .pointer none] w fun v w' => v = .bool true ∧ Ext False w w' := by
  refine Ok_of_W 26 Tryd.func34 rfl rfl rfl ?_
  have hX : Ext False w w := Bel.refl _ _
  refine W_seq ?_
  refine W_region ?_
  refine Rg_run rfl o_assignc ?_
  refine Rg_nil ?_
  refine W_seq ?_
  refine W_seq ?_
  refine W_region ?_
  refine Rg_run rfl (o_moveh (v := .pointer _) rfl) ?_
  refine Rg_run rfl (o_peq Tryd.underlying24 rfl rfl) ?_
  refine Rg_run rfl (o_moveh (v := .bool _) rfl) ?_
  refine Rg_off 2 7 rfl rfl rfl rfl rfl ?_
  refine Rg_off 2 7 rfl rfl rfl rfl rfl ?_
  refine Rg_run rfl (o_pickT (v := .bool _) rfl rfl) ?_
  refine Rg_nil ?_
  refine W_cond_true rfl ?_
  refine W_seq ?_
  refine W_region ?_
  refine Rg_run rfl (o_moveh (v := .pointer _) rfl) ?_
  refine Rg_run rfl (o_peq Tryd.underlying24 rfl rfl) ?_
  refine Rg_run rfl (o_moveh (v := .bool _) rfl) ?_
  refine Rg_on 2 13 rfl rfl ?_
  refine Rg_run rfl (o_moveh (v := .pointer _) rfl) ?_
  refine Rg_on 2 13 rfl rfl ?_
  refine Rg_run rfl (o_peq Tryd.underlying24 rfl rfl) ?_
  refine Rg_run rfl (o_pickT (v := .bool _) rfl rfl) ?_
  refine Rg_run rfl (o_assignh (v := .bool _) rfl) ?_
  refine Rg_nil ?_
  refine W_ret ?_
  refine ⟨_, res_tmp rfl rfl, ?_⟩
  exact ⟨rfl, hX⟩

theorem seq_nt (b : Nat) (w : World) : Ok Tryd.prog 34 #[.pointer none, .pointer (some ⟨b, 0, none⟩)] w fun v w' => v = .bool false ∧ Ext False w w' := by
  refine Ok_of_W 26 Tryd.func34 rfl rfl rfl ?_
  have hX : Ext False w w := Bel.refl _ _
  refine W_seq ?_
  refine W_region ?_
  refine Rg_run rfl o_assignc ?_
  refine Rg_nil ?_
  refine W_seq ?_
  refine W_seq ?_
  refine W_region ?_
  refine Rg_run rfl (o_moveh (v := .pointer _) rfl) ?_
  refine Rg_run rfl (o_peq Tryd.underlying24 rfl rfl) ?_
  refine Rg_run rfl (o_moveh (v := .bool _) rfl) ?_
  refine Rg_off 2 7 rfl rfl rfl rfl rfl ?_
  refine Rg_off 2 7 rfl rfl rfl rfl rfl ?_
  refine Rg_run rfl (o_pickT (v := .bool _) rfl rfl) ?_
  refine Rg_nil ?_
  refine W_cond_true rfl ?_
  refine W_seq ?_
  refine W_region ?_
  refine Rg_run rfl (o_moveh (v := .pointer _) rfl) ?_
  refine Rg_run rfl (o_peq Tryd.underlying24 rfl rfl) ?_
  refine Rg_run rfl (o_moveh (v := .bool _) rfl) ?_
  refine Rg_on 2 13 rfl rfl ?_
  refine Rg_run rfl (o_moveh (v := .pointer _) rfl) ?_
  refine Rg_on 2 13 rfl rfl ?_
  refine Rg_run rfl (o_peq Tryd.underlying24 rfl rfl) ?_
  refine Rg_run rfl (o_pickT (v := .bool _) rfl rfl) ?_
  refine Rg_run rfl (o_assignh (v := .bool _) rfl) ?_
  refine Rg_nil ?_
  refine W_ret ?_
  refine ⟨_, res_tmp rfl rfl, ?_⟩
  exact ⟨rfl, hX⟩

theorem seq_tn (b : Nat) (w : World) : Ok Tryd.prog 34 #[.pointer (some ⟨b, 0, none⟩), .pointer none] w fun v w' => v = .bool false ∧ Ext False w w' := by
  refine Ok_of_W 26 Tryd.func34 rfl rfl rfl ?_
  have hX : Ext False w w := Bel.refl _ _
  refine W_seq ?_
  refine W_region ?_
  refine Rg_run rfl o_assignc ?_
  refine Rg_nil ?_
  refine W_seq ?_
  refine W_seq ?_
  refine W_region ?_
  refine Rg_run rfl (o_moveh (v := .pointer _) rfl) ?_
  refine Rg_run rfl (o_peq Tryd.underlying24 rfl rfl) ?_
  refine Rg_run rfl (o_moveh (v := .bool _) rfl) ?_
  refine Rg_on 2 7 rfl rfl ?_
  refine Rg_run rfl (o_moveh (v := .pointer _) rfl) ?_
  refine Rg_on 2 7 rfl rfl ?_
  refine Rg_run rfl (o_peq Tryd.underlying24 rfl rfl) ?_
  refine Rg_run rfl (o_pickF (v := .bool _) rfl rfl) ?_
  refine Rg_nil ?_
  refine W_cond_true rfl ?_
  refine W_seq ?_
  refine W_region ?_
  refine Rg_run rfl (o_moveh (v := .pointer _) rfl) ?_
  refine Rg_run rfl (o_peq Tryd.underlying24 rfl rfl) ?_
  refine Rg_run rfl (o_moveh (v := .bool _) rfl) ?_
  refine Rg_off 2 13 rfl rfl rfl rfl rfl ?_
  refine Rg_off 2 13 rfl rfl rfl rfl rfl ?_
  refine Rg_run rfl (o_pickF (v := .bool _) rfl rfl) ?_
  refine Rg_run rfl (o_assignh (v := .bool _) rfl) ?_
  refine Rg_nil ?_
  refine W_ret ?_
  refine ⟨_, res_tmp rfl rfl, ?_⟩
  exact ⟨rfl, hX⟩

theorem bbelow9_ok (w : World) : Ok Tryd.prog 32 #[.int .i64 9] w fun v w' => ∃ a c, v = .agg (encSV ⟨a, c, 511⟩).toArray ∧ Sl encU 1 (Fsh w w') w' a c (wl 511) ∧ Ext False w w' := by
  refine Ok_of_W 35 Tryd.func32 rfl rfl rfl ?_
  have hX : Ext False w w := Bel.refl _ _
  refine W_seq ?_
  refine W_region ?_
  refine Rg_newB rfl (o_alloc Tryd.zeroValue44) ?_
  intro b2 w1 x2 hge2 hb2
  have hlt2 := hb2.lt
  change Box _ _ _ ([.slice _ _ _]) at hb2
  have z3 := Bel.size x2
  replace hX := Bel.ex hX x2
  refine Rg_nil ?_
  refine W_seq ?_
  refine W_region ?_
  refine Rg_run rfl (o_moveh (v := .int _ _) rfl) ?_
  refine Rg_run rfl (o_maxI (a := 9) (b := 0) rfl rfl) ?_
  refine Rg_run rfl (o_min (a := 9) (b := 4096) rfl rfl) ?_
  refine Rg_run rfl (o_assignh (v := .int _ _) rfl) ?_
  refine Rg_nil ?_
  refine W_seq ?_
  refine W_region ?_
  obtain ⟨n0, hn0⟩ : ∃ n, n = w1.heap.size := ⟨_, rfl⟩
  refine Rg_run rfl (o_moveh (v := .int _ _) rfl) ?_
  refine Rg_run rfl (o_add rfl rfl (by first | omega | (unfold I64; omega) | (simp; done) | (simp; omega) | (simp at *; omega))) ?_
  refine Rg_run rfl (o_quoT (a := 72) (b := 64) rfl rfl (by decide) (by decide) (by unfold I64; decide)) ?_
  refine Rg_make (m := 1) (0 : W64) rfl encU_ok el_word rfl rfl rfl (by decide) ?_
  intro a11 w4 x5 hown11
  have z6 := Bel.size x5
  replace hX := Bel.ex hX x5
  replace hb2 := hb2.ext x5
  replace hown11 := hown11.mono (D' := fun g => n0 ≤ g) (fun g h1 h2 => by omega)
  refine Rg_run rfl (o_assignh (v := .slice _ _ _) rfl) ?_
  refine Rg_nil ?_
  refine W_seq ?_
  refine W_seq ?_
  refine W_region ?_
  refine Rg_run rfl (o_moveh (v := .slice _ _ _) rfl) ?_
  refine Rg_run rfl (o_llen Tryd.underlying42 rfl) ?_
  refine Rg_run rfl o_movec ?_
  refine Rg_nil ?_
  refine W_block ?_
  refine W_for (α := Nat) [(4, 4), (14, 20)] (fun k => [(14, .int .i64 (k : Int))]) (fun k w' => (k ≤ 1) ∧ Bel False (fun g => n0 ≤ g) w4 w' ∧ (Own encU 1 34 (fun g => n0 ≤ g) w' (.slice a11 1 1) [if k = 0 then 0#64 else 18446744073709551615#64])) (fun k => 1 - k) 0 ⟨rfl, trivial⟩ ⟨Nat.zero_le _, Bel.refl _ _, hown11⟩ ?_
  rintro k fb9 w8 ⟨hk, hXL7, hown11⟩
  have z10 := Bel.size hXL7
  replace hX := Bel.out hX hXL7 (fun g h1 h2 => by first | exact h2 | omega)
  replace hb2 := hb2.keep hXL7 (fun h => by omega)
  refine W_seq ?_
  refine W_region ?_
  refine Rg_run rfl (o_lss rfl rfl) ?_
  refine Rg_nil ?_
  refine W_seq ?_
  refine W_cond rfl (fun hc1 => ?_) (fun hc1 => ?_)
  · skip
    replace hc1 := of_decide_eq_true hc1
    have hk0 : k = 0 := by omega
    subst hk0
    refine W_skip ?_
    refine W_seq ?_
    refine W_block ?_
    refine W_seq ?_
    refine W_region ?_
    refine Rg_run rfl (o_moveh (v := .int _ _) rfl) ?_
    refine Rg_run rfl (o_assignh (v := .int _ _) rfl) ?_
    refine Rg_nil ?_
    refine W_region ?_
    refine Rg_run rfl (o_moveh (v := .slice _ _ _) rfl) ?_
    refine Rg_run rfl (o_moveh (v := .int _ _) rfl) ?_
    refine Rg_run rfl (o_iaO (i := 0) Tryd.underlying42 Tryd.sizeOf34 hown11 rfl rfl (by decide)) ?_
    refine Rg_elst (u := 18446744073709551615#64) rfl encU_ok Tryd.sizeOf34 rfl rfl rfl hown11 (by simp) ?_
    intro w11 x12 hown11
    have z13 := Bel.size x12
    replace hX := Bel.out hX x12 (fun g h1 h2 => by first | exact h2 | omega)
    replace hXL7 := Bel.out hXL7 x12 (fun g h1 h2 => by first | exact h2 | omega)
    replace hb2 := hb2.keep x12 (fun h => by omega)
    refine Rg_nil ?_
    refine W_region ?_
    refine Rg_run rfl (o_add rfl rfl (by first | omega | (unfold I64; omega) | (simp; done) | (simp; omega) | (simp at *; omega))) ?_
    refine Rg_run rfl (o_moveh (v := .int _ _) rfl) ?_
    refine Rg_nil ?_
    refine ⟨1, ⟨?_, trivial⟩, ?_, ⟨?_, hXL7, ?_⟩, ?_⟩
    · first | rfl | (go_num) | (exact congrArg _ (by omega))
    · repeat (first | exact off_refl _ _ | exact off_mix | refine off_put rfl ?_ | refine off_putN ?_ | refine off_setL rfl ?_ | refine off_mix' rfl ?_)
    · show 1 ≤ 1; omega
    · exact hown11
    · omega
  · skip
    replace hc1 := of_decide_eq_false hc1
    refine W_exit ?_
    refine exAt_hit ?_
    refine W_seq ?_
    refine W_seq ?_
    refine W_region ?_
    refine Rg_run rfl (o_moveh (v := .int _ _) rfl) ?_
    refine Rg_run rfl (o_remT (a := 9) (b := 64) rfl rfl (by decide) (by decide) (by unfold I64; decide)) ?_
    refine Rg_run rfl (o_gtr rfl rfl) ?_
    refine Rg_nil ?_
    refine W_cond_true rfl ?_
    refine W_region ?_
    refine Rg_run rfl (o_moveh (v := .slice _ _ _) rfl) ?_
    refine Rg_run rfl (o_moveh (v := .slice _ _ _) rfl) ?_
    refine Rg_run rfl (o_llen Tryd.underlying42 rfl) ?_
    refine Rg_run rfl (o_sub rfl rfl (by first | omega | (unfold I64; omega) | (simp; done) | (simp; omega) | (simp at *; omega))) ?_
    refine Rg_run rfl (o_moveh (v := .int _ _) rfl) ?_
    refine Rg_run rfl (o_remT (a := 9) (b := 64) rfl rfl (by decide) (by decide) (by unfold I64; decide)) ?_
    refine Rg_run rfl (o_shlU (a := BitVec.ofNat 64 1) rfl rfl (by decide)) ?_
    refine Rg_run rfl (o_subU (b := BitVec.ofNat 64 1) rfl rfl) ?_
    refine Rg_run rfl (o_iaO (i := 0) Tryd.underlying42 Tryd.sizeOf34 hown11 rfl rfl (by decide)) ?_
    refine Rg_elst (u := 511#64) rfl encU_ok Tryd.sizeOf34 rfl rfl rfl hown11 (by simp) ?_
    intro w14 x15 hown11
    have z16 := Bel.size x15
    replace hX := Bel.out hX x15 (fun g h1 h2 => by first | exact h2 | omega)
    replace hb2 := hb2.keep x15 (fun h => by omega)
    refine Rg_nil ?_
    refine W_seq ?_
    refine W_region ?_
    refine Rg_run rfl (o_moveh (v := .slice _ _ _) rfl) ?_
    refine Rg_run rfl (o_build (cells := encSV ⟨a11, 1, 511⟩) (vs := [(0, .slice _ _ _)]) rfl (by kernel_rfl)) ?_
    refine Rg_storeW (v := .agg _) rfl Tryd.sizeOf44 rfl rfl hb2 rfl rfl rfl ?_
    intro w17 c18 hb2
    change Box _ _ _ (encSV _) at hb2
    have z19 := Bel.size c18
    replace hX := Bel.out hX c18 (fun g h1 h2 => by first | exact h2 | omega)
    replace hown11 := hown11.keepD c18 (fun g h1 h2 h3 => by omega)
    refine Rg_nil ?_
    refine W_ret ?_
    refine ⟨_, res_1 (v := .agg _) rfl (rv_cellS Tryd.isAgg44 Tryd.sizeOf44 rfl hb2.at rfl), ?_⟩
    have h := (hown11.slA encU_ok).mono (F' := Fsh w w17) (fun g h1 h2 => ⟨by omega, by omega⟩)
    exact ⟨_, _, rfl, h, hX⟩

theorem law_SessionNil (w : World) (hT : Tb w) (o : SOp) (hor : I64 o.r) : Ok Tryd.prog 7 #[.agg (encOp o).toArray] w fun v w' => v = .bool true ∧ Ext False w w' := by
  refine Ok_of_W 114 Tryd.func7 rfl rfl rfl ?_
  have hX : Ext False w w := Bel.refl _ _
  refine W_seq ?_
  refine W_region ?_
  refine Rg_newB rfl (o_box (v := .agg _) rfl) ?_
  intro b1 w1 x2 hge1 hb1
  have hlt1 := hb1.lt
  change Box _ _ _ (encOp _) at hb1
  have z3 := Bel.size x2
  replace hX := Bel.ex hX x2
  replace hT := hT.ext x2
  refine Rg_run rfl o_assignc ?_
  refine Rg_nil ?_
  refine W_seq ?_
  refine W_seq ?_
  refine W_region ?_
  refine Rg_enter rfl (o_call0 Tryd.call8) (Ok.mono (awake_ok _ hT) ?_)
  rintro _ w4 ⟨rfl, x5⟩
  have z6 := Bel.size x5
  replace hX := Bel.ex hX x5
  replace hT := hT.ext x5
  replace hb1 := hb1.ext x5
  refine Rg_run rfl (o_not rfl) ?_
  refine Rg_nil ?_
  refine W_cond_false rfl ?_
  refine W_skip ?_
  refine W_seq ?_
  refine W_region ?_
  refine Rg_run rfl o_assignc ?_
  refine Rg_nil ?_
  refine W_seq ?_
  refine W_region ?_
  refine Rg_run rfl (o_moveh (v := .pointer _) rfl) ?_
  refine Rg_enter rfl (o_call2 Tryd.call10 rfl rfl) (Ok.mono (sopen_nil _ _) ?_)
  rintro _ w7 ⟨rfl, x8⟩
  have z9 := Bel.size x8
  replace hX := Bel.ex hX x8
  replace hT := hT.ext x8
  replace hb1 := hb1.ext x8
  refine Rg_run rfl (o_moveh (v := .tuple _) rfl) ?_
  refine Rg_run rfl (o_extract rfl rfl) ?_
  refine Rg_run rfl (o_extract rfl rfl) ?_
  refine Rg_run rfl (o_extract rfl rfl) ?_
  refine Rg_run rfl (o_assignh (v := .pointer _) rfl) ?_
  refine Rg_run rfl (o_assignh (v := .int _ _) rfl) ?_
  refine Rg_run rfl (o_assignh (v := .int _ _) rfl) ?_
  refine Rg_nil ?_
  refine W_seq ?_
  refine W_region ?_
  refine Rg_run rfl (o_moveh (v := .pointer _) rfl) ?_
  refine Rg_enter rfl (o_call2 Tryd.call11 rfl rfl) (Ok.mono (sclose_nil _ _) ?_)
  rintro _ w10 ⟨rfl, x11⟩
  have z12 := Bel.size x11
  replace hX := Bel.ex hX x11
  replace hT := hT.ext x11
  replace hb1 := hb1.ext x11
  refine Rg_run rfl (o_moveh (v := .tuple _) rfl) ?_
  refine Rg_run rfl (o_extract rfl rfl) ?_
  refine Rg_run rfl (o_extract rfl rfl) ?_
  refine Rg_run rfl (o_assignh (v := .pointer _) rfl) ?_
  refine Rg_run rfl (o_assignh (v := .int _ _) rfl) ?_
  refine Rg_nil ?_
  refine W_seq ?_
  refine W_region ?_
  refine Rg_run rfl (o_moveh (v := .pointer _) rfl) ?_
  refine Rg_enter rfl (o_call3 Tryd.call29 rfl rfl rfl) (Ok.mono (sact_nil _ _ _) ?_)
  rintro _ w13 ⟨rfl, x14⟩
  have z15 := Bel.size x14
  replace hX := Bel.ex hX x14
  replace hT := hT.ext x14
  replace hb1 := hb1.ext x14
  refine Rg_run rfl (o_moveh (v := .tuple _) rfl) ?_
  refine Rg_run rfl (o_extract rfl rfl) ?_
  refine Rg_run rfl (o_extract rfl rfl) ?_
  refine Rg_run rfl (o_assignh (v := .pointer _) rfl) ?_
  refine Rg_run rfl (o_assignh (v := .int _ _) rfl) ?_
  refine Rg_nil ?_
  refine W_seq ?_
  refine W_region ?_
  refine Rg_run rfl (o_moveh (v := .pointer _) rfl) ?_
  refine Rg_enter rfl (o_call3 Tryd.call30 rfl rfl rfl) (Ok.mono (sdeact_nil _ _ _) ?_)
  rintro _ w16 ⟨rfl, x17⟩
  have z18 := Bel.size x17
  replace hX := Bel.ex hX x17
  replace hT := hT.ext x17
  replace hb1 := hb1.ext x17
  refine Rg_run rfl (o_moveh (v := .tuple _) rfl) ?_
  refine Rg_run rfl (o_extract rfl rfl) ?_
  refine Rg_run rfl (o_extract rfl rfl) ?_
  refine Rg_run rfl (o_assignh (v := .pointer _) rfl) ?_
  refine Rg_run rfl (o_assignh (v := .int _ _) rfl) ?_
  refine Rg_nil ?_
  refine W_seq ?_
  refine W_region ?_
  refine Rg_run rfl (o_moveh (v := .pointer _) rfl) ?_
  refine Rg_run rfl (o_fa Tryd.underlying68 rfl Tryd.sizeOf5 rfl) ?_
  refine Rg_run rfl (o_load1 Tryd.isAgg5 rfl (hb1.at.get 1 rfl)) ?_
  refine Rg_run rfl (o_convS Tryd.underlying5 Tryd.underlying3 rfl (wrapB _)) ?_
  refine Rg_enter rfl (o_call2 Tryd.call25 rfl rfl) (Ok.mono (sget_nil _ _) ?_)
  rintro _ w19 ⟨rfl, x20⟩
  have z21 := Bel.size x20
  replace hX := Bel.ex hX x20
  replace hT := hT.ext x20
  replace hb1 := hb1.ext x20
  refine Rg_run rfl (o_moveh (v := .tuple _) rfl) ?_
  refine Rg_run rfl (o_extract rfl rfl) ?_
  refine Rg_run rfl (o_extract rfl rfl) ?_
  refine Rg_alst rfl rfl Tryd.zeroValue55 rfl Tryd.sizeOf55 (fun _ => rfl) rfl rfl ?_
  intro b13 w22 x23 hge13 hb13
  have hlt13 := hb13.lt
  change Box _ _ _ (encSe _) at hb13
  have z24 := Bel.size x23
  replace hX := Bel.ex hX x23
  replace hT := hT.ext x23
  replace hb1 := hb1.ext x23
  refine Rg_run rfl (o_assignh (v := .bool _) rfl) ?_
  refine Rg_nil ?_
  refine W_seq ?_
  apply W_draw (β := False) [peq _, peq _, peq _, peq _, peq _, peq _, peq _, peq _, peq _, peq _, peq _, peq _, peq _, peq _, peq _, peq _, peq _, peq _, peq _, peq _, peq _, peq _, peq _, peq _, peq _, peq _, peq _, peq _, peq _, peq _, peq _, peq _, peq _, peq _, peq _, peq _, peq _, peq _, peq _, peq _, peq _, peq _, peq _, peq _, peq _, peq _, peq _, peq _, (postSV (fun _ => True) 511), (fun v w => HyIs w v []), peq _, peq _, peq _, peq _, peq _, peq _, peq _, peq _, peq _, (fun v w => BkIs w v []), peq _, peq _, peq _, peq _, (fun v w => BkIs w v []), peq _, peq _, peq _, peq _] 69 mixed (by kernel_rfl) rfl ⟨peq_stable _, peq_stable _, peq_stable _, peq_stable _, peq_stable _, peq_stable _, peq_stable _, peq_stable _, peq_stable _, peq_stable _, peq_stable _, peq_stable _, peq_stable _, peq_stable _, peq_stable _, peq_stable _, peq_stable _, peq_stable _, peq_stable _, peq_stable _, peq_stable _, peq_stable _, peq_stable _, peq_stable _, peq_stable _, peq_stable _, peq_stable _, peq_stable _, peq_stable _, peq_stable _, peq_stable _, peq_stable _, peq_stable _, peq_stable _, peq_stable _, peq_stable _, peq_stable _, peq_stable _, peq_stable _, peq_stable _, peq_stable _, peq_stable _, peq_stable _, peq_stable _, peq_stable _, peq_stable _, peq_stable _, peq_stable _, (postSV_stable _ _), ((fun _ _ _ h x => h.ext x)), peq_stable _, peq_stable _, peq_stable _, peq_stable _, peq_stable _, peq_stable _, peq_stable _, peq_stable _, peq_stable _, ((fun _ _ _ h x => h.ext x)), peq_stable _, peq_stable _, peq_stable _, peq_stable _, ((fun _ _ _ h x => h.ext x)), peq_stable _, peq_stable _, peq_stable _, peq_stable _, trivial⟩ ?ob9 ?fin9
  case ob9 =>
    refine OblL_cons (fun w25 x26 => ?_) ?_
    · skip
      have z27 := Bel.size x26
      have hT := hT.ext x26
      have hb1 := hb1.ext x26
      have hb13 := hb13.ext x26
      refine bindP_nil ?_
      exact OpS_v rfl (o_moveh (v := .int _ _) rfl)
    refine OblL_cons (fun w28 x29 => ?_) ?_
    · skip
      have z30 := Bel.size x29
      have hT := hT.ext x29
      have hb1 := hb1.ext x29
      have hb13 := hb13.ext x29
      refine bindP_eq ?_
      refine bindP_nil ?_
      exact OpS_v rfl (o_eql rfl rfl)
    refine OblL_cons (fun w31 x32 => ?_) ?_
    · skip
      have z33 := Bel.size x32
      have hT := hT.ext x32
      have hb1 := hb1.ext x32
      have hb13 := hb13.ext x32
      refine bindP_eq ?_
      refine bindP_nil ?_
      exact OpS_v rfl (o_moveh (v := .bool _) rfl)
    refine OblL_cons (fun w34 x35 => ?_) ?_
    · skip
      have z36 := Bel.size x35
      have hT := hT.ext x35
      have hb1 := hb1.ext x35
      have hb13 := hb13.ext x35
      refine bindP_eq ?_
      refine bindP_nil ?_
      refine OpS_on 2 48 rfl (congrArg Value.bool (by decide)) ?_
      exact OpS_v rfl (o_moveh (v := .int _ _) rfl)
    refine OblL_cons (fun w37 x38 => ?_) ?_
    · skip
      have z39 := Bel.size x38
      have hT := hT.ext x38
      have hb1 := hb1.ext x38
      have hb13 := hb13.ext x38
      refine bindP_eq ?_
      refine bindP_eq ?_
      refine bindP_nil ?_
      refine OpS_on 2 48 rfl (congrArg Value.bool (by decide)) ?_
      exact OpS_v rfl (o_eql rfl rfl)
    refine OblL_cons (fun w40 x41 => ?_) ?_
    · skip
      have z42 := Bel.size x41
      have hT := hT.ext x41
      have hb1 := hb1.ext x41
      have hb13 := hb13.ext x41
      refine bindP_eq ?_
      refine bindP_eq ?_
      refine bindP_nil ?_
      exact OpS_v rfl (o_pickT (v := .bool _) (congrArg Value.bool (by decide)) rfl)
    refine OblL_cons (fun w43 x44 => ?_) ?_
    · skip
      have z45 := Bel.size x44
      have hT := hT.ext x44
      have hb1 := hb1.ext x44
      have hb13 := hb13.ext x44
      refine bindP_eq ?_
      refine bindP_eq ?_
      refine bindP_nil ?_
      exact OpS_v rfl (o_moveh (v := .bool _) rfl)
    refine OblL_cons (fun w46 x47 => ?_) ?_
    · skip
      have z48 := Bel.size x47
      have hT := hT.ext x47
      have hb1 := hb1.ext x47
      have hb13 := hb13.ext x47
      refine bindP_eq ?_
      refine bindP_nil ?_
      refine OpS_on 6 52 rfl (congrArg Value.bool (by decide)) ?_
      exact OpS_v rfl (o_moveh (v := .int _ _) rfl)
    refine OblL_cons (fun w49 x50 => ?_) ?_
    · skip
      have z51 := Bel.size x50
      have hT := hT.ext x50
      have hb1 := hb1.ext x50
      have hb13 := hb13.ext x50
      refine bindP_eq ?_
      refine bindP_eq ?_
      refine bindP_nil ?_
      refine OpS_on 6 52 rfl (congrArg Value.bool (by decide)) ?_
      exact OpS_v rfl (o_eql rfl rfl)
    refine OblL_cons (fun w52 x53 => ?_) ?_
    · skip
      have z54 := Bel.size x53
      have hT := hT.ext x53
      have hb1 := hb1.ext x53
      have hb13 := hb13.ext x53
      refine bindP_eq ?_
      refine bindP_eq ?_
      refine bindP_nil ?_
      exact OpS_v rfl (o_pickT (v := .bool _) (congrArg Value.bool (by decide)) rfl)
    refine OblL_cons (fun w55 x56 => ?_) ?_
    · skip
      have z57 := Bel.size x56
      have hT := hT.ext x56
      have hb1 := hb1.ext x56
      have hb13 := hb13.ext x56
      refine bindP_eq ?_
      refine bindP_eq ?_
      refine bindP_nil ?_
      exact OpS_v rfl (o_moveh (v := .bool _) rfl)
    refine OblL_cons (fun w58 x59 => ?_) ?_
    · skip
      have z60 := Bel.size x59
      have hT := hT.ext x59
      have hb1 := hb1.ext x59
      have hb13 := hb13.ext x59
      refine bindP_eq ?_
      refine bindP_nil ?_
      refine OpS_on 10 56 rfl (congrArg Value.bool (by decide)) ?_
      exact OpS_v rfl (o_moveh (v := .int _ _) rfl)
    refine OblL_cons (fun w61 x62 => ?_) ?_
    · skip
      have z63 := Bel.size x62
      have hT := hT.ext x62
      have hb1 := hb1.ext x62
      have hb13 := hb13.ext x62
      refine bindP_eq ?_
      refine bindP_eq ?_
      refine bindP_nil ?_
      refine OpS_on 10 56 rfl (congrArg Value.bool (by decide)) ?_
      exact OpS_v rfl (o_eql rfl rfl)
    refine OblL_cons (fun w64 x65 => ?_) ?_
    · skip
      have z66 := Bel.size x65
      have hT := hT.ext x65
      have hb1 := hb1.ext x65
      have hb13 := hb13.ext x65
      refine bindP_eq ?_
      refine bindP_eq ?_
      refine bindP_nil ?_
      exact OpS_v rfl (o_pickT (v := .bool _) (congrArg Value.bool (by decide)) rfl)
    refine OblL_cons (fun w67 x68 => ?_) ?_
    · skip
      have z69 := Bel.size x68
      have hT := hT.ext x68
      have hb1 := hb1.ext x68
      have hb13 := hb13.ext x68
      refine bindP_eq ?_
      refine bindP_eq ?_
      refine bindP_nil ?_
      exact OpS_v rfl (o_moveh (v := .bool _) rfl)
    refine OblL_cons (fun w70 x71 => ?_) ?_
    · skip
      have z72 := Bel.size x71
      have hT := hT.ext x71
      have hb1 := hb1.ext x71
      have hb13 := hb13.ext x71
      refine bindP_eq ?_
      refine bindP_nil ?_
      refine OpS_on 14 60 rfl (congrArg Value.bool (by decide)) ?_
      exact OpS_v rfl (o_moveh (v := .int _ _) rfl)
    refine OblL_cons (fun w73 x74 => ?_) ?_
    · skip
      have z75 := Bel.size x74
      have hT := hT.ext x74
      have hb1 := hb1.ext x74
      have hb13 := hb13.ext x74
      refine bindP_eq ?_
      refine bindP_eq ?_
      refine bindP_nil ?_
      refine OpS_on 14 60 rfl (congrArg Value.bool (by decide)) ?_
      exact OpS_v rfl (o_eql rfl rfl)
    refine OblL_cons (fun w76 x77 => ?_) ?_
    · skip
      have z78 := Bel.size x77
      have hT := hT.ext x77
      have hb1 := hb1.ext x77
      have hb13 := hb13.ext x77
      refine bindP_eq ?_
      refine bindP_eq ?_
      refine bindP_nil ?_
      exact OpS_v rfl (o_pickT (v := .bool _) (congrArg Value.bool (by decide)) rfl)
    refine OblL_cons (fun w79 x80 => ?_) ?_
    · skip
      have z81 := Bel.size x80
      have hT := hT.ext x80
      have hb1 := hb1.ext x80
      have hb13 := hb13.ext x80
      refine bindP_eq ?_
      refine bindP_eq ?_
      refine bindP_nil ?_
      exact OpS_v rfl (o_moveh (v := .bool _) rfl)
    refine OblL_cons (fun w82 x83 => ?_) ?_
    · skip
      have z84 := Bel.size x83
      have hT := hT.ext x83
      have hb1 := hb1.ext x83
      have hb13 := hb13.ext x83
      refine bindP_eq ?_
      refine bindP_nil ?_
      refine OpS_on 18 64 rfl (congrArg Value.bool (by decide)) ?_
      exact OpS_v rfl (o_moveh (v := .bool _) rfl)
    refine OblL_cons (fun w85 x86 => ?_) ?_
    · skip
      have z87 := Bel.size x86
      have hT := hT.ext x86
      have hb1 := hb1.ext x86
      have hb13 := hb13.ext x86
      refine bindP_eq ?_
      refine bindP_eq ?_
      refine bindP_nil ?_
      refine OpS_on 18 64 rfl (congrArg Value.bool (by decide)) ?_
      exact OpS_v rfl (o_not rfl)
    refine OblL_cons (fun w88 x89 => ?_) ?_
    · skip
      have z90 := Bel.size x89
      have hT := hT.ext x89
      have hb1 := hb1.ext x89
      have hb13 := hb13.ext x89
      refine bindP_eq ?_
      refine bindP_eq ?_
      refine bindP_nil ?_
      exact OpS_v rfl (o_pickT (v := .bool _) (congrArg Value.bool (by decide)) rfl)
    refine OblL_cons (fun w91 x92 => ?_) ?_
    · skip
      have z93 := Bel.size x92
      have hT := hT.ext x92
      have hb1 := hb1.ext x92
      have hb13 := hb13.ext x92
      refine bindP_eq ?_
      refine bindP_eq ?_
      refine bindP_nil ?_
      exact OpS_v rfl (o_moveh (v := .bool _) rfl)
    refine OblL_cons (fun w94 x95 => ?_) ?_
    · skip
      have z96 := Bel.size x95
      have hT := hT.ext x95
      have hb1 := hb1.ext x95
      have hb13 := hb13.ext x95
      refine bindP_eq ?_
      refine bindP_nil ?_
      refine OpS_on 22 68 rfl (congrArg Value.bool (by decide)) ?_
      exact OpS_v rfl (o_fa Tryd.underlying55 rfl Tryd.sizeOf3 rfl)
    refine OblL_cons (fun w97 x98 => ?_) ?_
    · skip
      have z99 := Bel.size x98
      have hT := hT.ext x98
      have hb1 := hb1.ext x98
      have hb13 := hb13.ext x98
      refine bindP_eq ?_
      refine bindP_eq ?_
      refine bindP_nil ?_
      refine OpS_on 22 68 rfl (congrArg Value.bool (by decide)) ?_
      exact OpS_v rfl (o_load1 Tryd.isAgg3 rfl (hb13.at.get 0 rfl))
    refine OblL_cons (fun w100 x101 => ?_) ?_
    · skip
      have z102 := Bel.size x101
      have hT := hT.ext x101
      have hb1 := hb1.ext x101
      have hb13 := hb13.ext x101
      refine bindP_eq ?_
      refine bindP_eq ?_
      refine bindP_nil ?_
      refine OpS_on 22 68 rfl (congrArg Value.bool (by decide)) ?_
      exact OpS_v rfl (o_eql rfl rfl)
    refine OblL_cons (fun w103 x104 => ?_) ?_
    · skip
      have z105 := Bel.size x104
      have hT := hT.ext x104
      have hb1 := hb1.ext x104
      have hb13 := hb13.ext x104
      refine bindP_eq ?_
      refine bindP_eq ?_
      refine bindP_nil ?_
      exact OpS_v rfl (o_pickT (v := .bool _) (congrArg Value.bool (by decide)) rfl)
    refine OblL_cons (fun w106 x107 => ?_) ?_
    · skip
      have z108 := Bel.size x107
      have hT := hT.ext x107
      have hb1 := hb1.ext x107
      have hb13 := hb13.ext x107
      refine bindP_eq ?_
      refine bindP_eq ?_
      refine bindP_nil ?_
      exact OpS_v rfl (o_moveh (v := .bool _) rfl)
    refine OblL_cons (fun w109 x110 => ?_) ?_
    · skip
      have z111 := Bel.size x110
      have hT := hT.ext x110
      have hb1 := hb1.ext x110
      have hb13 := hb13.ext x110
      refine bindP_eq ?_
      refine bindP_nil ?_
      refine OpS_on 27 73 rfl rfl ?_
      exact OpS_v rfl (o_moveh (v := .pointer _) rfl)
    refine OblL_cons (fun w112 x113 => ?_) ?_
    · skip
      have z114 := Bel.size x113
      have hT := hT.ext x113
      have hb1 := hb1.ext x113
      have hb13 := hb13.ext x113
      refine bindP_eq ?_
      refine bindP_eq ?_
      refine bindP_eq ?_
      refine bindP_nil ?_
      refine OpS_on 27 73 rfl rfl ?_
      exact OpS_call rfl (o_call1 Tryd.call21 rfl) (slist_nil _)
    refine OblL_cons (fun w115 x116 => ?_) ?_
    · skip
      have z117 := Bel.size x116
      have hT := hT.ext x116
      have hb1 := hb1.ext x116
      have hb13 := hb13.ext x116
      refine bindP_eq ?_
      refine bindP_eq ?_
      refine bindP_nil ?_
      refine OpS_on 27 73 rfl rfl ?_
      exact OpS_v rfl (o_llen Tryd.underlying52 rfl)
    refine OblL_cons (fun w118 x119 => ?_) ?_
    · skip
      have z120 := Bel.size x119
      have hT := hT.ext x119
      have hb1 := hb1.ext x119
      have hb13 := hb13.ext x119
      refine bindP_eq ?_
      refine bindP_nil ?_
      refine OpS_on 27 73 rfl rfl ?_
      exact OpS_v rfl (o_moveh (v := .pointer _) rfl)
    refine OblL_cons (fun w121 x122 => ?_) ?_
    · skip
      have z123 := Bel.size x122
      have hT := hT.ext x122
      have hb1 := hb1.ext x122
      have hb13 := hb13.ext x122
      refine bindP_eq ?_
      refine bindP_nil ?_
      refine OpS_on 27 73 rfl rfl ?_
      exact OpS_v rfl (o_fa Tryd.underlying68 rfl Tryd.sizeOf3 rfl)
    refine OblL_cons (fun w124 x125 => ?_) ?_
    · skip
      have z126 := Bel.size x125
      have hT := hT.ext x125
      have hb1 := hb1.ext x125
      have hb13 := hb13.ext x125
      refine bindP_eq ?_
      refine bindP_eq ?_
      refine bindP_nil ?_
      refine OpS_on 27 73 rfl rfl ?_
      exact OpS_v rfl (o_load1 Tryd.isAgg3 rfl (hb1.at.get 2 rfl))
    refine OblL_cons (fun w127 x128 => ?_) ?_
    · skip
      have z129 := Bel.size x128
      have hT := hT.ext x128
      have hb1 := hb1.ext x128
      have hb13 := hb13.ext x128
      refine bindP_eq ?_
      refine bindP_eq ?_
      refine bindP_eq ?_
      refine bindP_eq ?_
      refine bindP_nil ?_
      refine OpS_on 27 73 rfl rfl ?_
      exact OpS_call rfl (o_call2 Tryd.call28 rfl rfl) (sof_nil _ _)
    refine OblL_cons (fun w130 x131 => ?_) ?_
    · skip
      have z132 := Bel.size x131
      have hT := hT.ext x131
      have hb1 := hb1.ext x131
      have hb13 := hb13.ext x131
      refine bindP_eq ?_
      refine bindP_eq ?_
      refine bindP_nil ?_
      refine OpS_on 27 73 rfl rfl ?_
      exact OpS_v rfl (o_llen Tryd.underlying58 rfl)
    refine OblL_cons (fun w133 x134 => ?_) ?_
    · skip
      have z135 := Bel.size x134
      have hT := hT.ext x134
      have hb1 := hb1.ext x134
      have hb13 := hb13.ext x134
      refine bindP_eq ?_
      refine bindP_eq ?_
      refine bindP_eq ?_
      refine bindP_nil ?_
      refine OpS_on 27 73 rfl rfl ?_
      exact OpS_v rfl (o_add rfl rfl (by first | omega | (unfold I64; omega) | (simp; done) | (simp; omega) | (simp at *; omega)))
    refine OblL_cons (fun w136 x137 => ?_) ?_
    · skip
      have z138 := Bel.size x137
      have hT := hT.ext x137
      have hb1 := hb1.ext x137
      have hb13 := hb13.ext x137
      refine bindP_eq ?_
      refine bindP_nil ?_
      refine OpS_on 27 73 rfl rfl ?_
      exact OpS_v rfl (o_moveh (v := .pointer _) rfl)
    refine OblL_cons (fun w139 x140 => ?_) ?_
    · skip
      have z141 := Bel.size x140
      have hT := hT.ext x140
      have hb1 := hb1.ext x140
      have hb13 := hb13.ext x140
      refine bindP_eq ?_
      refine bindP_eq ?_
      refine bindP_eq ?_
      refine bindP_nil ?_
      refine OpS_on 27 73 rfl rfl ?_
      exact OpS_call rfl (o_call1 Tryd.call31 rfl) (sbytes_nil _)
    refine OblL_cons (fun w142 x143 => ?_) ?_
    · skip
      have z144 := Bel.size x143
      have hT := hT.ext x143
      have hb1 := hb1.ext x143
      have hb13 := hb13.ext x143
      refine bindP_eq ?_
      refine bindP_eq ?_
      refine bindP_nil ?_
      refine OpS_on 27 73 rfl rfl ?_
      exact OpS_v rfl (o_llen Tryd.underlying22 rfl)
    refine OblL_cons (fun w145 x146 => ?_) ?_
    · skip
      have z147 := Bel.size x146
      have hT := hT.ext x146
      have hb1 := hb1.ext x146
      have hb13 := hb13.ext x146
      refine bindP_eq ?_
      refine bindP_eq ?_
      refine bindP_eq ?_
      refine bindP_nil ?_
      refine OpS_on 27 73 rfl rfl ?_
      exact OpS_v rfl (o_add rfl rfl (by first | omega | (unfold I64; omega) | (simp; done) | (simp; omega) | (simp at *; omega)))
    refine OblL_cons (fun w148 x149 => ?_) ?_
    · skip
      have z150 := Bel.size x149
      have hT := hT.ext x149
      have hb1 := hb1.ext x149
      have hb13 := hb13.ext x149
      refine bindP_eq ?_
      refine bindP_nil ?_
      refine OpS_on 27 73 rfl rfl ?_
      exact OpS_v rfl (o_moveh (v := .pointer _) rfl)
    refine OblL_cons (fun w151 x152 => ?_) ?_
    · skip
      have z153 := Bel.size x152
      have hT := hT.ext x152
      have hb1 := hb1.ext x152
      have hb13 := hb13.ext x152
      refine bindP_eq ?_
      refine bindP_eq ?_
      refine bindP_eq ?_
      refine bindP_nil ?_
      refine OpS_on 27 73 rfl rfl ?_
      exact OpS_call rfl (o_call1 Tryd.call12 rfl) (slen_nil _)
    refine OblL_cons (fun w154 x155 => ?_) ?_
    · skip
      have z156 := Bel.size x155
      have hT := hT.ext x155
      have hb1 := hb1.ext x155
      have hb13 := hb13.ext x155
      refine bindP_eq ?_
      refine bindP_eq ?_
      refine bindP_eq ?_
      refine bindP_nil ?_
      refine OpS_on 27 73 rfl rfl ?_
      exact OpS_v rfl (o_add rfl rfl (by first | omega | (unfold I64; omega) | (simp; done) | (simp; omega) | (simp at *; omega)))
    refine OblL_cons (fun w157 x158 => ?_) ?_
    · skip
      have z159 := Bel.size x158
      have hT := hT.ext x158
      have hb1 := hb1.ext x158
      have hb13 := hb13.ext x158
      refine bindP_eq ?_
      refine bindP_eq ?_
      refine bindP_nil ?_
      refine OpS_on 27 73 rfl rfl ?_
      exact OpS_v rfl (o_eql rfl rfl)
    refine OblL_cons (fun w160 x161 => ?_) ?_
    · skip
      have z162 := Bel.size x161
      have hT := hT.ext x161
      have hb1 := hb1.ext x161
      have hb13 := hb13.ext x161
      refine bindP_eq ?_
      refine bindP_eq ?_
      refine bindP_nil ?_
      exact OpS_v rfl (o_pickT (v := .bool _) rfl rfl)
    refine OblL_cons (fun w163 x164 => ?_) ?_
    · skip
      have z165 := Bel.size x164
      have hT := hT.ext x164
      have hb1 := hb1.ext x164
      have hb13 := hb13.ext x164
      refine bindP_eq ?_
      refine bindP_eq ?_
      refine bindP_nil ?_
      exact OpS_v rfl (o_moveh (v := .bool _) rfl)
    refine OblL_cons (fun w166 x167 => ?_) ?_
    · skip
      have z168 := Bel.size x167
      have hT := hT.ext x167
      have hb1 := hb1.ext x167
      have hb13 := hb13.ext x167
      refine bindP_eq ?_
      refine bindP_nil ?_
      refine OpS_on 46 92 rfl (congrArg Value.bool (by decide)) ?_
      exact OpS_v rfl (o_moveh (v := .pointer _) rfl)
    refine OblL_cons (fun w169 x170 => ?_) ?_
    · skip
      have z171 := Bel.size x170
      have hT := hT.ext x170
      have hb1 := hb1.ext x170
      have hb13 := hb13.ext x170
      refine bindP_eq ?_
      refine bindP_eq ?_
      refine bindP_nil ?_
      refine OpS_on 46 92 rfl (congrArg Value.bool (by decide)) ?_
      exact OpS_mem rfl (o_call1 Tryd.call32 rfl) ((bbelow9_ok _).mono (fun v w2 ⟨a, c, e, h, x⟩ => ⟨x, a, c, e, h.mono (fun _ _ _ => trivial)⟩))
    refine OblL_cons (fun w172 x173 => ?_) ?_
    · skip
      have z174 := Bel.size x173
      have hT := hT.ext x173
      have hb1 := hb1.ext x173
      have hb13 := hb13.ext x173
      refine bindP_mem (fun v94 hv94 => ?_)
      obtain ⟨a94, c94, rfl, hq94⟩ := hv94
      refine bindP_eq ?_
      refine bindP_nil ?_
      refine OpS_on 46 92 rfl (congrArg Value.bool (by decide)) ?_
      exact OpS_mem rfl (o_call0 Tryd.call33) ((hnew_ok _ hT).mono (fun v w2 ⟨h, x⟩ => ⟨x, h⟩))
    refine OblL_cons (fun w175 x176 => ?_) ?_
    · skip
      have z177 := Bel.size x176
      have hT := hT.ext x176
      have hb1 := hb1.ext x176
      have hb13 := hb13.ext x176
      refine bindP_eq ?_
      refine bindP_mem (fun v94 hv94 => ?_)
      obtain ⟨a94, c94, rfl, hq94⟩ := hv94
      refine bindP_mem (fun v95 hv95 => ?_)
      obtain ⟨ph95, po95, oo95, rfl, _, _, _⟩ := hv95
      refine bindP_mem (fun v95 hv95 => ?_)
      obtain ⟨ph95, po95, oo95, rfl, _, _, _⟩ := hv95
      refine bindP_eq ?_
      refine bindP_nil ?_
      refine OpS_on 46 92 rfl (congrArg Value.bool (by decide)) ?_
      exact OpS_call rfl (o_call4 Tryd.call15 rfl rfl rfl rfl) (seff_nil _ ⟨a94, c94, 511⟩ _ _)
    refine OblL_cons (fun w178 x179 => ?_) ?_
    · skip
      have z180 := Bel.size x179
      have hT := hT.ext x179
      have hb1 := hb1.ext x179
      have hb13 := hb13.ext x179
      refine bindP_eq ?_
      refine bindP_eq ?_
      refine bindP_eq ?_
      refine bindP_nil ?_
      refine OpS_on 46 92 rfl (congrArg Value.bool (by decide)) ?_
      exact OpS_call rfl (o_call1 Tryd.call19 rfl) (bempty_ok _ ⟨none, 0, 0⟩ (fun _ => True) Sl.none)
    refine OblL_cons (fun w181 x182 => ?_) ?_
    · skip
      have z183 := Bel.size x182
      have hT := hT.ext x182
      have hb1 := hb1.ext x182
      have hb13 := hb13.ext x182
      refine bindP_eq ?_
      refine bindP_eq ?_
      refine bindP_nil ?_
      exact OpS_v rfl (o_pickT (v := .bool _) (congrArg Value.bool (by decide)) rfl)
    refine OblL_cons (fun w184 x185 => ?_) ?_
    · skip
      have z186 := Bel.size x185
      have hT := hT.ext x185
      have hb1 := hb1.ext x185
      have hb13 := hb13.ext x185
      refine bindP_eq ?_
      refine bindP_eq ?_
      refine bindP_nil ?_
      exact OpS_v rfl (o_moveh (v := .bool _) rfl)
    refine OblL_cons (fun w187 x188 => ?_) ?_
    · skip
      have z189 := Bel.size x188
      have hT := hT.ext x188
      have hb1 := hb1.ext x188
      have hb13 := hb13.ext x188
      refine bindP_eq ?_
      refine bindP_nil ?_
      refine OpS_on 53 99 rfl (congrArg Value.bool (by decide)) ?_
      exact OpS_v rfl (o_moveh (v := .pointer _) rfl)
    refine OblL_cons (fun w190 x191 => ?_) ?_
    · skip
      have z192 := Bel.size x191
      have hT := hT.ext x191
      have hb1 := hb1.ext x191
      have hb13 := hb13.ext x191
      refine bindP_eq ?_
      refine bindP_eq ?_
      refine bindP_eq ?_
      refine bindP_nil ?_
      refine OpS_on 53 99 rfl (congrArg Value.bool (by decide)) ?_
      exact OpS_call rfl (o_call2 Tryd.call34 rfl rfl) (seq_nn _)
    refine OblL_cons (fun w193 x194 => ?_) ?_
    · skip
      have z195 := Bel.size x194
      have hT := hT.ext x194
      have hb1 := hb1.ext x194
      have hb13 := hb13.ext x194
      refine bindP_eq ?_
      refine bindP_eq ?_
      refine bindP_nil ?_
      exact OpS_v rfl (o_pickT (v := .bool _) (congrArg Value.bool (by decide)) rfl)
    refine OblL_cons (fun w196 x197 => ?_) ?_
    · skip
      have z198 := Bel.size x197
      have hT := hT.ext x197
      have hb1 := hb1.ext x197
      have hb13 := hb13.ext x197
      refine bindP_eq ?_
      refine bindP_eq ?_
      refine bindP_nil ?_
      exact OpS_v rfl (o_moveh (v := .bool _) rfl)
    refine OblL_cons (fun w199 x200 => ?_) ?_
    · skip
      have z201 := Bel.size x200
      have hT := hT.ext x200
      have hb1 := hb1.ext x200
      have hb13 := hb13.ext x200
      refine bindP_eq ?_
      refine bindP_nil ?_
      refine OpS_on 57 103 rfl (congrArg Value.bool (by decide)) ?_
      exact OpS_v rfl (o_moveh (v := .pointer _) rfl)
    refine OblL_cons (fun w202 x203 => ?_) ?_
    · skip
      have z204 := Bel.size x203
      have hT := hT.ext x203
      have hb1 := hb1.ext x203
      have hb13 := hb13.ext x203
      refine bindP_eq ?_
      refine bindP_eq ?_
      refine bindP_nil ?_
      refine OpS_on 57 103 rfl (congrArg Value.bool (by decide)) ?_
      exact OpS_mem rfl (o_call0 Tryd.call9) ((snew_ok _).mono (fun v w2 ⟨h, x⟩ => ⟨x, h⟩))
    refine OblL_cons (fun w205 x206 => ?_) ?_
    · skip
      have z207 := Bel.size x206
      have hT := hT.ext x206
      have hb1 := hb1.ext x206
      have hb13 := hb13.ext x206
      refine bindP_eq ?_
      refine bindP_mem (fun v105 hv105 => ?_)
      obtain ⟨p105, b105, rfl, _, _⟩ := hv105
      refine bindP_mem (fun v105 hv105 => ?_)
      obtain ⟨p105, b105, rfl, _, _⟩ := hv105
      refine bindP_eq ?_
      refine bindP_nil ?_
      refine OpS_on 57 103 rfl (congrArg Value.bool (by decide)) ?_
      exact OpS_call rfl (o_call2 Tryd.call34 rfl rfl) (seq_nt _ _)
    refine OblL_cons (fun w208 x209 => ?_) ?_
    · skip
      have z210 := Bel.size x209
      have hT := hT.ext x209
      have hb1 := hb1.ext x209
      have hb13 := hb13.ext x209
      refine bindP_eq ?_
      refine bindP_eq ?_
      refine bindP_nil ?_
      refine OpS_on 57 103 rfl (congrArg Value.bool (by decide)) ?_
      exact OpS_v rfl (o_not rfl)
    refine OblL_cons (fun w211 x212 => ?_) ?_
    · skip
      have z213 := Bel.size x212
      have hT := hT.ext x212
      have hb1 := hb1.ext x212
      have hb13 := hb13.ext x212
      refine bindP_eq ?_
      refine bindP_eq ?_
      refine bindP_nil ?_
      exact OpS_v rfl (o_pickT (v := .bool _) (congrArg Value.bool (by decide)) rfl)
    refine OblL_cons (fun w214 x215 => ?_) ?_
    · skip
      have z216 := Bel.size x215
      have hT := hT.ext x215
      have hb1 := hb1.ext x215
      have hb13 := hb13.ext x215
      refine bindP_eq ?_
      refine bindP_eq ?_
      refine bindP_nil ?_
      exact OpS_v rfl (o_moveh (v := .bool _) rfl)
    refine OblL_cons (fun w217 x218 => ?_) ?_
    · skip
      have z219 := Bel.size x218
      have hT := hT.ext x218
      have hb1 := hb1.ext x218
      have hb13 := hb13.ext x218
      refine bindP_eq ?_
      refine bindP_eq ?_
      refine bindP_nil ?_
      refine OpS_on 63 109 rfl (congrArg Value.bool (by decide)) ?_
      exact OpS_mem rfl (o_call0 Tryd.call9) ((snew_ok _).mono (fun v w2 ⟨h, x⟩ => ⟨x, h⟩))
    refine OblL_cons (fun w220 x221 => ?_) ?_
    · skip
      have z222 := Bel.size x221
      have hT := hT.ext x221
      have hb1 := hb1.ext x221
      have hb13 := hb13.ext x221
      refine bindP_mem (fun v110 hv110 => ?_)
      obtain ⟨p110, b110, rfl, _, _⟩ := hv110
      refine bindP_mem (fun v110 hv110 => ?_)
      obtain ⟨p110, b110, rfl, _, _⟩ := hv110
      refine bindP_eq ?_
      refine bindP_nil ?_
      refine OpS_on 63 109 rfl (congrArg Value.bool (by decide)) ?_
      exact OpS_call rfl (o_call2 Tryd.call34 rfl rfl) (seq_tn _ _)
    refine OblL_cons (fun w223 x224 => ?_) ?_
    · skip
      have z225 := Bel.size x224
      have hT := hT.ext x224
      have hb1 := hb1.ext x224
      have hb13 := hb13.ext x224
      refine bindP_eq ?_
      refine bindP_eq ?_
      refine bindP_nil ?_
      refine OpS_on 63 109 rfl (congrArg Value.bool (by decide)) ?_
      exact OpS_v rfl (o_not rfl)
    refine OblL_cons (fun w226 x227 => ?_) ?_
    · skip
      have z228 := Bel.size x227
      have hT := hT.ext x227
      have hb1 := hb1.ext x227
      have hb13 := hb13.ext x227
      refine bindP_eq ?_
      refine bindP_eq ?_
      refine bindP_nil ?_
      exact OpS_v rfl (o_pickT (v := .bool _) (congrArg Value.bool (by decide)) rfl)
    refine OblL_cons (fun w229 x230 => ?_) ?_
    · skip
      have z231 := Bel.size x230
      have hT := hT.ext x230
      have hb1 := hb1.ext x230
      have hb13 := hb13.ext x230
      refine bindP_eq ?_
      refine bindP_eq ?_
      refine bindP_eq ?_
      refine bindP_eq ?_
      refine bindP_eq ?_
      refine bindP_eq ?_
      refine bindP_eq ?_
      refine bindP_eq ?_
      refine bindP_eq ?_
      refine bindP_eq ?_
      refine bindP_eq ?_
      refine bindP_eq ?_
      refine bindP_eq ?_
      refine bindP_eq ?_
      refine bindP_eq ?_
      refine bindP_eq ?_
      refine bindP_eq ?_
      refine bindP_eq ?_
      refine bindP_eq ?_
      refine bindP_eq ?_
      refine bindP_eq ?_
      refine bindP_eq ?_
      refine bindP_eq ?_
      refine bindP_eq ?_
      refine bindP_eq ?_
      refine bindP_eq ?_
      refine bindP_eq ?_
      refine bindP_eq ?_
      refine bindP_eq ?_
      refine bindP_eq ?_
      refine bindP_eq ?_
      refine bindP_eq ?_
      refine bindP_eq ?_
      refine bindP_eq ?_
      refine bindP_eq ?_
      refine bindP_eq ?_
      refine bindP_eq ?_
      refine bindP_eq ?_
      refine bindP_eq ?_
      refine bindP_eq ?_
      refine bindP_eq ?_
      refine bindP_eq ?_
      refine bindP_eq ?_
      refine bindP_eq ?_
      refine bindP_eq ?_
      refine bindP_eq ?_
      refine bindP_eq ?_
      refine bindP_eq ?_
      refine bindP_eq ?_
      refine bindP_eq ?_
      refine bindP_mem (fun v94 hv94 => ?_)
      obtain ⟨a94, c94, rfl, hq94⟩ := hv94
      refine bindP_mem (fun v95 hv95 => ?_)
      obtain ⟨ph95, po95, oo95, rfl, _, _, _⟩ := hv95
      refine bindP_eq ?_
      refine bindP_eq ?_
      refine bindP_eq ?_
      refine bindP_eq ?_
      refine bindP_eq ?_
      refine bindP_eq ?_
      refine bindP_eq ?_
      refine bindP_eq ?_
      refine bindP_eq ?_
      refine bindP_mem (fun v105 hv105 => ?_)
      obtain ⟨p105, b105, rfl, _, _⟩ := hv105
      refine bindP_eq ?_
      refine bindP_eq ?_
      refine bindP_eq ?_
      refine bindP_eq ?_
      refine bindP_mem (fun v110 hv110 => ?_)
      obtain ⟨p110, b110, rfl, _, _⟩ := hv110
      refine bindP_eq ?_
      refine bindP_eq ?_
      refine bindP_eq ?_
      refine bindP_nil ?_
      exact OpS_v rfl (o_assignh (v := .bool _) rfl)
    exact OblL_nil
  case fin9 =>
    intro w232 x233
    have z234 := Bel.size x233
    replace hX := Bel.ex hX x233
    replace hT := hT.ext x233
    replace hb1 := hb1.ext x233
    replace hb13 := hb13.ext x233
    refine bindP_eq ?_
    refine bindP_eq ?_
    refine bindP_eq ?_
    refine bindP_eq ?_
    refine bindP_eq ?_
    refine bindP_eq ?_
    refine bindP_eq ?_
    refine bindP_eq ?_
    refine bindP_eq ?_
    refine bindP_eq ?_
    refine bindP_eq ?_
    refine bindP_eq ?_
    refine bindP_eq ?_
    refine bindP_eq ?_
    refine bindP_eq ?_
    refine bindP_eq ?_
    refine bindP_eq ?_
    refine bindP_eq ?_
    refine bindP_eq ?_
    refine bindP_eq ?_
    refine bindP_eq ?_
    refine bindP_eq ?_
    refine bindP_eq ?_
    refine bindP_eq ?_
    refine bindP_eq ?_
    refine bindP_eq ?_
    refine bindP_eq ?_
    refine bindP_eq ?_
    refine bindP_eq ?_
    refine bindP_eq ?_
    refine bindP_eq ?_
    refine bindP_eq ?_
    refine bindP_eq ?_
    refine bindP_eq ?_
    refine bindP_eq ?_
    refine bindP_eq ?_
    refine bindP_eq ?_
    refine bindP_eq ?_
    refine bindP_eq ?_
    refine bindP_eq ?_
    refine bindP_eq ?_
    refine bindP_eq ?_
    refine bindP_eq ?_
    refine bindP_eq ?_
    refine bindP_eq ?_
    refine bindP_eq ?_
    refine bindP_eq ?_
    refine bindP_eq ?_
    refine bindP_mem (fun v94 hv94 => ?_)
    obtain ⟨a94, c94, rfl, hq94⟩ := hv94
    refine bindP_mem (fun v95 hv95 => ?_)
    obtain ⟨ph95, po95, oo95, rfl, _, _, _⟩ := hv95
    refine bindP_eq ?_
    refine bindP_eq ?_
    refine bindP_eq ?_
    refine bindP_eq ?_
    refine bindP_eq ?_
    refine bindP_eq ?_
    refine bindP_eq ?_
    refine bindP_eq ?_
    refine bindP_eq ?_
    refine bindP_mem (fun v105 hv105 => ?_)
    obtain ⟨p105, b105, rfl, _, _⟩ := hv105
    refine bindP_eq ?_
    refine bindP_eq ?_
    refine bindP_eq ?_
    refine bindP_eq ?_
    refine bindP_mem (fun v110 hv110 => ?_)
    obtain ⟨p110, b110, rfl, _, _⟩ := hv110
    refine bindP_eq ?_
    refine bindP_eq ?_
    refine bindP_eq ?_
    refine bindP_eq ?_
    refine bindP_nil ?_
    refine Rg_nil ?_
    refine W_ret ?_
    refine ⟨_, res_tmp rfl rfl, ?_⟩
    refine ⟨congrArg Value.bool ?_, hX⟩
    all_goals (rfl)

end Go.Proofs.YtncmjgmlnnenhaaDoor
