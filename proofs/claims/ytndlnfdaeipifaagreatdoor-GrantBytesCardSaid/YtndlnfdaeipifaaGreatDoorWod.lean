/- Walks, printed by program: each theorem says what a function of the translation returns. -/
import Derived.Test.YtndlnfdaeipifaaGreatDoorWbits
import Derived.Test.YtndlnfdaeipifaaGreatDoorWpr
import Derived.Test.YtndlnfdaeipifaaGreatDoorRng
namespace Go.Proofs.YtndlnfdaeipifaaGreatDoor
open Go Go.Lx Go.RowKit
set_option maxRecDepth 100000
set_option linter.unusedVariables false
set_option linter.unusedSimpArgs false
set_option linter.unnecessarySimpa false
theorem el_set : ElT Tryz.prog 184 58 1 24 (.agg #[.slice none 0 0]) := ⟨Tryz.underlying184, ⟨Tryz.t58, by kernel_rfl, rfl, rfl, rfl⟩, rfl, by decide, by decide⟩
theorem oin_ok (w : World) (po : Nat) (o : OV) (Fo : Nat → Prop) (ho : OdAt Fo w po o) (a : Int) : Ok Tryz.prog 143 #[.pointer (some ⟨po, 0, none⟩), .int .i64 a] w fun v w' => v = .bool (decide (0 ≤ a) && decide (a < (o.n : Int))) ∧ Ext False w w' := by
  replace ho := ho.mono (F' := fun g => Fo g ∧ g < w.heap.size) (fun g h1 h2 => ⟨h2, h1⟩)
  have hoa := ho.at'
  have hol := ho.lt
  refine Ok_of_W 19 Tryz.func143 rfl rfl rfl ?_
  have hX : Ext False w w := Bel.refl _ _
  refine W_seq ?_
  refine W_region ?_
  refine Rg_run rfl o_assignc ?_
  refine Rg_nil ?_
  refine W_seq ?_
  refine W_region ?_
  refine Rg_run rfl (o_moveh (v := .pointer _) rfl) ?_
  refine Rg_run rfl (o_pne Tryz.underlying143 rfl rfl) ?_
  refine Rg_run rfl (o_moveh (v := .bool _) rfl) ?_
  refine Rg_on 2 7 rfl rfl ?_
  refine Rg_run rfl (o_moveh (v := .int _ _) rfl) ?_
  refine Rg_on 2 7 rfl rfl ?_
  refine Rg_run rfl (o_geq rfl rfl) ?_
  refine Rg_run rfl (o_pickT (v := .bool _) rfl rfl) ?_
  refine Rg_run rfl (o_moveh (v := .bool _) rfl) ?_
  refine Rg_may 6 11 rfl rfl rfl (fun hg => (o_moveh (v := .int _ _) rfl)) ?_
  refine Rg_may 6 11 rfl rfl rfl (fun hg => (o_moveh (v := .pointer _) rfl)) ?_
  refine Rg_may 6 11 rfl rfl rfl (fun hg => (o_nilc (gsel (u := undef) hg))) ?_
  refine Rg_may 6 11 rfl rfl rfl (fun hg => (o_fa Tryz.underlying186 rfl Tryz.sizeOf3 (gsel (u := undef) hg))) ?_
  refine Rg_may 6 11 rfl rfl rfl (fun hg => (o_load1 Tryz.isAgg3 (gsel (u := undef) hg) (hoa.get 0 rfl))) ?_
  refine Rg_may 6 11 rfl rfl rfl (fun hg => (o_lss (gsel (u := undef) hg) (gsel (u := undef) hg))) ?_
  refine Rg_run rfl (o_and (u := undef) rfl rfl) ?_
  refine Rg_run rfl (o_assignh (v := .bool _) rfl) ?_
  refine Rg_nil ?_
  refine W_ret ?_
  refine ⟨_, res_tmp rfl rfl, ?_⟩
  refine ⟨congrArg Value.bool ?_, hX⟩
  all_goals (rfl)

theorem hrole_ok (w : World) (r : Int) : Ok Tryz.prog 98 #[.int .i64 r] w fun v w' => v = .bool (decide (1 ≤ r) && decide (r ≤ 63)) ∧ Ext False w w' := by
  refine Ok_of_W 9 Tryz.func98 rfl rfl rfl ?_
  have hX : Ext False w w := Bel.refl _ _
  refine W_seq ?_
  refine W_region ?_
  refine Rg_run rfl o_assignc ?_
  refine Rg_nil ?_
  refine W_seq ?_
  refine W_region ?_
  refine Rg_run rfl (o_moveh (v := .int _ _) rfl) ?_
  refine Rg_run rfl (o_geq rfl rfl) ?_
  refine Rg_run rfl (o_moveh (v := .bool _) rfl) ?_
  refine Rg_may 2 5 rfl rfl rfl (fun hg => (o_moveh (v := .int _ _) rfl)) ?_
  refine Rg_may 2 5 rfl rfl rfl (fun hg => (o_leq (gsel (u := undef) hg) rfl)) ?_
  refine Rg_run rfl (o_and (u := undef) rfl rfl) ?_
  refine Rg_run rfl (o_assignh (v := .bool _) rfl) ?_
  refine Rg_nil ?_
  refine W_ret ?_
  refine ⟨_, res_tmp rfl rfl, ?_⟩
  refine ⟨congrArg Value.bool ?_, hX⟩
  all_goals (rfl)

theorem opairs_ok (w : World) (po : Nat) (o : OV) (Fo : Nat → Prop) (ho : OdAt Fo w po o) (hn : o.pairs.length ≤ 1000000) : Ok Tryz.prog 145 #[.pointer (some ⟨po, 0, none⟩)] w fun v w' => Own encPr 2 99 (Fsh w w') w' v o.pairs ∧ Ext False w w' := by
  replace ho := ho.mono (F' := fun g => Fo g ∧ g < w.heap.size) (fun g h1 h2 => ⟨h2, h1⟩)
  have hoa := ho.at'
  have hol := ho.lt
  refine Ok_of_W 10 Tryz.func145 rfl rfl rfl ?_
  have hX : Ext False w w := Bel.refl _ _
  refine W_seq ?_
  refine W_region ?_
  refine Rg_run rfl o_assignc ?_
  refine Rg_nil ?_
  refine W_seq ?_
  refine W_seq ?_
  refine W_region ?_
  refine Rg_run rfl (o_moveh (v := .pointer _) rfl) ?_
  refine Rg_run rfl (o_peq Tryz.underlying143 rfl rfl) ?_
  refine Rg_nil ?_
  refine W_cond_false rfl ?_
  refine W_skip ?_
  refine W_seq ?_
  refine W_region ?_
  refine Rg_run rfl (o_moveh (v := .pointer _) rfl) ?_
  refine Rg_run rfl (o_nilc rfl) ?_
  refine Rg_run rfl (o_fa Tryz.underlying186 rfl Tryz.sizeOf30 rfl) ?_
  refine Rg_run rfl (o_load1 Tryz.isAgg30 rfl (hoa.get 1 rfl)) ?_
  refine Rg_enter rfl (o_call1 Tryz.call170 rfl) (Ok.mono (pclone_ok _ _ _ (ho.pr.trd.top) hn) ?_)
  rintro v9 w1 ⟨hown9, x2⟩
  have z3 := Bel.size x2
  replace hX := Bel.ex hX x2
  replace hown9 := hown9.mono (D' := fun g => w.heap.size ≤ g) (fun g h1 h2 => by omega)
  refine Rg_run rfl (o_assignh (v := v9) rfl) ?_
  refine Rg_nil ?_
  refine W_ret ?_
  refine ⟨_, res_tmp rfl rfl, ?_⟩
  exact ⟨hown9.mono (fun g h1 h2 => ⟨by omega, by omega⟩), hX⟩

end Go.Proofs.YtndlnfdaeipifaaGreatDoor
