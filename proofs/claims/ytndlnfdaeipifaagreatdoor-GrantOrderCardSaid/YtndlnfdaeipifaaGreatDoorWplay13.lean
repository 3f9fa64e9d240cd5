/- Walks, printed by program: each theorem says what a function of the translation returns. -/
import Derived.Test.YtndlnfdaeipifaaGreatDoorWref13
import Derived.Test.YtndlnfdaeipifaaGreatDoorWlaw11a
namespace Go.Proofs.YtndlnfdaeipifaaGreatDoor
open Go Go.Lx Go.RowKit
set_option maxRecDepth 100000
set_option linter.unusedVariables false
set_option linter.unusedSimpArgs false
set_option linter.unnecessarySimpa false
theorem lrole_ok (w : World) (n : UInt8) : Ok Tryz.prog 19 #[.int .u8 (n.toNat : Int)] w fun v w' => v = .int .i64 (roleN n) ∧ Ext False w w' := by
  have hn := n.toNat_lt
  refine Ok_of_W 14 Tryz.func19 rfl rfl rfl ?_
  have hX : Ext False w w := Bel.refl _ _
  refine W_seq ?_
  refine W_region ?_
  refine Rg_run rfl o_assignc ?_
  refine Rg_nil ?_
  refine W_seq ?_
  refine W_seq ?_
  refine W_region ?_
  refine Rg_run rfl (o_moveh (v := .int _ _) rfl) ?_
  refine Rg_run rfl (o_geq rfl rfl) ?_
  refine Rg_nil ?_
  refine W_cond rfl (fun hc1 => ?_) (fun hc1 => ?_)
  · skip
    have h25 : 250 ≤ n.toNat := by have := of_decide_eq_true hc1; omega
    refine W_seq ?_
    refine W_region ?_
    refine Rg_bs (vs := [.int _ _, .int _ _, .int _ _, .int _ _, .int _ _, .int _ _]) (roleL) rfl encJ_ok el_int rfl rfl ⟨rfl, ⟨rfl, ⟨rfl, ⟨rfl, ⟨rfl, ⟨rfl, trivial⟩⟩⟩⟩⟩⟩ rfl rfl rfl rfl ?_
    intro a5 w1 x2 hown5
    replace hX := Bel.ex hX x2
    refine Rg_run rfl (o_moveh (v := .int _ _) rfl) ?_
    refine Rg_run rfl (o_subU8 (a := n.toNat) (b := 250) rfl rfl (by omega)) ?_
    refine Rg_run rfl (o_iaO (i := n.toNat - 250) Tryz.underlying107 Tryz.sizeOf3 hown5 rfl rfl (show _ < 6 by omega)) ?_
    refine Rg_run rfl (o_ldR Tryz.isAgg3 (hown5.slA encJ_ok) rfl rfl (getE 0 (show _ < 6 by omega)) rfl) ?_
    refine Rg_run rfl (o_assignh (v := .int _ _) rfl) ?_
    refine Rg_nil ?_
    refine W_ret ?_
    refine ⟨_, res_tmp rfl rfl, ?_⟩
    refine ⟨congrArg (Value.int .i64) ?_, hX⟩
    all_goals (rw [roleN, if_pos h25])
  · skip
    have h25 : ¬ 250 ≤ n.toNat := by have := of_decide_eq_false hc1; omega
    refine W_skip ?_
    refine W_seq ?_
    refine W_region ?_
    refine Rg_run rfl (o_moveh (v := .int _ _) rfl) ?_
    refine Rg_run rfl (o_remU (a := n.toNat) (b := 6) rfl rfl (by decide)) ?_
    refine Rg_run rfl (o_convS Tryz.underlying5 Tryz.underlying3 rfl (wrap_in (by unfold I64; omega))) ?_
    refine Rg_run rfl (o_add rfl rfl (by unfold I64; omega)) ?_
    refine Rg_run rfl (o_assignh (v := .int _ _) rfl) ?_
    refine Rg_nil ?_
    refine W_ret ?_
    refine ⟨_, res_tmp rfl rfl, ?_⟩
    refine ⟨congrArg (Value.int .i64) ?_, hX⟩
    all_goals (rw [roleN, if_neg h25])

end Go.Proofs.YtndlnfdaeipifaaGreatDoor
