/- Walks, printed by program: each theorem says what a function of the translation returns. -/
import Derived.Test.YtncmjgmlnnenhaaGreatDoorWref11b
namespace Go.Proofs.YtncmjgmlnnenhaaGreatDoor
open Go Go.Lx Go.RowKit
set_option maxRecDepth 100000
set_option linter.unusedVariables false
set_option linter.unusedSimpArgs false
set_option linter.unnecessarySimpa false
theorem raction_ok (β : Prop) (w : World) (n : UInt8) : Ok Tryz.prog 106 #[.int .u8 (n.toNat : Int)] w fun v w' => v = str (actionS n) ∧ Ext β w w' := by
  refine Ok_of_W 13 Tryz.func106 rfl rfl rfl ?_
  have hX : Ext β w w := Bel.refl _ _
  refine W_seq (W_region ?_)
  refine Rg_run rfl o_assignc ?_
  refine Rg_nil (W_seq (W_region ?_))
  refine Rg_bs (vs := [str _, str _, str _, str _, str _, str _, str _, str _, str _, str _]) (actions) rfl encS_ok el_string rfl rfl ⟨rfl, ⟨rfl, ⟨rfl, ⟨rfl, ⟨rfl, ⟨rfl, ⟨rfl, ⟨rfl, ⟨rfl, ⟨rfl, trivial⟩⟩⟩⟩⟩⟩⟩⟩⟩⟩ rfl rfl rfl rfl ?_
  intro a4 w1 x2 hown4
  have z3 := Bel.size x2
  replace hX := Bel.ex hX x2
  replace hown4 := hown4.mono (D' := fun g => w.heap.size ≤ g) (fun g h1 h2 => by omega)
  refine Rg_run rfl (o_assignh (v := .slice _ _ _) rfl) ?_
  refine Rg_nil (W_seq (W_region ?_))
  refine Rg_run rfl (o_moveh (v := .slice _ _ _) rfl) ?_
  refine Rg_run rfl (o_moveh (v := .int _ _) rfl) ?_
  refine Rg_run rfl (o_convS Tryz.underlying5 Tryz.underlying3 rfl (wrapB n)) ?_
  refine Rg_run rfl (o_moveh (v := .slice _ _ _) rfl) ?_
  refine Rg_run rfl (o_llen Tryz.underlying206 rfl) ?_
  refine Rg_run rfl (o_remN (a := n.toNat) (b := 10) rfl rfl (by decide) (by have := n.toNat_lt; omega)) ?_
  refine Rg_run rfl (o_iaO (i := n.toNat % 10) Tryz.underlying206 Tryz.sizeOf9 hown4 rfl rfl (Nat.mod_lt _ (by decide))) ?_
  refine Rg_run rfl (o_ldR Tryz.isAgg9 (hown4.slA encS_ok) rfl rfl (getE [] (Nat.mod_lt _ (by decide))) rfl) ?_
  refine Rg_run rfl (o_assignh (v := str _) rfl) ?_
  refine Rg_nil (W_ret ?_)
  refine ⟨_, res_tmp rfl rfl, ?_⟩
  refine ⟨congrArg str ?_, hX⟩
  all_goals (rfl)

theorem rpath_ok (w : World) (vl : Value) (l : List UInt8) (hl : Rd encB 1 (Lt w.heap.size) w vl l) : Ok Tryz.prog 107 #[vl] w fun v w' => v = str (pathS l) ∧ Ext False w w' := by
  obtain ⟨al, cl, rfl, hl⟩ := hl; have ml := hl.len
  refine Ok_of_W 33 Tryz.func107 rfl rfl rfl ?_
  have hX : Ext False w w := Bel.refl _ _
  refine W_seq (W_region ?_)
  refine Rg_run rfl o_assignc ?_
  refine Rg_nil (W_seq (W_region ?_))
  refine Rg_bs (vs := [str _, str _, str _, str _, str _, str _, str _, str _, str _, str _, str _, str _, str _, str _]) (pieces) rfl encS_ok el_string rfl rfl ⟨rfl, ⟨rfl, ⟨rfl, ⟨rfl, ⟨rfl, ⟨rfl, ⟨rfl, ⟨rfl, ⟨rfl, ⟨rfl, ⟨rfl, ⟨rfl, ⟨rfl, ⟨rfl, trivial⟩⟩⟩⟩⟩⟩⟩⟩⟩⟩⟩⟩⟩⟩ rfl rfl rfl rfl ?_
  intro a6 w1 x2 hown6
  have z3 := Bel.size x2
  replace hX := Bel.ex hX x2
  replace hl := hl.ext x2
  refine Rg_run rfl (o_assignh (v := .slice _ _ _) rfl) ?_
  refine Rg_nil (W_seq (W_region ?_))
  refine Rg_run rfl o_assignc ?_
  refine Rg_nil (W_seq (W_seq (W_region ?_)))
  refine Rg_run rfl o_assignc ?_
  refine Rg_nil (W_block ?_)
  refine W_for (α := Nat × Value) [(4, 5), (7, 30)] (fun q => [(5, .int .i64 (q.1 : Int)), (4, q.2)]) (fun q w' => (q.1 ≤ l.length ∧ q.1 ≤ 10) ∧ Bel False (fun g => w1.heap.size ≤ g) w1 w' ∧ (Own encS 1 9 (fun g => w1.heap.size ≤ g) w' q.2 ((l.take q.1).map pieceS))) (fun q => l.length - q.1) (0, .slice none 0 0) ⟨rfl, rfl, trivial⟩ ⟨⟨Nat.zero_le _, Nat.zero_le _⟩, Bel.refl _ _, Own.nil _ _⟩ ?_
  rintro ⟨k, u⟩ fb6 w5 ⟨⟨hk, hk2⟩, hXL4, hown⟩
  dsimp only at *
  have z7 := Bel.size hXL4
  replace hX := Bel.out hX hXL4 (fun g h1 h2 => by first | exact h2 | omega)
  replace hl := hl.keep hXL4 (fun g h1 h2 h3 => by omega)
  replace hown6 := hown6.keepD hXL4 (fun g h1 h2 h3 => by omega)
  refine W_seq (W_seq (W_region ?_))
  refine Rg_run rfl (o_moveh (v := .int _ _) rfl) ?_
  refine Rg_run rfl (o_moveh (v := .slice _ _ _) rfl) ?_
  refine Rg_run rfl (o_llen Tryz.underlying30 rfl) ?_
  refine Rg_run rfl (o_lss rfl rfl) ?_
  refine Rg_run rfl (o_moveh (v := .bool _) rfl) ?_
  refine Rg_may 4 11 rfl rfl rfl (fun hg => (o_moveh (v := .int _ _) rfl)) ?_
  refine Rg_may 4 11 rfl rfl rfl (fun hg => (o_lss (gsel (u := undef) hg) rfl)) ?_
  refine Rg_run rfl (o_and (u := undef) rfl rfl) ?_
  refine Rg_nil ?_
  refine W_cond rfl (fun hc1 => ?_) (fun hc1 => ?_)
  · skip
    have hlt : k < l.length ∧ k < 10 := by simp at hc1; omega
    refine W_skip (W_seq (W_block (W_region ?_)))
    refine Rg_run rfl (o_moveh (v := u) rfl) ?_
    refine Rg_run rfl (o_moveh (v := .slice _ _ _) rfl) ?_
    refine Rg_run rfl (o_moveh (v := .slice _ _ _) rfl) ?_
    refine Rg_run rfl (o_moveh (v := .int _ _) rfl) ?_
    refine Rg_run rfl (o_iaR Tryz.underlying30 Tryz.sizeOf5 hl rfl rfl (by first | omega | (unfold I64; omega) | (simp; done) | (simp; omega) | (simp at *; omega))) ?_
    refine Rg_run rfl (o_ldR Tryz.isAgg5 hl rfl rfl (getE 0 (by omega)) rfl) ?_
    refine Rg_run rfl (o_convS Tryz.underlying5 Tryz.underlying3 rfl (wrapB _)) ?_
    refine Rg_run rfl (o_moveh (v := .slice _ _ _) rfl) ?_
    refine Rg_run rfl (o_llen Tryz.underlying206 rfl) ?_
    refine Rg_run rfl (o_remN (a := (l.getD k 0).toNat) (b := 14) rfl rfl (by decide) (by have := (l.getD k 0).toNat_lt; omega)) ?_
    refine Rg_run rfl (o_iaO (i := (l.getD k 0).toNat % 14) Tryz.underlying206 Tryz.sizeOf9 hown6 rfl rfl (Nat.mod_lt _ (by decide))) ?_
    refine Rg_run rfl (o_ldR Tryz.isAgg9 (hown6.slA encS_ok) rfl rfl (getE [] (Nat.mod_lt _ (by decide))) rfl) ?_
    refine Rg_bs (vs := [str _]) ([pieceS (l.getD k 0)]) rfl encS_ok el_string rfl rfl ⟨rfl, trivial⟩ rfl rfl rfl rfl ?_
    intro a29 w8 x9 hown29
    have z10 := Bel.size x9
    replace hX := Bel.ex hX x9
    replace hXL4 := Bel.ex hXL4 x9
    replace hown := hown.ext x9
    replace hown29 := hown29.mono (D' := fun g => w1.heap.size ≤ g) (fun g h1 h2 => by omega)
    refine Rg_app rfl encS_ok el_string rfl rfl hown (hown29.slA encS_ok) rfl (by simp; omega) (fun g h => by omega) ?_
    intro v30 w11 x12 hown
    have z13 := Bel.size x12
    replace hX := Bel.out hX x12 (fun g h1 h2 => by first | exact h2 | omega)
    replace hXL4 := Bel.out hXL4 x12 (fun g h1 h2 => by first | exact h2 | omega)
    refine Rg_run rfl (o_assignh (v := v30) rfl) ?_
    refine Rg_nil (W_region ?_)
    refine Rg_run rfl (o_moveh (v := .int _ _) rfl) ?_
    refine Rg_run rfl (o_add rfl rfl (by unfold I64; omega)) ?_
    refine Rg_run rfl (o_assignh (v := .int _ _) rfl) ?_
    refine Rg_nil ?_
    refine ⟨(k + 1, v30), ⟨?_, ?_, trivial⟩, ?_, ⟨?_, hXL4, ?_⟩, ?_⟩
    · first | rfl | (go_num) | (exact congrArg _ (by omega))
    · first | rfl | (go_num) | (exact congrArg _ (by omega))
    · repeat (first | exact off_refl _ _ | exact off_mix | refine off_put rfl ?_ | refine off_putN ?_ | refine off_setL rfl ?_ | refine off_mix' rfl ?_)
    · exact ⟨by omega, by omega⟩
    · rw [map_take1 (by omega)]; exact hown
    · show l.length - (k + 1) < l.length - k; omega
  have hge : ¬ (k < l.length ∧ k < 10) := by simp at hc1; omega
  refine W_exit (exAt_hit (W_seq (W_region ?_)))
  refine Rg_run rfl (o_moveh (v := u) rfl) ?_
  refine Rg_enter rfl (o_call1 Tryz.call147 rfl) (Ok.mono (rjoin_ok (False) _ _ _ (hown.trd encS_ok) (by simp; omega) (fun p hp => piece_mem hp) (by rw [← path_end hk hk2 hge]; have := pathS_len l; omega)) ?_)
  rintro _ w14 ⟨rfl, x15⟩
  have z16 := Bel.size x15
  replace hX := Bel.ex hX x15
  replace hl := hl.ext x15
  replace hown6 := hown6.ext x15
  replace hown := hown.ext x15
  refine Rg_run rfl (o_assignh (v := str _) rfl) ?_
  refine Rg_nil (W_ret ?_)
  refine ⟨_, res_tmp rfl rfl, ?_⟩
  refine ⟨congrArg str ?_, hX⟩
  all_goals (exact (path_end hk hk2 hge).symm)

end Go.Proofs.YtncmjgmlnnenhaaGreatDoor
