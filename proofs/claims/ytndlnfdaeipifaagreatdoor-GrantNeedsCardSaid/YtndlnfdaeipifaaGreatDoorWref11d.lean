/- Walks, printed by program: each theorem says what a function of the translation returns. -/
import Derived.Test.YtndlnfdaeipifaaGreatDoorWref11c
namespace Go.Proofs.YtndlnfdaeipifaaGreatDoor
open Go Go.Lx Go.RowKit
set_option maxRecDepth 100000
set_option linter.unusedVariables false
set_option linter.unusedSimpArgs false
set_option linter.unnecessarySimpa false
theorem rnormal_ok (w : World) (vl : Value) (l : List Perm) (hl : Rd encP 3 (Lt w.heap.size) w vl l) (nl : l.length ≤ 1000000) (ol : ∀ p ∈ l, (Perm.ok) p) : Ok Tryz.prog 78 #[vl] w fun v w' => Rd encP 3 (Lt w'.heap.size) w' v (normS l) ∧ Ext False w w' := by
  obtain ⟨al, cl, rfl, hl⟩ := hl; have ml := hl.len
  refine Ok_of_W 39 Tryz.func78 rfl rfl rfl ?_
  have hX : Ext False w w := Bel.refl _ _
  refine W_seq ?_
  refine W_region ?_
  refine Rg_run rfl o_assignc ?_
  refine Rg_nil ?_
  refine W_seq ?_
  refine W_region ?_
  refine Rg_run rfl o_assignc ?_
  refine Rg_nil ?_
  refine W_seq ?_
  refine W_seq ?_
  refine W_region ?_
  refine Rg_run rfl (o_moveh (v := .slice _ _ _) rfl) ?_
  refine Rg_run rfl (o_llen Tryz.underlying39 rfl) ?_
  refine Rg_run rfl o_movec ?_
  refine Rg_nil ?_
  refine W_block ?_
  refine W_for (α := Nat × Value) [(3, 3), (5, 6), (8, 8), (11, 37)] (fun q => [(11, .int .i64 (q.1 : Int)), (3, q.2)]) (fun q w' => (q.1 ≤ l.length) ∧ Ext False w w' ∧ (Rd encP 3 (Lt w'.heap.size) w' q.2 (normAt l q.1))) (fun q => l.length - q.1) (0, .slice none 0 0) ⟨rfl, rfl, trivial⟩ ⟨Nat.zero_le _, Bel.refl _ _, Rd.none⟩ ?_
  rintro ⟨k, u⟩ fb3 w2 ⟨hk, hXL1, hrd⟩
  dsimp only at *
  replace hX := Bel.ex hX hXL1
  replace hl := hl.ext hXL1
  refine W_seq ?_
  refine W_region ?_
  refine Rg_run rfl (o_lss rfl rfl) ?_
  refine Rg_nil ?_
  refine W_seq ?_
  refine W_cond rfl (fun hc1 => ?_) (fun hc1 => ?_)
  · skip
    replace hc1 := of_decide_eq_true hc1
    refine W_skip ?_
    refine W_seq ?_
    refine W_block ?_
    refine W_seq ?_
    refine W_region ?_
    refine Rg_run rfl (o_iaR Tryz.underlying39 Tryz.sizeOf41 hl rfl rfl (by first | omega | (unfold I64; omega) | (simp; done) | (simp; omega) | (simp at *; omega))) ?_
    refine Rg_run rfl (o_ldRS Tryz.isAgg41 Tryz.sizeOf41 hl rfl (getE pz (by omega))) ?_
    refine Rg_alst rfl rfl Tryz.zeroValue41 rfl Tryz.sizeOf41 (fun _ => rfl) rfl rfl ?_
    intro b5 w4 x5 hge5 hb5
    change Box _ _ _ (encP _) at hb5
    replace hX := Bel.ex hX x5
    replace hXL1 := Bel.ex hXL1 x5
    replace hl := hl.ext x5
    replace hrd := hrd.ext x5
    refine Rg_nil ?_
    refine W_seq ?_
    refine W_region ?_
    refine Rg_run rfl (o_loadS Tryz.isAgg41 Tryz.sizeOf41 rfl hb5.at rfl) ?_
    refine Rg_enter rfl (o_call1 Tryz.call101 rfl) (Ok.mono (rcheck_ok _ _ (ol _ (getD_mem (by omega)))) ?_)
    rintro _ w6 ⟨rfl, x7⟩
    replace hX := Bel.ex hX x7
    replace hXL1 := Bel.ex hXL1 x7
    replace hl := hl.ext x7
    replace hrd := hrd.ext x7
    replace hb5 := hb5.ext x7
    refine Rg_run rfl (o_eql rfl rfl) ?_
    refine Rg_run rfl (o_assignh (v := .bool _) rfl) ?_
    refine Rg_nil ?_
    refine W_seq ?_
    refine W_seq ?_
    refine W_region ?_
    refine Rg_run rfl (o_moveh (v := .slice _ _ _) rfl) ?_
    refine Rg_run rfl (o_llen Tryz.underlying39 rfl) ?_
    refine Rg_run rfl o_movec ?_
    refine Rg_nil ?_
    refine W_block ?_
    refine W_for (α := Nat) [(6, 6), (8, 8), (20, 32)] (fun j => [(20, .int .i64 (j : Int)), (6, .bool (keepAt l (l.getD k pz) j))]) (fun j w' => (j ≤ l.length) ∧ Ext False w6 w') (fun j => l.length - j) 0 ⟨rfl, (congrArg Value.bool (keepAt_0 _ _).symm), trivial⟩ ⟨Nat.zero_le _, Bel.refl _ _⟩ ?_
    rintro j fb10 w9 ⟨hj, hXL8⟩
    replace hX := Bel.ex hX hXL8
    replace hXL1 := Bel.ex hXL1 hXL8
    replace hl := hl.ext hXL8
    replace hrd := hrd.ext hXL8
    replace hb5 := hb5.ext hXL8
    refine W_seq ?_
    refine W_region ?_
    refine Rg_run rfl (o_lss rfl rfl) ?_
    refine Rg_nil ?_
    refine W_seq ?_
    refine W_cond rfl (fun hc2 => ?_) (fun hc2 => ?_)
    · skip
      replace hc2 := of_decide_eq_true hc2
      refine W_skip ?_
      refine W_seq ?_
      refine W_block ?_
      refine W_seq ?_
      refine W_region ?_
      refine Rg_run rfl (o_iaR Tryz.underlying39 Tryz.sizeOf41 hl rfl rfl (by first | omega | (unfold I64; omega) | (simp; done) | (simp; omega) | (simp at *; omega))) ?_
      refine Rg_run rfl (o_ldRS Tryz.isAgg41 Tryz.sizeOf41 hl rfl (getE pz (by omega))) ?_
      refine Rg_alst rfl rfl Tryz.zeroValue41 rfl Tryz.sizeOf41 (fun _ => rfl) rfl rfl ?_
      intro b8 w11 x12 hge8 hb8
      change Box _ _ _ (encP _) at hb8
      replace hX := Bel.ex hX x12
      replace hXL1 := Bel.ex hXL1 x12
      replace hXL8 := Bel.ex hXL8 x12
      replace hb5 := hb5.ext x12
      refine Rg_nil ?_
      refine W_seq ?_
      refine W_region ?_
      refine Rg_run rfl (o_loadS Tryz.isAgg41 Tryz.sizeOf41 rfl hb8.at rfl) ?_
      refine Rg_run rfl (o_loadS Tryz.isAgg41 Tryz.sizeOf41 rfl hb5.at rfl) ?_
      refine Rg_run rfl (o_tneq eq_rperm rfl rfl) ?_
      refine Rg_run rfl (o_moveh (v := .bool _) rfl) ?_
      refine Rg_may 3 27 rfl rfl rfl (fun hg => (o_loadS Tryz.isAgg41 Tryz.sizeOf41 rfl hb8.at rfl)) ?_
      refine Rg_may 3 27 rfl rfl rfl (fun hg => (o_loadS Tryz.isAgg41 Tryz.sizeOf41 rfl hb5.at rfl)) ?_
      refine Rg_mayCall 3 27 rfl rfl rfl (fun hg => ⟨(o_call2 Tryz.call56 (gsel (u := undef) hg) (gsel (u := undef) hg)), rimplies_ok _ _ (ol _ (getD_mem (by omega))) _ (ol _ (getD_mem (by omega)))⟩) ?_
      intro w13 x14
      replace hX := Bel.ex hX x14
      replace hXL1 := Bel.ex hXL1 x14
      replace hXL8 := Bel.ex hXL8 x14
      refine Rg_run rfl (o_and (u := undef) rfl rfl) ?_
      refine Rg_nil ?_
      refine W_cond rfl (fun hc3 => ?_) (fun hc3 => ?_)
      · skip
        refine W_region ?_
        refine Rg_run rfl o_assignc ?_
        refine Rg_nil ?_
        refine W_region ?_
        refine Rg_run rfl (o_add rfl rfl (by first | omega | (unfold I64; omega) | (simp; done) | (simp; omega) | (simp at *; omega))) ?_
        refine Rg_run rfl (o_moveh (v := .int _ _) rfl) ?_
        refine Rg_nil ?_
        refine ⟨j + 1, ⟨?_, ?_, trivial⟩, ?_, ⟨?_, hXL8⟩, ?_⟩
        · first | rfl | (go_num) | (exact congrArg _ (by omega))
        · first | exact congrArg Value.bool (keepAt_no (by omega) hc3).symm | exact congrArg Value.bool (keepAt_yes (by omega) hc3).symm
        · repeat (first | exact off_refl _ _ | exact off_mix | refine off_put rfl ?_ | refine off_putN ?_ | refine off_setL rfl ?_ | refine off_mix' rfl ?_)
        · show j + 1 ≤ l.length; omega
        · omega
      · skip
        refine W_skip ?_
        refine W_region ?_
        refine Rg_run rfl (o_add rfl rfl (by first | omega | (unfold I64; omega) | (simp; done) | (simp; omega) | (simp at *; omega))) ?_
        refine Rg_run rfl (o_moveh (v := .int _ _) rfl) ?_
        refine Rg_nil ?_
        refine ⟨j + 1, ⟨?_, ?_, trivial⟩, ?_, ⟨?_, hXL8⟩, ?_⟩
        · first | rfl | (go_num) | (exact congrArg _ (by omega))
        · first | exact congrArg Value.bool (keepAt_no (by omega) hc3).symm | exact congrArg Value.bool (keepAt_yes (by omega) hc3).symm
        · repeat (first | exact off_refl _ _ | exact off_mix | refine off_put rfl ?_ | refine off_putN ?_ | refine off_setL rfl ?_ | refine off_mix' rfl ?_)
        · show j + 1 ≤ l.length; omega
        · omega
    · skip
      replace hc2 := of_decide_eq_false hc2; rw [keepAt_end (by omega)]
      refine W_exit ?_
      refine exAt_hit ?_
      refine W_seq ?_
      refine W_region ?_
      refine Rg_run rfl (o_moveh (v := .bool _) rfl) ?_
      refine Rg_nil ?_
      refine W_cond rfl (fun hc4 => ?_) (fun hc4 => ?_)
      · skip
        refine W_region ?_
        refine Rg_run rfl (o_moveh (v := u) rfl) ?_
        refine Rg_run rfl (o_loadS Tryz.isAgg41 Tryz.sizeOf41 rfl hb5.at rfl) ?_
        refine Rg_enter rfl (o_call2 Tryz.call127 rfl rfl) (Ok.mono (rinsert_ok _ _ _ hrd.top (by have := normAt_len l k; omega) (fun p hp => ol p (normAt_mem hp)) _ (ol _ (getD_mem (by omega)))) ?_)
        rintro v36 w15 ⟨hrd36, x16⟩
        replace hX := Bel.ex hX x16
        replace hXL1 := Bel.ex hXL1 x16
        refine Rg_run rfl (o_assignh (v := v36) rfl) ?_
        refine Rg_nil ?_
        refine W_region ?_
        refine Rg_run rfl (o_add rfl rfl (by first | omega | (unfold I64; omega) | (simp; done) | (simp; omega) | (simp at *; omega))) ?_
        refine Rg_run rfl (o_moveh (v := .int _ _) rfl) ?_
        refine Rg_nil ?_
        refine ⟨(k + 1, v36), ⟨?_, ?_, trivial⟩, ?_, ⟨?_, hXL1, ?_⟩, ?_⟩
        · first | rfl | (go_num) | (exact congrArg _ (by omega))
        · first | rfl | (go_num) | (exact congrArg _ (by omega))
        · repeat (first | exact off_refl _ _ | exact off_mix | refine off_put rfl ?_ | refine off_putN ?_ | refine off_setL rfl ?_ | refine off_mix' rfl ?_)
        · show k + 1 ≤ l.length; omega
        · show Rd _ _ _ _ _ (normAt l (k + 1)); rw [normAt_yes (by omega) hc4]; exact hrd36.top
        · show l.length - (k + 1) < l.length - k; omega
      · skip
        refine W_skip ?_
        refine W_region ?_
        refine Rg_run rfl (o_add rfl rfl (by first | omega | (unfold I64; omega) | (simp; done) | (simp; omega) | (simp at *; omega))) ?_
        refine Rg_run rfl (o_moveh (v := .int _ _) rfl) ?_
        refine Rg_nil ?_
        refine ⟨(k + 1, u), ⟨?_, ?_, trivial⟩, ?_, ⟨?_, hXL1, ?_⟩, ?_⟩
        · first | rfl | (go_num) | (exact congrArg _ (by omega))
        · first | rfl | (go_num) | (exact congrArg _ (by omega))
        · repeat (first | exact off_refl _ _ | exact off_mix | refine off_put rfl ?_ | refine off_putN ?_ | refine off_setL rfl ?_ | refine off_mix' rfl ?_)
        · show k + 1 ≤ l.length; omega
        · show Rd _ _ _ _ _ (normAt l (k + 1)); rw [normAt_no (by omega) hc4]; exact hrd.top
        · show l.length - (k + 1) < l.length - k; omega
  · skip
    replace hc1 := of_decide_eq_false hc1
    refine W_exit ?_
    refine exAt_hit ?_
    refine W_seq ?_
    refine W_region ?_
    refine Rg_run rfl (o_moveh (v := u) rfl) ?_
    refine Rg_run rfl (o_assignh (v := u) rfl) ?_
    refine Rg_nil ?_
    refine W_ret ?_
    refine ⟨_, res_tmp rfl rfl, ?_⟩
    rw [normAt_end (by omega)] at hrd; exact ⟨hrd.top, hX⟩

end Go.Proofs.YtndlnfdaeipifaaGreatDoor
