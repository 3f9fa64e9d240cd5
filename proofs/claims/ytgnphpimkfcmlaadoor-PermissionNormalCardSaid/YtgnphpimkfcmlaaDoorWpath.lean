/- Walks, printed by program: each theorem says what a function of the translation returns. -/
import Derived.Test.YtgnphpimkfcmlaaDoorExt
namespace Go.Proofs.YtgnphpimkfcmlaaDoor
open Go Go.Lx Go.RowKit
set_option maxRecDepth 100000
set_option linter.unusedVariables false
set_option linter.unusedSimpArgs false
set_option linter.unnecessarySimpa false
theorem named_ok (β : Prop) (l : Str) (hl : l.length ≤ 4611686018427387904) (w : World) : Ok Tryd.prog 81 #[str l] w fun v w' => v = .bool (namedS l) ∧ Ext β w w' := by
  refine Ok_of_W 56 Tryd.func81 rfl rfl rfl ?_
  have hX : Ext β w w := Bel.refl _ _
  refine W_seq ?_
  refine W_region ?_
  refine Rg_run rfl o_assignc ?_
  refine Rg_nil ?_
  refine W_seq ?_
  refine W_seq ?_
  refine W_region ?_
  refine Rg_run rfl (o_moveh (v := str _) rfl) ?_
  refine Rg_run rfl (o_slen Tryd.underlying9 rfl) ?_
  refine Rg_run rfl (o_lss rfl rfl) ?_
  refine Rg_run rfl (o_moveh (v := .bool _) rfl) ?_
  refine Rg_may 3 8 rfl rfl rfl (fun hg => (o_moveh (v := str _) rfl)) ?_
  refine Rg_may 3 8 rfl rfl rfl (fun hg => (o_slen Tryd.underlying9 (gsel (u := undef) hg))) ?_
  refine Rg_may 3 8 rfl rfl rfl (fun hg => (o_gtr (gsel (u := undef) hg) rfl)) ?_
  refine Rg_run rfl (o_or (u := undef) rfl rfl) ?_
  refine Rg_run rfl (o_moveh (v := .bool _) rfl) ?_
  refine Rg_may 8 13 rfl rfl rfl (fun hg => (o_moveh (v := str _) rfl)) ?_
  refine Rg_may 8 13 rfl rfl rfl (fun hg => (o_seql (gsel (u := undef) hg) rfl)) ?_
  refine Rg_run rfl (o_or (u := undef) rfl rfl) ?_
  refine Rg_run rfl (o_moveh (v := .bool _) rfl) ?_
  refine Rg_may 12 17 rfl rfl rfl (fun hg => (o_moveh (v := str _) rfl)) ?_
  refine Rg_may 12 17 rfl rfl rfl (fun hg => (o_seql (gsel (u := undef) hg) rfl)) ?_
  refine Rg_run rfl (o_or (u := undef) rfl rfl) ?_
  refine Rg_nil ?_
  refine W_cond rfl (fun hc1 => ?_) (fun hc1 => ?_)
  · skip
    first | replace hc1 := of_decide_eq_true hc1 | replace hc1 := bnot_t hc1 | skip
    refine W_seq ?_
    refine W_region ?_
    refine Rg_run rfl o_assignc ?_
    refine Rg_nil ?_
    refine W_ret ?_
    refine ⟨_, res_tmp rfl rfl, ?_⟩
    refine ⟨congrArg Value.bool ?_, hX⟩
    all_goals (simp only [namedS]; rw [hc1]; rfl)
  · skip
    first | replace hc1 := of_decide_eq_false hc1 | replace hc1 := bnot_f hc1 | skip
    refine W_skip ?_
    refine W_seq ?_
    refine W_seq ?_
    refine W_region ?_
    refine Rg_run rfl (o_moveh (v := str _) rfl) ?_
    refine Rg_run rfl (o_slen Tryd.underlying9 rfl) ?_
    refine Rg_run rfl o_movec ?_
    refine Rg_nil ?_
    refine W_block ?_
    refine W_for (α := Nat) [(2, 4), (23, 55)] (fun k => [(23, .int .i64 (k : Int))]) (fun k w' => (k ≤ l.length ∧ (l.take k).all nameB = true) ∧ Ext β w w') (fun k => l.length - k) 0 ⟨rfl, trivial⟩ ⟨⟨by omega, by simp⟩, Bel.refl _ _⟩ ?_
    rintro k fb3 w2 ⟨⟨hk, hall⟩, hXL1⟩
    replace hX := Bel.ex hX hXL1
    refine W_seq ?_
    refine W_region ?_
    refine Rg_run rfl (o_lss rfl rfl) ?_
    refine Rg_nil ?_
    refine W_seq ?_
    refine W_cond rfl (fun hc2 => ?_) (fun hc2 => ?_)
    · skip
      first | replace hc2 := of_decide_eq_true hc2 | replace hc2 := bnot_t hc2 | skip
      refine W_skip ?_
      refine W_seq ?_
      refine W_block ?_
      refine W_seq ?_
      refine W_region ?_
      refine Rg_run rfl (o_moveh (v := .int _ _) rfl) ?_
      refine Rg_run rfl (o_assignh (v := .int _ _) rfl) ?_
      refine Rg_nil ?_
      refine W_seq ?_
      refine W_region ?_
      refine Rg_run rfl (o_moveh (v := str _) rfl) ?_
      refine Rg_run rfl (o_moveh (v := .int _ _) rfl) ?_
      refine Rg_run rfl (o_sidx Tryd.underlying9 rfl rfl (by first | omega | (unfold I64; omega) | (simp; done) | (simp; omega) | (simp at *; omega))) ?_
      refine Rg_run rfl (o_assignh (v := .int _ _) rfl) ?_
      refine Rg_nil ?_
      refine W_seq ?_
      refine W_region ?_
      refine Rg_run rfl (o_moveh (v := .int _ _) rfl) ?_
      refine Rg_run rfl (o_lss rfl rfl) ?_
      refine Rg_run rfl (o_moveh (v := .bool _) rfl) ?_
      refine Rg_may 2 31 rfl rfl rfl (fun hg => (o_moveh (v := .int _ _) rfl)) ?_
      refine Rg_may 2 31 rfl rfl rfl (fun hg => (o_gtr (gsel (u := undef) hg) rfl)) ?_
      refine Rg_run rfl (o_or (u := undef) rfl rfl) ?_
      refine Rg_run rfl (o_moveh (v := .bool _) rfl) ?_
      refine Rg_may 6 35 rfl rfl rfl (fun hg => (o_moveh (v := .int _ _) rfl)) ?_
      refine Rg_may 6 35 rfl rfl rfl (fun hg => (o_lss (gsel (u := undef) hg) rfl)) ?_
      refine Rg_may 6 35 rfl rfl rfl (fun hg => (o_moveh (v := .bool _) (gsel (u := undef) hg))) ?_
      refine Rg_may2 9 38 rfl rfl rfl (fun hg => (o_moveh (v := .int _ _) rfl)) ?_
      refine Rg_may2 9 38 rfl rfl rfl (fun hg => (o_gtr (gsel (u := undef) hg) rfl)) ?_
      refine Rg_may 6 35 rfl rfl rfl (fun hg => (o_or (u := undef) (gsel (u := undef) hg) (gand (u := undef) hg))) ?_
      refine Rg_run rfl (o_and (u := undef) rfl rfl) ?_
      refine Rg_run rfl (o_moveh (v := .bool _) rfl) ?_
      refine Rg_may 14 43 rfl rfl rfl (fun hg => (o_moveh (v := .int _ _) rfl)) ?_
      refine Rg_may 14 43 rfl rfl rfl (fun hg => (o_neq (gsel (u := undef) hg) rfl)) ?_
      refine Rg_run rfl (o_and (u := undef) rfl rfl) ?_
      refine Rg_run rfl (o_moveh (v := .bool _) rfl) ?_
      refine Rg_may 18 47 rfl rfl rfl (fun hg => (o_moveh (v := .int _ _) rfl)) ?_
      refine Rg_may 18 47 rfl rfl rfl (fun hg => (o_neq (gsel (u := undef) hg) rfl)) ?_
      refine Rg_run rfl (o_and (u := undef) rfl rfl) ?_
      refine Rg_run rfl (o_moveh (v := .bool _) rfl) ?_
      refine Rg_may 22 51 rfl rfl rfl (fun hg => (o_moveh (v := .int _ _) rfl)) ?_
      refine Rg_may 22 51 rfl rfl rfl (fun hg => (o_neq (gsel (u := undef) hg) rfl)) ?_
      refine Rg_run rfl (o_and (u := undef) rfl rfl) ?_
      refine Rg_nil ?_
      refine W_cond rfl (fun hc3 => ?_) (fun hc3 => ?_)
      · skip
        first | replace hc3 := of_decide_eq_true hc3 | replace hc3 := bnot_t hc3 | skip
        refine W_seq ?_
        refine W_region ?_
        refine Rg_run rfl o_assignc ?_
        refine Rg_nil ?_
        refine W_ret ?_
        refine ⟨_, res_tmp rfl rfl, ?_⟩
        refine ⟨congrArg Value.bool ?_, hX⟩
        all_goals (simp only [namedS]; rw [all_at (k := k) (by omega) (by simp only [nameB]; rw [hc3]; rfl), Bool.and_false])
      · skip
        first | replace hc3 := of_decide_eq_false hc3 | replace hc3 := bnot_f hc3 | skip
        refine W_skip ?_
        refine W_region ?_
        refine Rg_run rfl (o_add rfl rfl (by first | omega | (unfold I64; omega) | (simp; done) | (simp; omega) | (simp at *; omega))) ?_
        refine Rg_run rfl (o_moveh (v := .int _ _) rfl) ?_
        refine Rg_nil ?_
        refine ⟨k + 1, ⟨?_, trivial⟩, ?_, ⟨?_, hXL1⟩, ?_⟩
        · first | rfl | (go_num) | (exact congrArg _ (by omega))
        · repeat (first | exact off_refl _ _ | exact off_mix | refine off_put rfl ?_ | refine off_putN ?_ | refine off_setL rfl ?_ | refine off_mix' rfl ?_)
        · exact ⟨by omega, by rw [all_take_succ (by omega), hall]; show (true && nameB _) = true; simp only [nameB]; rw [hc3]; rfl⟩
        · omega
    · skip
      first | replace hc2 := of_decide_eq_false hc2 | replace hc2 := bnot_f hc2 | skip
      refine W_exit ?_
      refine exAt_hit ?_
      refine W_seq ?_
      refine W_region ?_
      refine Rg_run rfl o_assignc ?_
      refine Rg_nil ?_
      refine W_ret ?_
      refine ⟨_, res_tmp rfl rfl, ?_⟩
      refine ⟨congrArg Value.bool ?_, hX⟩
      all_goals (simp only [namedS]; rw [hc1, all_end (k := k) (by omega) hall]; rfl)

theorem hasprefix0_ok (β : Prop) (s p : Str) (hs : s.length ≤ 4611686018427387904) (hp : p.length ≤ 4611686018427387904) (w : World) : Ok Tryd.prog 96 #[str s, str p] w fun v w' => v = .bool (hasPre s p) ∧ Ext β w w' := by
  refine Ok_of_W 18 Tryd.func96 rfl rfl rfl ?_
  have hX : Ext β w w := Bel.refl _ _
  refine W_seq ?_
  refine W_region ?_
  refine Rg_run rfl o_assignc ?_
  refine Rg_nil ?_
  refine W_seq ?_
  refine W_region ?_
  refine Rg_run rfl (o_moveh (v := str _) rfl) ?_
  refine Rg_run rfl (o_slen Tryd.underlying9 rfl) ?_
  refine Rg_run rfl (o_moveh (v := str _) rfl) ?_
  refine Rg_run rfl (o_slen Tryd.underlying9 rfl) ?_
  refine Rg_run rfl (o_geq rfl rfl) ?_
  refine Rg_run rfl (o_moveh (v := .bool _) rfl) ?_
  refine Rg_may 5 10 rfl rfl rfl (fun hg => (o_moveh (v := str _) rfl)) ?_
  refine Rg_may 5 10 rfl rfl rfl (fun hg => (o_moveh (v := str _) rfl)) ?_
  refine Rg_may 5 10 rfl rfl rfl (fun hg => (o_slen Tryd.underlying9 (gsel (u := undef) hg))) ?_
  refine Rg_may 5 10 rfl rfl rfl (fun hg => (o_sto Tryd.underlying9 (gsel (u := undef) hg) (gsel (u := undef) hg) (by have := of_decide_eq_true (eq_of_beq hg); omega))) ?_
  refine Rg_may 5 10 rfl rfl rfl (fun hg => (o_moveh (v := str _) rfl)) ?_
  refine Rg_may 5 10 rfl rfl rfl (fun hg => (o_seql (gsel (u := undef) hg) (gsel (u := undef) hg))) ?_
  refine Rg_run rfl (o_and (u := undef) rfl rfl) ?_
  refine Rg_run rfl (o_assignh (v := .bool _) rfl) ?_
  refine Rg_nil ?_
  refine W_ret ?_
  refine ⟨_, res_tmp rfl rfl, ?_⟩
  refine ⟨congrArg Value.bool ?_, hX⟩
  all_goals (rfl)

theorem hasprefix_ok (β : Prop) (s p : Str) (hs : s.length ≤ 4611686018427387904) (hp : p.length ≤ 4611686018427387904) (w : World) : Ok Tryd.prog 79 #[str s, str p] w fun v w' => v = .bool (hasPre s p) ∧ Ext β w w' := by
  refine Ok_of_W 8 Tryd.func79 rfl rfl rfl ?_
  have hX : Ext β w w := Bel.refl _ _
  refine W_seq ?_
  refine W_region ?_
  refine Rg_run rfl o_assignc ?_
  refine Rg_nil ?_
  refine W_seq ?_
  refine W_region ?_
  refine Rg_run rfl (o_moveh (v := str _) rfl) ?_
  refine Rg_run rfl (o_moveh (v := str _) rfl) ?_
  refine Rg_enter rfl (o_call2 Tryd.call96 rfl rfl) (Ok.mono (hasprefix0_ok (β) _ _ hs hp _) ?_)
  rintro _ w1 ⟨rfl, x2⟩
  replace hX := Bel.ex hX x2
  refine Rg_run rfl (o_assignh (v := .bool _) rfl) ?_
  refine Rg_nil ?_
  refine W_ret ?_
  refine ⟨_, res_tmp rfl rfl, ?_⟩
  refine ⟨congrArg Value.bool ?_, hX⟩
  all_goals (rfl)

theorem indexbyte_ok (β : Prop) (s : Str) (c : Int) (w : World) : Ok Tryd.prog 106 #[str s, .int .u8 c] w fun v w' => v = .int .i64 (Lib.indexByte s c.toNat.toUInt8) ∧ Ext β w w' := by
  refine Ok_of_W 8 Tryd.func106 rfl rfl rfl ?_
  have hX : Ext β w w := Bel.refl _ _
  refine W_seq ?_
  refine W_region ?_
  refine Rg_run rfl o_assignc ?_
  refine Rg_nil ?_
  refine W_seq ?_
  refine W_region ?_
  refine Rg_run rfl (o_moveh (v := str _) rfl) ?_
  refine Rg_run rfl (o_moveh (v := .int _ _) rfl) ?_
  refine Rg_run rfl (o_ext2 rfl rfl (x_index _ _ _)) ?_
  refine Rg_run rfl (o_assignh (v := .int _ _) rfl) ?_
  refine Rg_nil ?_
  refine W_ret ?_
  refine ⟨_, res_tmp rfl rfl, ?_⟩
  refine ⟨congrArg (Value.int .i64) ?_, hX⟩
  all_goals (rfl)

theorem count_ok (β : Prop) (s : Str) (hs : s.length ≤ 4611686018427387904) (w : World) : Ok Tryd.prog 111 #[str s, str [47]] w fun v w' => v = .int .i64 (s.count 47 : Nat) ∧ Ext β w w' := by
  refine Ok_of_W 34 Tryd.func111 rfl rfl rfl ?_
  have hX : Ext β w w := Bel.refl _ _
  refine W_seq ?_
  refine W_region ?_
  refine Rg_run rfl o_assignc ?_
  refine Rg_nil ?_
  refine W_seq ?_
  refine W_seq ?_
  refine W_region ?_
  refine Rg_run rfl (o_moveh (v := str _) rfl) ?_
  refine Rg_run rfl (o_slen Tryd.underlying9 rfl) ?_
  refine Rg_run rfl (o_eql rfl rfl) ?_
  refine Rg_nil ?_
  refine W_cond_false rfl ?_
  refine W_skip ?_
  refine W_seq ?_
  refine W_seq ?_
  refine W_region ?_
  refine Rg_run rfl (o_moveh (v := str _) rfl) ?_
  refine Rg_run rfl (o_slen Tryd.underlying9 rfl) ?_
  refine Rg_run rfl (o_eql rfl rfl) ?_
  refine Rg_nil ?_
  refine W_cond_true rfl ?_
  refine W_seq ?_
  refine W_region ?_
  refine Rg_run rfl (o_moveh (v := str _) rfl) ?_
  refine Rg_run rfl (o_moveh (v := str _) rfl) ?_
  refine Rg_run rfl (o_sidx (i := 0) Tryd.underlying9 rfl rfl (by first | omega | (unfold I64; omega) | (simp; done) | (simp; omega) | (simp at *; omega))) ?_
  refine Rg_run rfl (o_ext2 rfl rfl (x_count _ _ _)) ?_
  refine Rg_run rfl (o_assignh (v := .int _ _) rfl) ?_
  refine Rg_nil ?_
  refine W_ret ?_
  refine ⟨_, res_tmp rfl rfl, ?_⟩
  refine ⟨congrArg (Value.int .i64) ?_, hX⟩
  all_goals (rfl)

theorem index0_ok (β : Prop) (s : Str) (c : UInt8) (hs : s.length ≤ 4611686018427387904) (w : World) : Ok Tryd.prog 94 #[str s, str [c]] w fun v w' => v = .int .i64 (Lib.indexByte s c) ∧ Ext β w w' := by
  refine Ok_of_W 143 Tryd.func94 rfl rfl rfl ?_
  have hX : Ext β w w := Bel.refl _ _
  refine W_seq ?_
  refine W_region ?_
  refine Rg_run rfl o_assignc ?_
  refine Rg_nil ?_
  refine W_seq ?_
  refine W_region ?_
  refine Rg_run rfl (o_moveh (v := str _) rfl) ?_
  refine Rg_run rfl (o_slen Tryd.underlying9 rfl) ?_
  refine Rg_run rfl (o_assignh (v := .int _ _) rfl) ?_
  refine Rg_nil ?_
  refine W_seq ?_
  refine W_block ?_
  refine W_seq ?_
  refine W_region ?_
  refine Rg_run rfl (o_moveh (v := .int _ _) rfl) ?_
  refine Rg_run rfl (o_eql rfl rfl) ?_
  refine Rg_run rfl (o_moveh (v := .bool _) rfl) ?_
  refine Rg_may 2 19 rfl rfl rfl (fun hg => (o_moveh (v := str _) rfl)) ?_
  refine Rg_may 2 19 rfl rfl rfl (fun hg => (o_moveh (v := str _) rfl)) ?_
  refine Rg_may 2 19 rfl rfl rfl (fun hg => (o_seql (gsel (u := undef) hg) (gsel (u := undef) hg))) ?_
  refine Rg_run rfl (o_or (u := undef) rfl rfl) ?_
  refine Rg_run rfl (o_assignh (v := .bool _) rfl) ?_
  refine Rg_nil ?_
  refine W_cond rfl (fun hc1 => ?_) (fun hc1 => ?_)
  · skip
    refine W_seq ?_
    refine W_region ?_
    refine Rg_run rfl o_assignc ?_
    refine Rg_nil ?_
    refine W_ret ?_
    refine ⟨_, res_tmp rfl rfl, ?_⟩
    refine ⟨congrArg (Value.int .i64) ?_, hX⟩
    all_goals (have h : [c] = s := (by simpa using hc1); subst h; simp [Lib.indexByte])
  · skip
    refine W_seq ?_
    refine W_region ?_
    refine Rg_run rfl (o_moveh (v := .int _ _) rfl) ?_
    refine Rg_run rfl (o_eql rfl rfl) ?_
    refine Rg_run rfl (o_assignh (v := .bool _) rfl) ?_
    refine Rg_nil ?_
    refine W_cond_true rfl ?_
    refine W_seq ?_
    refine W_region ?_
    refine Rg_run rfl (o_moveh (v := str _) rfl) ?_
    refine Rg_run rfl (o_moveh (v := str _) rfl) ?_
    refine Rg_run rfl (o_sidx (i := 0) Tryd.underlying9 rfl rfl (by first | omega | (unfold I64; omega) | (simp; done) | (simp; omega) | (simp at *; omega))) ?_
    refine Rg_enter rfl (o_call2 Tryd.call106 rfl rfl) (Ok.mono (indexbyte_ok (β) _ _ _) ?_)
    rintro _ w1 ⟨rfl, x2⟩
    replace hX := Bel.ex hX x2
    refine Rg_run rfl (o_assignh (v := .int _ _) rfl) ?_
    refine Rg_nil ?_
    refine W_ret ?_
    refine ⟨_, res_tmp rfl rfl, ?_⟩
    refine ⟨congrArg (Value.int .i64) ?_, hX⟩
    all_goals (show Lib.indexByte s (c.toNat : Int).toNat.toUInt8 = _; simp)

theorem index_ok (β : Prop) (s : Str) (c : UInt8) (hs : s.length ≤ 4611686018427387904) (w : World) : Ok Tryd.prog 112 #[str s, str [c]] w fun v w' => v = .int .i64 (Lib.indexByte s c) ∧ Ext β w w' := by
  refine Ok_of_W 8 Tryd.func112 rfl rfl rfl ?_
  have hX : Ext β w w := Bel.refl _ _
  refine W_seq ?_
  refine W_region ?_
  refine Rg_run rfl o_assignc ?_
  refine Rg_nil ?_
  refine W_seq ?_
  refine W_region ?_
  refine Rg_run rfl (o_moveh (v := str _) rfl) ?_
  refine Rg_run rfl (o_moveh (v := str _) rfl) ?_
  refine Rg_enter rfl (o_call2 Tryd.call94 rfl rfl) (Ok.mono (index0_ok (β) _ _ hs _) ?_)
  rintro _ w1 ⟨rfl, x2⟩
  replace hX := Bel.ex hX x2
  refine Rg_run rfl (o_assignh (v := .int _ _) rfl) ?_
  refine Rg_nil ?_
  refine W_ret ?_
  refine ⟨_, res_tmp rfl rfl, ?_⟩
  refine ⟨congrArg (Value.int .i64) ?_, hX⟩
  all_goals (rfl)

theorem isnan_ok (β : Prop) (s : Str) (w : World) : Ok Tryd.prog 72 #[str s] w fun v w' => v = .bool false ∧ Ext β w w' := by
  refine Ok_of_W 6 Tryd.func72 rfl rfl rfl ?_
  have hX : Ext β w w := Bel.refl _ _
  refine W_seq ?_
  refine W_region ?_
  refine Rg_run rfl o_assignc ?_
  refine Rg_nil ?_
  refine W_seq ?_
  refine W_region ?_
  refine Rg_run rfl (o_moveh (v := str _) rfl) ?_
  refine Rg_run rfl (o_moveh (v := str _) rfl) ?_
  refine Rg_run rfl (o_sneq rfl rfl) ?_
  refine Rg_run rfl (o_assignh (v := .bool _) rfl) ?_
  refine Rg_nil ?_
  refine W_ret ?_
  refine ⟨_, res_tmp rfl rfl, ?_⟩
  refine ⟨congrArg Value.bool ?_, hX⟩
  all_goals (simp)

theorem cmp_ok (β : Prop) (a b : Str) (w : World) : Ok Tryd.prog 48 #[str a, str b] w fun v w' => v = .int .i64 (cmpS a b) ∧ Ext β w w' := by
  refine Ok_of_W 20 Tryd.func48 rfl rfl rfl ?_
  have hX : Ext β w w := Bel.refl _ _
  refine W_seq ?_
  refine W_region ?_
  refine Rg_run rfl o_assignc ?_
  refine Rg_nil ?_
  refine W_seq ?_
  refine W_region ?_
  refine Rg_run rfl (o_moveh (v := str _) rfl) ?_
  refine Rg_enter rfl (o_call1 Tryd.call72 rfl) (Ok.mono (isnan_ok (β) _ _) ?_)
  rintro _ w1 ⟨rfl, x2⟩
  replace hX := Bel.ex hX x2
  refine Rg_run rfl (o_assignh (v := .bool _) rfl) ?_
  refine Rg_nil ?_
  refine W_seq ?_
  refine W_region ?_
  refine Rg_run rfl (o_moveh (v := str _) rfl) ?_
  refine Rg_enter rfl (o_call1 Tryd.call72 rfl) (Ok.mono (isnan_ok (β) _ _) ?_)
  rintro _ w3 ⟨rfl, x4⟩
  replace hX := Bel.ex hX x4
  refine Rg_run rfl (o_assignh (v := .bool _) rfl) ?_
  refine Rg_nil ?_
  refine W_seq ?_
  refine W_seq ?_
  refine W_region ?_
  refine Rg_run rfl (o_moveh (v := .bool _) rfl) ?_
  refine Rg_nil ?_
  refine W_cond_false rfl ?_
  refine W_skip ?_
  refine W_seq ?_
  refine W_seq ?_
  refine W_region ?_
  refine Rg_run rfl (o_moveh (v := .bool _) rfl) ?_
  refine Rg_nil ?_
  refine W_cond_false rfl ?_
  refine W_skip ?_
  refine W_seq ?_
  refine W_seq ?_
  refine W_region ?_
  refine Rg_run rfl (o_moveh (v := str _) rfl) ?_
  refine Rg_run rfl (o_moveh (v := str _) rfl) ?_
  refine Rg_run rfl (o_slss rfl rfl) ?_
  refine Rg_nil ?_
  refine W_cond rfl (fun hc3 => ?_) (fun hc3 => ?_)
  · skip
    refine W_seq ?_
    refine W_region ?_
    refine Rg_run rfl o_assignc ?_
    refine Rg_nil ?_
    refine W_ret ?_
    refine ⟨_, res_tmp rfl rfl, ?_⟩
    refine ⟨congrArg (Value.int .i64) ?_, hX⟩
    all_goals (simp only [cmpS, hc3, if_true])
  · skip
    refine W_skip ?_
    refine W_seq ?_
    refine W_seq ?_
    refine W_region ?_
    refine Rg_run rfl (o_moveh (v := str _) rfl) ?_
    refine Rg_run rfl (o_moveh (v := str _) rfl) ?_
    refine Rg_run rfl (o_sgtr rfl rfl) ?_
    refine Rg_nil ?_
    refine W_cond rfl (fun hc4 => ?_) (fun hc4 => ?_)
    · skip
      refine W_seq ?_
      refine W_region ?_
      refine Rg_run rfl o_assignc ?_
      refine Rg_nil ?_
      refine W_ret ?_
      refine ⟨_, res_tmp rfl rfl, ?_⟩
      refine ⟨congrArg (Value.int .i64) ?_, hX⟩
      all_goals (rw [cmpS, if_neg (by simp [hc3]), if_pos hc4])
    · skip
      refine W_skip ?_
      refine W_seq ?_
      refine W_region ?_
      refine Rg_run rfl o_assignc ?_
      refine Rg_nil ?_
      refine W_ret ?_
      refine ⟨_, res_tmp rfl rfl, ?_⟩
      refine ⟨congrArg (Value.int .i64) ?_, hX⟩
      all_goals (rw [cmpS, if_neg (by simp [hc3]), if_neg (by rw [hc4]; simp)])

theorem sindex_ok (β : Prop) (a : Option Addr) (c : Nat) (B : Nat → Prop) (l : List Str) (x : Str) (w : World) (hs : Sl encS 1 B w a c l) : Ok Tryd.prog 83 #[.slice a l.length c, str x] w fun v w' => v = .int .i64 (ixOf (fun y => x == y) l) ∧ Ext β w w' := by
  have hlen := hs.len
  refine Ok_of_W 19 Tryd.func83 rfl rfl rfl ?_
  have hX : Ext β w w := Bel.refl _ _
  refine W_seq ?_
  refine W_region ?_
  refine Rg_run rfl o_assignc ?_
  refine Rg_nil ?_
  refine W_seq ?_
  refine W_seq ?_
  refine W_region ?_
  refine Rg_run rfl (o_moveh (v := .slice _ _ _) rfl) ?_
  refine Rg_run rfl (o_llen Tryd.underlying67 rfl) ?_
  refine Rg_run rfl o_movec ?_
  refine Rg_nil ?_
  refine W_block ?_
  refine W_for (α := Nat) [(4, 5), (8, 18)] (fun k => [(8, .int .i64 (k : Int))]) (fun k w' => (k ≤ l.length ∧ (l.take k).any (fun y => x == y) = false) ∧ Ext β w w') (fun k => l.length - k) 0 ⟨rfl, trivial⟩ ⟨⟨by omega, by simp⟩, Bel.refl _ _⟩ ?_
  rintro k fb3 w2 ⟨⟨hk, hall⟩, hXL1⟩
  replace hX := Bel.ex hX hXL1
  replace hs := hs.ext hXL1
  refine W_seq ?_
  refine W_region ?_
  refine Rg_run rfl (o_lss rfl rfl) ?_
  refine Rg_nil ?_
  refine W_seq ?_
  refine W_cond rfl (fun hc1 => ?_) (fun hc1 => ?_)
  · skip
    first | replace hc1 := of_decide_eq_true hc1 | replace hc1 := bnot_t hc1 | skip
    refine W_skip ?_
    refine W_seq ?_
    refine W_block ?_
    refine W_seq ?_
    refine W_region ?_
    refine Rg_run rfl (o_moveh (v := .int _ _) rfl) ?_
    refine Rg_run rfl (o_assignh (v := .int _ _) rfl) ?_
    refine Rg_nil ?_
    refine W_seq ?_
    refine W_region ?_
    refine Rg_run rfl (o_moveh (v := str _) rfl) ?_
    refine Rg_run rfl (o_moveh (v := .slice _ _ _) rfl) ?_
    refine Rg_run rfl (o_moveh (v := .int _ _) rfl) ?_
    refine Rg_run rfl (o_iaR Tryd.underlying67 Tryd.sizeOf9 hs rfl rfl (by first | omega | (unfold I64; omega) | (simp; done) | (simp; omega) | (simp at *; omega))) ?_
    refine Rg_run rfl (o_ldR Tryd.isAgg9 hs rfl rfl (getElem?_of (by first | omega | assumption)) rfl) ?_
    refine Rg_run rfl (o_seql rfl rfl) ?_
    refine Rg_nil ?_
    refine W_cond rfl (fun hc2 => ?_) (fun hc2 => ?_)
    · skip
      first | replace hc2 := of_decide_eq_true hc2 | replace hc2 := bnot_t hc2 | skip
      refine W_seq ?_
      refine W_region ?_
      refine Rg_run rfl (o_moveh (v := .int _ _) rfl) ?_
      refine Rg_run rfl (o_assignh (v := .int _ _) rfl) ?_
      refine Rg_nil ?_
      refine W_ret ?_
      refine ⟨_, res_tmp rfl rfl, ?_⟩
      refine ⟨congrArg (Value.int .i64) ?_, hX⟩
      all_goals (exact (ixOf_at (by omega) hall hc2).symm)
    · skip
      first | replace hc2 := of_decide_eq_false hc2 | replace hc2 := bnot_f hc2 | skip
      refine W_skip ?_
      refine W_region ?_
      refine Rg_run rfl (o_add rfl rfl (by first | omega | (unfold I64; omega) | (simp; done) | (simp; omega) | (simp at *; omega))) ?_
      refine Rg_run rfl (o_moveh (v := .int _ _) rfl) ?_
      refine Rg_nil ?_
      refine ⟨k + 1, ⟨?_, trivial⟩, ?_, ⟨?_, hXL1⟩, ?_⟩
      · first | rfl | (go_num) | (exact congrArg _ (by omega))
      · repeat (first | exact off_refl _ _ | exact off_mix | refine off_put rfl ?_ | refine off_putN ?_ | refine off_setL rfl ?_ | refine off_mix' rfl ?_)
      · exact ⟨by omega, anyT_succ (by omega) hall hc2⟩
      · omega
  · skip
    first | replace hc1 := of_decide_eq_false hc1 | replace hc1 := bnot_f hc1 | skip
    refine W_exit ?_
    refine exAt_hit ?_
    refine W_seq ?_
    refine W_region ?_
    refine Rg_run rfl o_assignc ?_
    refine Rg_nil ?_
    refine W_ret ?_
    refine ⟨_, res_tmp rfl rfl, ?_⟩
    refine ⟨congrArg (Value.int .i64) ?_, hX⟩
    all_goals (exact (ixOf_none (k := k) (by omega) hall).symm)

theorem scontains_ok (β : Prop) (a : Option Addr) (c : Nat) (B : Nat → Prop) (l : List Str) (x : Str) (w : World) (hs : Sl encS 1 B w a c l) : Ok Tryd.prog 65 #[.slice a l.length c, str x] w fun v w' => v = .bool (l.any fun y => x == y) ∧ Ext β w w' := by
  refine Ok_of_W 9 Tryd.func65 rfl rfl rfl ?_
  have hX : Ext β w w := Bel.refl _ _
  refine W_seq ?_
  refine W_region ?_
  refine Rg_run rfl o_assignc ?_
  refine Rg_nil ?_
  refine W_seq ?_
  refine W_region ?_
  refine Rg_run rfl (o_moveh (v := .slice _ _ _) rfl) ?_
  refine Rg_run rfl (o_moveh (v := str _) rfl) ?_
  refine Rg_enter rfl (o_call2 Tryd.call83 rfl rfl) (Ok.mono (sindex_ok (β) _ _ _ _ _ _ hs) ?_)
  rintro _ w1 ⟨rfl, x2⟩
  replace hX := Bel.ex hX x2
  replace hs := hs.ext x2
  refine Rg_run rfl (o_geq rfl rfl) ?_
  refine Rg_run rfl (o_assignh (v := .bool _) rfl) ?_
  refine Rg_nil ?_
  refine W_ret ?_
  refine ⟨_, res_tmp rfl rfl, ?_⟩
  refine ⟨congrArg Value.bool ?_, hX⟩
  all_goals (exact ixOf_ge _ _)

end Go.Proofs.YtgnphpimkfcmlaaDoor
