/- Walks, printed by program: each theorem says what a function of the translation returns. -/
import Derived.Test.YtnhbdlllkmnpfaaDoorWpath3
namespace Go.Proofs.YtnhbdlllkmnpfaaDoor
open Go Go.Lx Go.RowKit
set_option maxRecDepth 100000
set_option linter.unusedVariables false
set_option linter.unusedSimpArgs false
set_option linter.unnecessarySimpa false
theorem isname_ok (β : Prop) (w : World) (s : Str) (hs : s.length ≤ 1000000) : Ok Tryd.prog 71 #[str s] w fun v w' => v = .bool (namedS s) ∧ Ext β w w' := by
  refine Ok_of_W 69 Tryd.func71 rfl rfl rfl ?_
  have hX : Ext β w w := Bel.refl _ _
  refine W_seq ?_
  refine W_region ?_
  refine Rg_run rfl o_assignc ?_
  refine Rg_nil ?_
  refine W_seq ?_
  refine W_seq ?_
  refine W_region ?_
  refine Rg_run rfl o_assignc ?_
  refine Rg_nil ?_
  refine W_block ?_
  refine W_for (α := Nat) [(2, 52)] (fun k => [(3, .int .i64 (k : Int))]) (fun k w' => (k ≤ s.length ∧ (s.take k).all nameB = true) ∧ Ext β w w') (fun k => s.length - k) 0 ⟨rfl, trivial⟩ ⟨⟨by omega, by simp⟩, Bel.refl _ _⟩ ?_
  rintro k fb3 w2 ⟨⟨hk, hall⟩, hXL1⟩
  replace hX := Bel.ex hX hXL1
  refine W_seq ?_
  refine W_seq ?_
  refine W_region ?_
  refine Rg_run rfl (o_moveh (v := .int _ _) rfl) ?_
  refine Rg_run rfl (o_moveh (v := str _) rfl) ?_
  refine Rg_run rfl (o_slen Tryd.underlying9 rfl) ?_
  refine Rg_run rfl (o_lss rfl rfl) ?_
  refine Rg_nil ?_
  refine W_cond rfl (fun hc1 => ?_) (fun hc1 => ?_)
  · skip
    replace hc1 := of_decide_eq_true hc1
    refine W_skip ?_
    refine W_seq ?_
    refine W_block ?_
    refine W_seq ?_
    refine W_region ?_
    refine Rg_run rfl (o_moveh (v := str _) rfl) ?_
    refine Rg_run rfl (o_moveh (v := .int _ _) rfl) ?_
    refine Rg_run rfl (o_sidx Tryd.underlying9 rfl rfl (by first | omega | (unfold I64; omega) | (simp; done) | (simp; omega) | (simp at *; omega))) ?_
    refine Rg_run rfl (o_geq rfl rfl) ?_
    refine Rg_run rfl (o_moveh (v := .bool _) rfl) ?_
    refine Rg_may 4 15 rfl rfl rfl (fun hg => (o_moveh (v := str _) rfl)) ?_
    refine Rg_may 4 15 rfl rfl rfl (fun hg => (o_moveh (v := .int _ _) rfl)) ?_
    refine Rg_may 4 15 rfl rfl rfl (fun hg => (o_sidx Tryd.underlying9 (gsel (u := undef) hg) (gsel (u := undef) hg) (by first | omega | (unfold I64; omega) | (simp; done) | (simp; omega) | (simp at *; omega)))) ?_
    refine Rg_may 4 15 rfl rfl rfl (fun hg => (o_leq (gsel (u := undef) hg) rfl)) ?_
    refine Rg_run rfl (o_and (u := undef) rfl rfl) ?_
    refine Rg_run rfl (o_moveh (v := .bool _) rfl) ?_
    refine Rg_may 10 21 rfl rfl rfl (fun hg => (o_moveh (v := str _) rfl)) ?_
    refine Rg_may 10 21 rfl rfl rfl (fun hg => (o_moveh (v := .int _ _) rfl)) ?_
    refine Rg_may 10 21 rfl rfl rfl (fun hg => (o_sidx Tryd.underlying9 (gsel (u := undef) hg) (gsel (u := undef) hg) (by first | omega | (unfold I64; omega) | (simp; done) | (simp; omega) | (simp at *; omega)))) ?_
    refine Rg_may 10 21 rfl rfl rfl (fun hg => (o_geq (gsel (u := undef) hg) rfl)) ?_
    refine Rg_may 10 21 rfl rfl rfl (fun hg => (o_moveh (v := .bool _) (gsel (u := undef) hg))) ?_
    refine Rg_may2 15 26 rfl rfl rfl (fun hg => (o_moveh (v := str _) rfl)) ?_
    refine Rg_may2 15 26 rfl rfl rfl (fun hg => (o_moveh (v := .int _ _) rfl)) ?_
    refine Rg_may2 15 26 rfl rfl rfl (fun hg => (o_sidx Tryd.underlying9 (gsel (u := undef) hg) (gsel (u := undef) hg) (by first | omega | (unfold I64; omega) | (simp; done) | (simp; omega) | (simp at *; omega)))) ?_
    refine Rg_may2 15 26 rfl rfl rfl (fun hg => (o_leq (gsel (u := undef) hg) rfl)) ?_
    refine Rg_may 10 21 rfl rfl rfl (fun hg => (o_and (u := undef) (gsel (u := undef) hg) (gand (u := undef) hg))) ?_
    refine Rg_run rfl (o_or (u := undef) rfl rfl) ?_
    refine Rg_run rfl (o_assignh (v := .bool _) rfl) ?_
    refine Rg_nil ?_
    refine W_seq ?_
    refine W_region ?_
    refine Rg_run rfl (o_moveh (v := .bool _) rfl) ?_
    refine Rg_run rfl (o_not rfl) ?_
    refine Rg_run rfl (o_moveh (v := .bool _) rfl) ?_
    refine Rg_may 2 35 rfl rfl rfl (fun hg => (o_moveh (v := str _) rfl)) ?_
    refine Rg_may 2 35 rfl rfl rfl (fun hg => (o_moveh (v := .int _ _) rfl)) ?_
    refine Rg_may 2 35 rfl rfl rfl (fun hg => (o_sidx Tryd.underlying9 (gsel (u := undef) hg) (gsel (u := undef) hg) (by first | omega | (unfold I64; omega) | (simp; done) | (simp; omega) | (simp at *; omega)))) ?_
    refine Rg_may 2 35 rfl rfl rfl (fun hg => (o_neq (gsel (u := undef) hg) rfl)) ?_
    refine Rg_run rfl (o_and (u := undef) rfl rfl) ?_
    refine Rg_run rfl (o_moveh (v := .bool _) rfl) ?_
    refine Rg_may 8 41 rfl rfl rfl (fun hg => (o_moveh (v := str _) rfl)) ?_
    refine Rg_may 8 41 rfl rfl rfl (fun hg => (o_moveh (v := .int _ _) rfl)) ?_
    refine Rg_may 8 41 rfl rfl rfl (fun hg => (o_sidx Tryd.underlying9 (gsel (u := undef) hg) (gsel (u := undef) hg) (by first | omega | (unfold I64; omega) | (simp; done) | (simp; omega) | (simp at *; omega)))) ?_
    refine Rg_may 8 41 rfl rfl rfl (fun hg => (o_neq (gsel (u := undef) hg) rfl)) ?_
    refine Rg_run rfl (o_and (u := undef) rfl rfl) ?_
    refine Rg_run rfl (o_moveh (v := .bool _) rfl) ?_
    refine Rg_may 14 47 rfl rfl rfl (fun hg => (o_moveh (v := str _) rfl)) ?_
    refine Rg_may 14 47 rfl rfl rfl (fun hg => (o_moveh (v := .int _ _) rfl)) ?_
    refine Rg_may 14 47 rfl rfl rfl (fun hg => (o_sidx Tryd.underlying9 (gsel (u := undef) hg) (gsel (u := undef) hg) (by first | omega | (unfold I64; omega) | (simp; done) | (simp; omega) | (simp at *; omega)))) ?_
    refine Rg_may 14 47 rfl rfl rfl (fun hg => (o_neq (gsel (u := undef) hg) rfl)) ?_
    refine Rg_run rfl (o_and (u := undef) rfl rfl) ?_
    refine Rg_nil ?_
    refine W_cond rfl (fun hc2 => ?_) (fun hc2 => ?_)
    · skip
      refine W_seq ?_
      refine W_region ?_
      refine Rg_run rfl o_assignc ?_
      refine Rg_nil ?_
      refine W_ret ?_
      refine ⟨_, res_tmp rfl rfl, ?_⟩
      refine ⟨congrArg Value.bool ?_, hX⟩
      all_goals (rw [r7_bad (all_at (k := k) (by omega) (by rw [r7name] at hc2; exact bnot_t hc2))])
    · skip
      refine W_skip ?_
      refine W_region ?_
      refine Rg_run rfl (o_moveh (v := .int _ _) rfl) ?_
      refine Rg_run rfl (o_add rfl rfl (by first | omega | (unfold I64; omega) | (simp; done) | (simp; omega) | (simp at *; omega))) ?_
      refine Rg_run rfl (o_assignh (v := .int _ _) rfl) ?_
      refine Rg_nil ?_
      refine ⟨k + 1, ⟨?_, trivial⟩, ?_, ⟨?_, hXL1⟩, ?_⟩
      · first | rfl | (go_num) | (exact congrArg _ (by omega))
      · repeat (first | exact off_refl _ _ | exact off_mix | refine off_put rfl ?_ | refine off_putN ?_ | refine off_setL rfl ?_ | refine off_mix' rfl ?_)
      · exact ⟨by omega, by rw [all_take_succ (by omega), hall]; show (true && nameB _) = true; rw [r7name] at hc2; rw [bnot_f hc2]; rfl⟩
      · omega
  · skip
    replace hc1 := of_decide_eq_false hc1
    refine W_exit ?_
    refine exAt_hit ?_
    refine W_seq ?_
    refine W_region ?_
    refine Rg_run rfl (o_moveh (v := str _) rfl) ?_
    refine Rg_run rfl (o_slen Tryd.underlying9 rfl) ?_
    refine Rg_run rfl (o_geq rfl rfl) ?_
    refine Rg_run rfl (o_moveh (v := .bool _) rfl) ?_
    refine Rg_may 3 56 rfl rfl rfl (fun hg => (o_moveh (v := str _) rfl)) ?_
    refine Rg_may 3 56 rfl rfl rfl (fun hg => (o_slen Tryd.underlying9 (gsel (u := undef) hg))) ?_
    refine Rg_may 3 56 rfl rfl rfl (fun hg => (o_leq (gsel (u := undef) hg) rfl)) ?_
    refine Rg_run rfl (o_and (u := undef) rfl rfl) ?_
    refine Rg_run rfl (o_moveh (v := .bool _) rfl) ?_
    refine Rg_may 8 61 rfl rfl rfl (fun hg => (o_moveh (v := str _) rfl)) ?_
    refine Rg_may 8 61 rfl rfl rfl (fun hg => (o_sneq (gsel (u := undef) hg) rfl)) ?_
    refine Rg_run rfl (o_and (u := undef) rfl rfl) ?_
    refine Rg_run rfl (o_moveh (v := .bool _) rfl) ?_
    refine Rg_may 12 65 rfl rfl rfl (fun hg => (o_moveh (v := str _) rfl)) ?_
    refine Rg_may 12 65 rfl rfl rfl (fun hg => (o_sneq (gsel (u := undef) hg) rfl)) ?_
    refine Rg_run rfl (o_and (u := undef) rfl rfl) ?_
    refine Rg_run rfl (o_assignh (v := .bool _) rfl) ?_
    refine Rg_nil ?_
    refine W_ret ?_
    refine ⟨_, res_tmp rfl rfl, ?_⟩
    refine ⟨congrArg Value.bool ?_, hX⟩
    all_goals (rw [r7_end (all_end (k := k) (by omega) hall)]; rfl)

theorem rsplit_ok (w : World) (p : Str) (hp : p.length ≤ 1000000) : Ok Tryd.prog 57 #[str p] w fun v w' => ∃ a c l, v = .tuple #[.slice a l.length c, .bool (splitOk p)] ∧ Sl encS 1 (Fsh w w') w' a c l ∧ (splitOk p = true → l = splitL p) ∧ Ext False w w' := by
  refine Ok_of_W 58 Tryd.func57 rfl rfl rfl ?_
  have hX : Ext False w w := Bel.refl _ _
  refine W_seq ?_
  refine W_region ?_
  refine Rg_run rfl o_assignc ?_
  refine Rg_run rfl o_assignc ?_
  refine Rg_nil ?_
  refine W_seq ?_
  refine W_seq ?_
  refine W_region ?_
  refine Rg_run rfl (o_moveh (v := str _) rfl) ?_
  refine Rg_run rfl (o_seql rfl rfl) ?_
  refine Rg_nil ?_
  refine W_cond rfl (fun hc1 => ?_) (fun hc1 => ?_)
  · skip
    refine W_seq ?_
    refine W_region ?_
    refine Rg_run rfl o_assignc ?_
    refine Rg_run rfl o_assignc ?_
    refine Rg_nil ?_
    refine W_ret ?_
    refine ⟨_, res_tmp2 rfl rfl rfl, ?_⟩
    exact ⟨none, 0, [], by rw [splitOk_some (splitP_root hc1)]; rfl, Sl.none, fun _ => (splitL_some (splitP_root hc1)).symm, hX⟩
  · skip
    refine W_skip ?_
    refine W_seq ?_
    refine W_seq ?_
    refine W_region ?_
    refine Rg_run rfl (o_moveh (v := str _) rfl) ?_
    refine Rg_run rfl (o_slen Tryd.underlying9 rfl) ?_
    refine Rg_run rfl (o_eql rfl rfl) ?_
    refine Rg_run rfl (o_moveh (v := .bool _) rfl) ?_
    refine Rg_may 3 14 rfl rfl rfl (fun hg => (o_moveh (v := str _) rfl)) ?_
    refine Rg_may 3 14 rfl rfl rfl (fun hg => (o_sidx (i := 0) Tryd.underlying9 (gsel (u := undef) hg) rfl (by cases p with | nil => simp at hg | cons => simp))) ?_
    refine Rg_may 3 14 rfl rfl rfl (fun hg => (o_neq (gsel (u := undef) hg) rfl)) ?_
    refine Rg_run rfl (o_or (u := undef) rfl rfl) ?_
    refine Rg_nil ?_
    refine W_cond rfl (fun hc2 => ?_) (fun hc2 => ?_)
    · skip
      refine W_seq ?_
      refine W_region ?_
      refine Rg_run rfl o_assignc ?_
      refine Rg_run rfl o_assignc ?_
      refine Rg_nil ?_
      refine W_ret ?_
      refine ⟨_, res_tmp2 rfl rfl rfl, ?_⟩
      have e := splitP_none (Or.inl ⟨hc1, pre_no (pre7 p ▸ hc2)⟩); exact ⟨none, 0, [], by rw [splitOk_none e]; rfl, Sl.none, fun h => absurd h (by rw [splitOk_none e]; decide), hX⟩
    · skip
      refine W_skip ?_
      refine W_seq ?_
      refine W_region ?_
      refine Rg_run rfl o_assignc ?_
      refine Rg_nil ?_
      refine W_seq ?_
      refine W_region ?_
      refine Rg_run rfl o_assignc ?_
      refine Rg_nil ?_
      refine W_seq ?_
      refine W_seq ?_
      refine W_region ?_
      refine Rg_run rfl o_assignc ?_
      refine Rg_nil ?_
      refine W_block ?_
      refine W_for (α := List Str × Str × Nat × Value) [(4, 6), (19, 39)] (fun g => [(4, g.2.2.2), (5, str g.2.1), (6, .int .i64 (g.2.2.1 : Int))]) (fun g w' => (S7 p g.1 g.2.1 g.2.2.1) ∧ Bel False (fun g => w.heap.size ≤ g) w w' ∧ (Own encS 1 9 (fun g => w.heap.size ≤ g) w' g.2.2.2 g.1)) (fun g => p.length - g.2.2.1) ([], [], 1, .slice none 0 0) ⟨rfl, rfl, rfl, trivial⟩ ⟨S7.start (pre_yes (pre7 p ▸ hc2)).2, Bel.refl _ _, Own.nil _ _⟩ ?_
      rintro g fb3 w2 ⟨hI, hXL1, hown⟩
      have z4 := Bel.size hXL1
      replace hX := Bel.out hX hXL1 (fun g h1 h2 => by first | exact h2 | omega)
      refine W_seq ?_
      refine W_seq ?_
      refine W_region ?_
      refine Rg_run rfl (o_moveh (v := .int _ _) rfl) ?_
      refine Rg_run rfl (o_moveh (v := str _) rfl) ?_
      refine Rg_run rfl (o_slen Tryd.underlying9 rfl) ?_
      refine Rg_run rfl (o_lss rfl rfl) ?_
      refine Rg_nil ?_
      refine W_cond rfl (fun hc3 => ?_) (fun hc3 => ?_)
      · skip
        replace hc3 := of_decide_eq_true hc3
        refine W_skip ?_
        refine W_seq ?_
        refine W_block ?_
        refine W_seq ?_
        refine W_region ?_
        refine Rg_run rfl (o_moveh (v := str _) rfl) ?_
        refine Rg_run rfl (o_moveh (v := .int _ _) rfl) ?_
        refine Rg_run rfl (o_sidx Tryd.underlying9 rfl rfl (by first | omega | (unfold I64; omega) | (simp; done) | (simp; omega) | (simp at *; omega))) ?_
        refine Rg_run rfl (o_eql rfl rfl) ?_
        refine Rg_nil ?_
        refine W_cond rfl (fun hc4 => ?_) (fun hc4 => ?_)
        · skip
          refine W_seq ?_
          refine W_region ?_
          refine Rg_run rfl (o_moveh (v := g.2.2.2) rfl) ?_
          refine Rg_run rfl (o_moveh (v := str _) rfl) ?_
          refine Rg_bs (vs := [str _]) ([g.2.1]) rfl encS_ok el_string rfl rfl ⟨rfl, trivial⟩ rfl rfl rfl rfl ?_
          intro a31 w5 x6 hown31
          have z7 := Bel.size x6
          replace hX := Bel.ex hX x6
          replace hXL1 := Bel.ex hXL1 x6
          replace hown := hown.ext x6
          replace hown31 := hown31.mono (D' := fun g => w.heap.size ≤ g) (fun g h1 h2 => by omega)
          refine Rg_app rfl encS_ok el_string rfl rfl hown (hown31.slA encS_ok) rfl (by have := hI.out; have := hI.le; simp; omega) (fun g h => by omega) ?_
          intro v32 w8 x9 hown
          have z10 := Bel.size x9
          replace hX := Bel.out hX x9 (fun g h1 h2 => by first | exact h2 | omega)
          replace hXL1 := Bel.out hXL1 x9 (fun g h1 h2 => by first | exact h2 | omega)
          refine Rg_run rfl (o_assignh (v := v32) rfl) ?_
          refine Rg_nil ?_
          refine W_region ?_
          refine Rg_run rfl o_assignc ?_
          refine Rg_nil ?_
          refine W_region ?_
          refine Rg_run rfl (o_moveh (v := .int _ _) rfl) ?_
          refine Rg_run rfl (o_add rfl rfl (by unfold I64; omega)) ?_
          refine Rg_run rfl (o_assignh (v := .int _ _) rfl) ?_
          refine Rg_nil ?_
          refine ⟨(g.1 ++ [g.2.1], [], g.2.2.1 + 1, v32), ⟨?_, ?_, ?_, trivial⟩, ?_, ⟨?_, hXL1, ?_⟩, ?_⟩
          · first | rfl | (go_num) | (exact congrArg _ (by omega))
          · first | rfl | exact congrArg str (by rw [one_byte (by omega)])
          · first | rfl | (go_num) | (exact congrArg _ (by omega))
          · repeat (first | exact off_refl _ _ | exact off_mix | refine off_put rfl ?_ | refine off_putN ?_ | refine off_setL rfl ?_ | refine off_mix' rfl ?_)
          · exact hI.sep (by omega) hc4
          · exact hown
          · show p.length - (g.2.2.1 + 1) < p.length - g.2.2.1; omega
        · skip
          refine W_region ?_
          refine Rg_run rfl (o_moveh (v := str _) rfl) ?_
          refine Rg_run rfl (o_moveh (v := str _) rfl) ?_
          refine Rg_run rfl (o_moveh (v := .int _ _) rfl) ?_
          refine Rg_run rfl (o_moveh (v := .int _ _) rfl) ?_
          refine Rg_run rfl (o_add rfl rfl (by unfold I64; omega)) ?_
          refine Rg_run rfl (o_sslice (i := g.2.2.1) (j := g.2.2.1 + 1) Tryd.underlying9 rfl rfl rfl (by omega) (by omega)) ?_
          refine Rg_run rfl (o_sadd rfl rfl (by have := hI.nm; have := hI.le; simp; omega)) ?_
          refine Rg_run rfl (o_assignh (v := str _) rfl) ?_
          refine Rg_nil ?_
          refine W_region ?_
          refine Rg_run rfl (o_moveh (v := .int _ _) rfl) ?_
          refine Rg_run rfl (o_add rfl rfl (by unfold I64; omega)) ?_
          refine Rg_run rfl (o_assignh (v := .int _ _) rfl) ?_
          refine Rg_nil ?_
          refine ⟨(g.1, g.2.1 ++ [p.getD g.2.2.1 0], g.2.2.1 + 1, g.2.2.2), ⟨?_, ?_, ?_, trivial⟩, ?_, ⟨?_, hXL1, ?_⟩, ?_⟩
          · first | rfl | (go_num) | (exact congrArg _ (by omega))
          · first | rfl | exact congrArg str (by rw [one_byte (by omega)])
          · first | rfl | (go_num) | (exact congrArg _ (by omega))
          · repeat (first | exact off_refl _ _ | exact off_mix | refine off_put rfl ?_ | refine off_putN ?_ | refine off_setL rfl ?_ | refine off_mix' rfl ?_)
          · exact hI.char (by omega) hc4
          · exact hown
          · show p.length - (g.2.2.1 + 1) < p.length - g.2.2.1; omega
      · skip
        replace hc3 := of_decide_eq_false hc3
        refine W_exit ?_
        refine exAt_hit ?_
        refine W_seq ?_
        refine W_region ?_
        refine Rg_run rfl (o_moveh (v := g.2.2.2) rfl) ?_
        refine Rg_run rfl (o_moveh (v := str _) rfl) ?_
        refine Rg_bs (vs := [str _]) ([g.2.1]) rfl encS_ok el_string rfl rfl ⟨rfl, trivial⟩ rfl rfl rfl rfl ?_
        intro a42 w11 x12 hown42
        have z13 := Bel.size x12
        replace hX := Bel.ex hX x12
        replace hown := hown.ext x12
        replace hown42 := hown42.mono (D' := fun g => w.heap.size ≤ g) (fun g h1 h2 => by omega)
        refine Rg_app rfl encS_ok el_string rfl rfl hown (hown42.slA encS_ok) rfl (by have := hI.out; have := hI.le; simp; omega) (fun g h => by omega) ?_
        intro v43 w14 x15 hown
        have z16 := Bel.size x15
        replace hX := Bel.out hX x15 (fun g h1 h2 => by first | exact h2 | omega)
        refine Rg_run rfl (o_assignh (v := v43) rfl) ?_
        refine Rg_nil ?_
        refine W_seq ?_
        refine W_seq ?_
        refine W_region ?_
        have efin := hI.fin (by omega); rw [efin] at hown
        obtain ⟨a44, c44, hv44, hs44⟩ := hown.sl encS_ok
        subst hv44
        refine Rg_run rfl (o_moveh (v := .slice _ _ _) rfl) ?_
        refine Rg_run rfl (o_llen Tryd.underlying35 rfl) ?_
        refine Rg_run rfl o_movec ?_
        refine Rg_nil ?_
        refine W_block ?_
        refine W_for (α := Nat) [(2, 3), (8, 8), (46, 53)] (fun k => [(46, .int .i64 (k : Int))]) (fun k w' => (k ≤ (splitS (p.drop 1)).length ∧ ((splitS (p.drop 1)).take k).all namedS = true) ∧ Ext False w14 w') (fun k => (splitS (p.drop 1)).length - k) 0 ⟨rfl, trivial⟩ ⟨⟨Nat.zero_le _, by simp⟩, Bel.refl _ _⟩ ?_
        rintro k fb19 w18 ⟨⟨hk, hall⟩, hXL17⟩
        have z20 := Bel.size hXL17
        replace hX := Bel.ex hX hXL17
        replace hs44 := hs44.ext hXL17
        refine W_seq ?_
        refine W_region ?_
        refine Rg_run rfl (o_lss rfl rfl) ?_
        refine Rg_nil ?_
        refine W_seq ?_
        refine W_cond rfl (fun hc5 => ?_) (fun hc5 => ?_)
        · skip
          replace hc5 := of_decide_eq_true hc5
          refine W_skip ?_
          refine W_seq ?_
          refine W_block ?_
          refine W_seq ?_
          refine W_region ?_
          refine Rg_run rfl (o_iaR Tryd.underlying35 Tryd.sizeOf9 hs44 rfl rfl (by first | omega | (unfold I64; omega) | (simp; done) | (simp; omega) | (simp at *; omega))) ?_
          refine Rg_run rfl (o_ldR Tryd.isAgg9 hs44 rfl rfl (getE [] (by omega)) rfl) ?_
          refine Rg_run rfl (o_assignh (v := str _) rfl) ?_
          refine Rg_nil ?_
          refine W_seq ?_
          refine W_region ?_
          refine Rg_run rfl (o_moveh (v := str _) rfl) ?_
          refine Rg_enter rfl (o_call1 Tryd.call71 rfl) (Ok.mono (isname_ok (False) _ _ (by have := splitS_mem _ _ (getD_mem (z := []) (show k < (splitS (p.drop 1)).length by omega)); simp only [List.length_drop] at this; omega)) ?_)
          rintro _ w21 ⟨rfl, x22⟩
          have z23 := Bel.size x22
          replace hX := Bel.ex hX x22
          replace hXL17 := Bel.ex hXL17 x22
          replace hs44 := hs44.ext x22
          refine Rg_run rfl (o_not rfl) ?_
          refine Rg_nil ?_
          refine W_cond rfl (fun hc6 => ?_) (fun hc6 => ?_)
          · skip
            refine W_seq ?_
            refine W_region ?_
            refine Rg_run rfl o_assignc ?_
            refine Rg_run rfl o_assignc ?_
            refine Rg_nil ?_
            refine W_ret ?_
            refine ⟨_, res_tmp2 rfl rfl rfl, ?_⟩
            have e := splitP_none (p := p) (Or.inr ⟨hc1, (pre_yes (pre7 p ▸ hc2)).1, Or.inr (allD_at (k := k) (by omega) (bnot_t hc6))⟩); exact ⟨none, 0, [], by rw [splitOk_none e]; rfl, Sl.none, fun h => absurd h (by rw [splitOk_none e]; decide), hX⟩
          · skip
            refine W_skip ?_
            refine W_region ?_
            refine Rg_run rfl (o_add rfl rfl (by have := hs44.len; unfold I64; omega)) ?_
            refine Rg_run rfl (o_moveh (v := .int _ _) rfl) ?_
            refine Rg_nil ?_
            refine ⟨k + 1, ⟨?_, trivial⟩, ?_, ⟨?_, hXL17⟩, ?_⟩
            · first | rfl | (go_num) | (exact congrArg _ (by omega))
            · repeat (first | exact off_refl _ _ | exact off_mix | refine off_put rfl ?_ | refine off_putN ?_ | refine off_setL rfl ?_ | refine off_mix' rfl ?_)
            · exact ⟨by omega, allD_succ (by omega) hall (bnot_f hc6)⟩
            · omega
        · skip
          replace hc5 := of_decide_eq_false hc5
          refine W_exit ?_
          refine exAt_hit ?_
          refine W_seq ?_
          refine W_region ?_
          refine Rg_run rfl (o_moveh (v := .slice _ _ _) rfl) ?_
          refine Rg_run rfl (o_moveh (v := .slice _ _ _) rfl) ?_
          refine Rg_run rfl (o_llen Tryd.underlying35 rfl) ?_
          refine Rg_run rfl (o_leq rfl rfl) ?_
          refine Rg_run rfl (o_assignh (v := .slice _ _ _) rfl) ?_
          refine Rg_run rfl (o_assignh (v := .bool _) rfl) ?_
          refine Rg_nil ?_
          refine W_ret ?_
          refine ⟨_, res_tmp2 rfl rfl rfl, ?_⟩
          exact split7 hX hc1 (pre_yes (pre7 p ▸ hc2)).1 (all_end (by omega) hall) (hs44.mono (fun g h1 h2 => by omega))

theorem r7valid_ok (w : World) (p : Str) (hp : p.length ≤ 1000000) : Ok Tryd.prog 19 #[str p] w fun v w' => v = .bool (splitOk p) ∧ Ext False w w' := by
  refine Ok_of_W 11 Tryd.func19 rfl rfl rfl ?_
  have hX : Ext False w w := Bel.refl _ _
  refine W_seq ?_
  refine W_region ?_
  refine Rg_run rfl o_assignc ?_
  refine Rg_nil ?_
  refine W_seq ?_
  refine W_region ?_
  refine Rg_run rfl (o_moveh (v := str _) rfl) ?_
  refine Rg_enter rfl (o_call1 Tryd.call57 rfl) (Ok.mono (rsplit_ok _ _ (by first | assumption | omega | (simp; done) | (simp; omega) | (simp at *; omega))) ?_)
  rintro _ w1 ⟨a7, c7, l7, rfl, hs7, hl7, x2⟩
  replace hX := Bel.ex hX x2
  refine Rg_run rfl (o_moveh (v := .tuple _) rfl) ?_
  refine Rg_run rfl (o_extract rfl rfl) ?_
  refine Rg_run rfl (o_extract rfl rfl) ?_
  refine Rg_run rfl (o_assignh (v := .slice _ _ _) rfl) ?_
  refine Rg_run rfl (o_assignh (v := .bool _) rfl) ?_
  refine Rg_nil ?_
  refine W_seq ?_
  refine W_region ?_
  refine Rg_run rfl (o_moveh (v := .bool _) rfl) ?_
  refine Rg_run rfl (o_assignh (v := .bool _) rfl) ?_
  refine Rg_nil ?_
  refine W_ret ?_
  refine ⟨_, res_tmp rfl rfl, ?_⟩
  refine ⟨congrArg Value.bool ?_, hX⟩
  all_goals (rfl)

theorem r7of_ok (β : Prop) (w : World) (vl : Value) (l : List Str) (hl : Rd encS 1 (Lt w.heap.size) w vl l) (nl : l.length ≤ 1000000) (ol : ∀ p ∈ l, (fun p => p.length ≤ 1000000) p) (hlen : (joinP l).length ≤ 140737488355328) : Ok Tryd.prog 24 #[vl] w fun v w' => v = str (joinP l) ∧ Ext β w w' := by
  obtain ⟨al, cl, rfl, hl⟩ := hl; have ml := hl.len
  refine Ok_of_W 21 Tryd.func24 rfl rfl rfl ?_
  have hX : Ext β w w := Bel.refl _ _
  refine W_seq ?_
  refine W_region ?_
  refine Rg_run rfl o_assignc ?_
  refine Rg_nil ?_
  refine W_seq ?_
  refine W_seq ?_
  refine W_region ?_
  refine Rg_run rfl (o_moveh (v := .slice _ _ _) rfl) ?_
  refine Rg_run rfl (o_llen Tryd.underlying35 rfl) ?_
  refine Rg_run rfl (o_eql rfl rfl) ?_
  refine Rg_nil ?_
  refine W_cond rfl (fun hc1 => ?_) (fun hc1 => ?_)
  · skip
    refine W_seq ?_
    refine W_region ?_
    refine Rg_run rfl o_assignc ?_
    refine Rg_nil ?_
    refine W_ret ?_
    refine ⟨_, res_tmp rfl rfl, ?_⟩
    refine ⟨congrArg str ?_, hX⟩
    all_goals
      have h : l = [] := by simpa using hc1
      subst h; rfl
  · skip
    refine W_skip ?_
    refine W_seq ?_
    refine W_region ?_
    refine Rg_run rfl o_assignc ?_
    refine Rg_nil ?_
    refine W_seq ?_
    refine W_seq ?_
    refine W_region ?_
    refine Rg_run rfl (o_moveh (v := .slice _ _ _) rfl) ?_
    refine Rg_run rfl (o_llen Tryd.underlying35 rfl) ?_
    refine Rg_run rfl o_movec ?_
    refine Rg_nil ?_
    refine W_block ?_
    have hne : l ≠ [] := by rintro rfl; simp at hc1
    have hjl := joinP_flat l hne
    refine W_for (α := Nat) [(3, 3), (5, 5), (11, 19)] (fun k => [(11, .int .i64 (k : Int)), (3, str ((l.take k).flatMap (fun s => 47 :: s)))]) (fun k w' => (k ≤ l.length) ∧ Ext β w w') (fun k => l.length - k) 0 ⟨rfl, rfl, trivial⟩ ⟨Nat.zero_le _, Bel.refl _ _⟩ ?_
    rintro k fb3 w2 ⟨hk, hXL1⟩
    replace hX := Bel.ex hX hXL1
    replace hl := hl.ext hXL1
    refine W_seq ?_
    refine W_region ?_
    refine Rg_run rfl (o_lss rfl rfl) ?_
    refine Rg_nil ?_
    refine W_seq ?_
    refine W_cond rfl (fun hc2 => ?_) (fun hc2 => ?_)
    · skip
      replace hc2 := of_decide_eq_true hc2; have hr := flat_take (l := l) (k := k) (by omega); have hr2 := flat_len (l := l) (k + 1); rw [hr, hjl] at hr2; simp only [List.length_append, List.length_singleton] at hr2
      refine W_skip ?_
      refine W_seq ?_
      refine W_block ?_
      refine W_seq ?_
      refine W_region ?_
      refine Rg_run rfl (o_iaR Tryd.underlying35 Tryd.sizeOf9 hl rfl rfl (by first | omega | (unfold I64; omega) | (simp; done) | (simp; omega) | (simp at *; omega))) ?_
      refine Rg_run rfl (o_ldR Tryd.isAgg9 hl rfl rfl (getElem?_of (by first | omega | assumption)) rfl) ?_
      refine Rg_run rfl (o_assignh (v := str _) rfl) ?_
      refine Rg_nil ?_
      refine W_region ?_
      refine Rg_run rfl (o_moveh (v := str _) rfl) ?_
      refine Rg_run rfl (o_moveh (v := str _) rfl) ?_
      refine Rg_run rfl (o_sadd rfl rfl (by rw [List.length_singleton]; omega)) ?_
      refine Rg_run rfl (o_sadd rfl rfl (by rw [List.length_append, List.length_singleton]; omega)) ?_
      refine Rg_run rfl (o_assignh (v := str _) rfl) ?_
      refine Rg_nil ?_
      refine W_region ?_
      refine Rg_run rfl (o_add rfl rfl (by first | omega | (unfold I64; omega) | (simp; done) | (simp; omega) | (simp at *; omega))) ?_
      refine Rg_run rfl (o_moveh (v := .int _ _) rfl) ?_
      refine Rg_nil ?_
      refine ⟨k + 1, ⟨?_, ?_, trivial⟩, ?_, ⟨?_, hXL1⟩, ?_⟩
      · first | rfl | (go_num) | (exact congrArg _ (by omega))
      · exact congrArg str (by rw [flat_take (by omega)]; simp)
      · repeat (first | exact off_refl _ _ | exact off_mix | refine off_put rfl ?_ | refine off_putN ?_ | refine off_setL rfl ?_ | refine off_mix' rfl ?_)
      · show k + 1 ≤ l.length; omega
      · omega
    · skip
      replace hc2 := of_decide_eq_false hc2
      refine W_exit ?_
      refine exAt_hit ?_
      refine W_seq ?_
      refine W_region ?_
      refine Rg_run rfl (o_moveh (v := str _) rfl) ?_
      refine Rg_run rfl (o_assignh (v := str _) rfl) ?_
      refine Rg_nil ?_
      refine W_ret ?_
      refine ⟨_, res_tmp rfl rfl, ?_⟩
      refine ⟨congrArg str ?_, hX⟩
      all_goals (rw [List.take_of_length_le (by omega)]; exact hjl)

theorem r7names_ok (w : World) (p : Str) (hp : p.length ≤ 1000000) : Ok Tryd.prog 23 #[str p] w fun v w' => Rd encS 1 (Lt w'.heap.size) w' v (splitL p) ∧ Ext False w w' := by
  refine Ok_of_W 13 Tryd.func23 rfl rfl rfl ?_
  have hX : Ext False w w := Bel.refl _ _
  refine W_seq ?_
  refine W_region ?_
  refine Rg_run rfl o_assignc ?_
  refine Rg_nil ?_
  refine W_seq ?_
  refine W_region ?_
  refine Rg_run rfl (o_moveh (v := str _) rfl) ?_
  refine Rg_enter rfl (o_call1 Tryd.call57 rfl) (Ok.mono (rsplit_ok _ _ (by first | assumption | omega | (simp; done) | (simp; omega) | (simp at *; omega))) ?_)
  rintro _ w1 ⟨a7, c7, l7, rfl, hs7, hl7, x2⟩
  replace hX := Bel.ex hX x2
  refine Rg_run rfl (o_moveh (v := .tuple _) rfl) ?_
  refine Rg_run rfl (o_extract rfl rfl) ?_
  refine Rg_run rfl (o_extract rfl rfl) ?_
  refine Rg_run rfl (o_assignh (v := .slice _ _ _) rfl) ?_
  refine Rg_run rfl (o_assignh (v := .bool _) rfl) ?_
  refine Rg_nil ?_
  refine W_seq ?_
  refine W_seq ?_
  refine W_region ?_
  refine Rg_run rfl (o_moveh (v := .bool _) rfl) ?_
  refine Rg_run rfl (o_not rfl) ?_
  refine Rg_nil ?_
  refine W_cond rfl (fun hc1 => ?_) (fun hc1 => ?_)
  · skip
    refine W_seq ?_
    refine W_region ?_
    refine Rg_run rfl o_assignc ?_
    refine Rg_nil ?_
    refine W_ret ?_
    refine ⟨_, res_tmp rfl rfl, ?_⟩
    exact ⟨by rw [splitL_none (splitP_bad (bnot_t hc1))]; exact Rd.none, hX⟩
  · skip
    refine W_skip ?_
    refine W_seq ?_
    refine W_region ?_
    refine Rg_run rfl (o_moveh (v := .slice _ _ _) rfl) ?_
    refine Rg_run rfl (o_assignh (v := .slice _ _ _) rfl) ?_
    refine Rg_nil ?_
    refine W_ret ?_
    refine ⟨_, res_tmp rfl rfl, ?_⟩
    obtain rfl := hl7 (bnot_f hc1); exact ⟨hs7.trd, hX⟩

theorem r7join_ok (β : Prop) (w : World) (vl : Value) (l : List Str) (hl : Rd encS 1 (Lt w.heap.size) w vl l) (nl : l.length ≤ 12) (ol : ∀ p ∈ l, (fun p => p.length ≤ 40) p) : Ok Tryd.prog 48 #[vl] w fun v w' => v = .int .i64 ((joinE l).2) ∧ Ext β w w' := by
  obtain ⟨al, cl, rfl, hl⟩ := hl; have ml := hl.len
  refine Ok_of_W 18 Tryd.func48 rfl rfl rfl ?_
  have hX : Ext β w w := Bel.refl _ _
  refine W_seq ?_
  refine W_region ?_
  refine Rg_run rfl o_assignc ?_
  refine Rg_nil ?_
  refine W_seq ?_
  refine W_seq ?_
  refine W_region ?_
  refine Rg_run rfl (o_moveh (v := .slice _ _ _) rfl) ?_
  refine Rg_run rfl (o_llen Tryd.underlying35 rfl) ?_
  refine Rg_run rfl (o_gtr rfl rfl) ?_
  refine Rg_nil ?_
  refine W_cond rfl (fun hc1 => ?_) (fun hc1 => ?_)
  · skip
    replace hc1 := of_decide_eq_true hc1
    refine W_seq ?_
    refine W_region ?_
    refine Rg_run rfl o_assignc ?_
    refine Rg_nil ?_
    refine W_ret ?_
    refine ⟨_, res_tmp rfl rfl, ?_⟩
    refine ⟨congrArg (Value.int .i64) ?_, hX⟩
    all_goals (rw [joinE_a hc1])
  · skip
    replace hc1 := of_decide_eq_false hc1
    refine W_skip ?_
    refine W_seq ?_
    refine W_seq ?_
    refine W_region ?_
    refine Rg_run rfl (o_moveh (v := .slice _ _ _) rfl) ?_
    refine Rg_run rfl (o_llen Tryd.underlying35 rfl) ?_
    refine Rg_run rfl o_movec ?_
    refine Rg_nil ?_
    refine W_block ?_
    refine W_for (α := Nat) [(2, 2), (4, 4), (10, 17)] (fun k => [(10, .int .i64 (k : Int))]) (fun k w' => (k ≤ l.length ∧ (l.take k).all namedS = true) ∧ Ext β w w') (fun k => l.length - k) 0 ⟨rfl, trivial⟩ ⟨⟨Nat.zero_le _, by simp⟩, Bel.refl _ _⟩ ?_
    rintro k fb3 w2 ⟨⟨hk, hall⟩, hXL1⟩
    replace hX := Bel.ex hX hXL1
    replace hl := hl.ext hXL1
    refine W_seq ?_
    refine W_region ?_
    refine Rg_run rfl (o_lss rfl rfl) ?_
    refine Rg_nil ?_
    refine W_seq ?_
    refine W_cond rfl (fun hc2 => ?_) (fun hc2 => ?_)
    · skip
      replace hc2 := of_decide_eq_true hc2
      refine W_skip ?_
      refine W_seq ?_
      refine W_block ?_
      refine W_seq ?_
      refine W_region ?_
      refine Rg_run rfl (o_iaR Tryd.underlying35 Tryd.sizeOf9 hl rfl rfl (by first | omega | (unfold I64; omega) | (simp; done) | (simp; omega) | (simp at *; omega))) ?_
      refine Rg_run rfl (o_ldR Tryd.isAgg9 hl rfl rfl (getE [] (by omega)) rfl) ?_
      refine Rg_run rfl (o_assignh (v := str _) rfl) ?_
      refine Rg_nil ?_
      refine W_seq ?_
      refine W_region ?_
      refine Rg_run rfl (o_moveh (v := str _) rfl) ?_
      refine Rg_enter rfl (o_call1 Tryd.call71 rfl) (Ok.mono (isname_ok (β) _ _ (by have := ol _ (getD_mem (z := []) (show k < l.length by omega)); simp only at this; omega)) ?_)
      rintro _ w4 ⟨rfl, x5⟩
      replace hX := Bel.ex hX x5
      replace hXL1 := Bel.ex hXL1 x5
      replace hl := hl.ext x5
      refine Rg_run rfl (o_not rfl) ?_
      refine Rg_nil ?_
      refine W_cond rfl (fun hc3 => ?_) (fun hc3 => ?_)
      · skip
        refine W_seq ?_
        refine W_region ?_
        refine Rg_run rfl o_assignc ?_
        refine Rg_nil ?_
        refine W_ret ?_
        refine ⟨_, res_tmp rfl rfl, ?_⟩
        refine ⟨congrArg (Value.int .i64) ?_, hX⟩
        all_goals (rw [joinE_b hc1 (allD_at (k := k) (by omega) (bnot_t hc3))])
      · skip
        refine W_skip ?_
        refine W_region ?_
        refine Rg_run rfl (o_add rfl rfl (by first | omega | (unfold I64; omega) | (simp; done) | (simp; omega) | (simp at *; omega))) ?_
        refine Rg_run rfl (o_moveh (v := .int _ _) rfl) ?_
        refine Rg_nil ?_
        refine ⟨k + 1, ⟨?_, trivial⟩, ?_, ⟨?_, hXL1⟩, ?_⟩
        · first | rfl | (go_num) | (exact congrArg _ (by omega))
        · repeat (first | exact off_refl _ _ | exact off_mix | refine off_put rfl ?_ | refine off_putN ?_ | refine off_setL rfl ?_ | refine off_mix' rfl ?_)
        · exact ⟨by omega, allD_succ (by omega) hall (bnot_f hc3)⟩
        · omega
    · skip
      replace hc2 := of_decide_eq_false hc2
      refine W_exit ?_
      refine exAt_hit ?_
      refine W_seq ?_
      refine W_region ?_
      refine Rg_run rfl o_assignc ?_
      refine Rg_nil ?_
      refine W_ret ?_
      refine ⟨_, res_tmp rfl rfl, ?_⟩
      refine ⟨congrArg (Value.int .i64) ?_, hX⟩
      all_goals (rw [joinE_c hc1 (all_end (by omega) hall)])

theorem r7ofK_ok (a : Option Addr) (c : Nat) (p : Str) (k : Nat) {D : Nat → Prop} (w : World) (hs : Sl encS 1 D w a c (splitL p)) (hk : k ≤ (splitL p).length) : Ok Tryd.prog 24 #[.slice a k c] w fun v w' => v = str (joinP ((splitL p).take k)) ∧ Ext False w w' := by
  have h8 := splitL_len p
  have h := r7of_ok False w _ ((splitL p).take k) (hs.take k).trd (by rw [List.length_take]; omega) (fun q hq => Nat.le_trans (named_len (List.all_eq_true.1 (anc_named (p := p) k) q hq)) (by omega)) (by have := anc_len (p := p) k; omega)
  rwa [List.length_take, Nat.min_eq_left hk] at h

theorem r7common_ok (β : Prop) (a b : Option Addr) (c d : Nat) (A B : Nat → Prop) (x y : List Str) (w : World) (hx : Sl encS 1 A w a c x) (hy : Sl encS 1 B w b d y) : Ok Tryd.prog 58 #[.slice a x.length c, .slice b y.length d] w fun v w' => v = .int .i64 (commonS x y : Nat) ∧ Ext β w w' := by
  have hlx := hx.len; have hly := hy.len
  refine Ok_of_W 30 Tryd.func58 rfl rfl rfl ?_
  have hX : Ext β w w := Bel.refl _ _
  refine W_seq ?_
  refine W_region ?_
  refine Rg_run rfl o_assignc ?_
  refine Rg_nil ?_
  refine W_seq ?_
  refine W_region ?_
  refine Rg_run rfl o_assignc ?_
  refine Rg_nil ?_
  refine W_seq ?_
  refine W_block ?_
  refine W_for (α := Nat) [(5, 28)] (fun k => [(5, .int .i64 (k : Int))]) (fun k w' => (k ≤ x.length ∧ k ≤ y.length ∧ (∀ i, i < k → x[i]? = y[i]?)) ∧ Ext β w w') (fun k => x.length - k) 0 ⟨rfl, trivial⟩ ⟨⟨by omega, by omega, fun i hi => absurd hi (Nat.not_lt_zero _)⟩, Bel.refl _ _⟩ ?_
  rintro k fb3 w2 ⟨hk, hXL1⟩
  replace hX := Bel.ex hX hXL1
  replace hx := hx.ext hXL1
  replace hy := hy.ext hXL1
  refine W_seq ?_
  refine W_seq ?_
  apply W_draw (β := β) [peq _, peq _, peq _, peq _, peq _, peq _, peq _, peq _, peq _, peq _, peq _, peq _, peq _, peq _, peq _, peq _, peq _, peq _, peq _, peq _, peq _] 21 mixed (by kernel_rfl) rfl ⟨peq_stable _, peq_stable _, peq_stable _, peq_stable _, peq_stable _, peq_stable _, peq_stable _, peq_stable _, peq_stable _, peq_stable _, peq_stable _, peq_stable _, peq_stable _, peq_stable _, peq_stable _, peq_stable _, peq_stable _, peq_stable _, peq_stable _, peq_stable _, peq_stable _, trivial⟩ ?ob2 ?fin2
  case ob2 =>
    refine OblL_cons (fun w4 x5 => ?_) ?_
    · skip
      have hx := hx.ext x5
      have hy := hy.ext x5
      refine bindP_nil ?_
      exact OpS_v rfl (o_moveh (v := .int _ _) rfl)
    refine OblL_cons (fun w6 x7 => ?_) ?_
    · skip
      have hx := hx.ext x7
      have hy := hy.ext x7
      refine bindP_nil ?_
      exact OpS_v rfl (o_moveh (v := .slice _ _ _) rfl)
    refine OblL_cons (fun w8 x9 => ?_) ?_
    · skip
      have hx := hx.ext x9
      have hy := hy.ext x9
      refine bindP_eq ?_
      refine bindP_nil ?_
      exact OpS_v rfl (o_llen Tryd.underlying35 rfl)
    refine OblL_cons (fun w10 x11 => ?_) ?_
    · skip
      have hx := hx.ext x11
      have hy := hy.ext x11
      refine bindP_eq ?_
      refine bindP_eq ?_
      refine bindP_nil ?_
      exact OpS_v rfl (o_lss rfl rfl)
    refine OblL_cons (fun w12 x13 => ?_) ?_
    · skip
      have hx := hx.ext x13
      have hy := hy.ext x13
      refine bindP_eq ?_
      refine bindP_nil ?_
      exact OpS_v rfl (o_moveh (v := .bool _) rfl)
    refine OblL_cons (fun w14 x15 => ?_) ?_
    · skip
      have hx := hx.ext x15
      have hy := hy.ext x15
      refine bindP_eq ?_
      refine bindP_nil ?_
      exact OpS_may 4 10 rfl rfl (fun hg => (o_moveh (v := .int _ _) rfl))
    refine OblL_cons (fun w16 x17 => ?_) ?_
    · skip
      have hx := hx.ext x17
      have hy := hy.ext x17
      refine bindP_eq ?_
      refine bindP_nil ?_
      exact OpS_may 4 10 rfl rfl (fun hg => (o_moveh (v := .slice _ _ _) rfl))
    refine OblL_cons (fun w18 x19 => ?_) ?_
    · skip
      have hx := hx.ext x19
      have hy := hy.ext x19
      refine bindP_eq ?_
      refine bindP_eq ?_
      refine bindP_nil ?_
      exact OpS_may 4 10 rfl rfl (fun hg => (o_llen Tryd.underlying35 (gsel (u := undef) hg)))
    refine OblL_cons (fun w20 x21 => ?_) ?_
    · skip
      have hx := hx.ext x21
      have hy := hy.ext x21
      refine bindP_eq ?_
      refine bindP_eq ?_
      refine bindP_eq ?_
      refine bindP_nil ?_
      exact OpS_may 4 10 rfl rfl (fun hg => (o_lss (gsel (u := undef) hg) (gsel (u := undef) hg)))
    refine OblL_cons (fun w22 x23 => ?_) ?_
    · skip
      have hx := hx.ext x23
      have hy := hy.ext x23
      refine bindP_eq ?_
      refine bindP_eq ?_
      refine bindP_nil ?_
      exact OpS_v rfl (o_and (u := undef) rfl rfl)
    refine OblL_cons (fun w24 x25 => ?_) ?_
    · skip
      have hx := hx.ext x25
      have hy := hy.ext x25
      refine bindP_eq ?_
      refine bindP_eq ?_
      refine bindP_nil ?_
      exact OpS_v rfl (o_moveh (v := .bool _) rfl)
    refine OblL_cons (fun w26 x27 => ?_) ?_
    · skip
      have hx := hx.ext x27
      have hy := hy.ext x27
      refine bindP_eq ?_
      refine bindP_nil ?_
      exact OpS_may 10 16 rfl rfl (fun hg => (o_moveh (v := .slice _ _ _) rfl))
    refine OblL_cons (fun w28 x29 => ?_) ?_
    · skip
      have hx := hx.ext x29
      have hy := hy.ext x29
      refine bindP_eq ?_
      refine bindP_nil ?_
      exact OpS_may 10 16 rfl rfl (fun hg => (o_moveh (v := .int _ _) rfl))
    refine OblL_cons (fun w30 x31 => ?_) ?_
    · skip
      have hx := hx.ext x31
      have hy := hy.ext x31
      refine bindP_eq ?_
      refine bindP_eq ?_
      refine bindP_eq ?_
      refine bindP_nil ?_
      exact OpS_may 10 16 rfl rfl (fun hg => (o_iaR Tryd.underlying35 Tryd.sizeOf9 hx (gsel (u := undef) hg) (gsel (u := undef) hg) (common_i hg)))
    refine OblL_cons (fun w32 x33 => ?_) ?_
    · skip
      have hx := hx.ext x33
      have hy := hy.ext x33
      refine bindP_eq ?_
      refine bindP_eq ?_
      refine bindP_nil ?_
      exact OpS_may 10 16 rfl rfl (fun hg => (o_ldR Tryd.isAgg9 hx rfl (gsel (u := undef) hg) (getE [] (common_i hg)) rfl))
    refine OblL_cons (fun w34 x35 => ?_) ?_
    · skip
      have hx := hx.ext x35
      have hy := hy.ext x35
      refine bindP_eq ?_
      refine bindP_nil ?_
      exact OpS_may 10 16 rfl rfl (fun hg => (o_moveh (v := .slice _ _ _) rfl))
    refine OblL_cons (fun w36 x37 => ?_) ?_
    · skip
      have hx := hx.ext x37
      have hy := hy.ext x37
      refine bindP_eq ?_
      refine bindP_nil ?_
      exact OpS_may 10 16 rfl rfl (fun hg => (o_moveh (v := .int _ _) rfl))
    refine OblL_cons (fun w38 x39 => ?_) ?_
    · skip
      have hx := hx.ext x39
      have hy := hy.ext x39
      refine bindP_eq ?_
      refine bindP_eq ?_
      refine bindP_eq ?_
      refine bindP_nil ?_
      exact OpS_may 10 16 rfl rfl (fun hg => (o_iaR Tryd.underlying35 Tryd.sizeOf9 hy (gsel (u := undef) hg) (gsel (u := undef) hg) (common_j hg)))
    refine OblL_cons (fun w40 x41 => ?_) ?_
    · skip
      have hx := hx.ext x41
      have hy := hy.ext x41
      refine bindP_eq ?_
      refine bindP_eq ?_
      refine bindP_nil ?_
      exact OpS_may 10 16 rfl rfl (fun hg => (o_ldR Tryd.isAgg9 hy rfl (gsel (u := undef) hg) (getE [] (common_j hg)) rfl))
    refine OblL_cons (fun w42 x43 => ?_) ?_
    · skip
      have hx := hx.ext x43
      have hy := hy.ext x43
      refine bindP_eq ?_
      refine bindP_eq ?_
      refine bindP_eq ?_
      refine bindP_nil ?_
      exact OpS_may 10 16 rfl rfl (fun hg => (o_seql (gsel (u := undef) hg) (gsel (u := undef) hg)))
    refine OblL_cons (fun w44 x45 => ?_) ?_
    · skip
      have hx := hx.ext x45
      have hy := hy.ext x45
      refine bindP_eq ?_
      refine bindP_eq ?_
      refine bindP_nil ?_
      exact OpS_v rfl (o_and (u := undef) rfl rfl)
    exact OblL_nil
  case fin2 =>
    intro w46 x47
    replace hX := Bel.ex hX x47
    replace hXL1 := Bel.ex hXL1 x47
    replace hx := hx.ext x47
    replace hy := hy.ext x47
    refine bindP_eq ?_
    refine bindP_eq ?_
    refine bindP_eq ?_
    refine bindP_eq ?_
    refine bindP_eq ?_
    refine bindP_eq ?_
    refine bindP_eq ?_
    refine bindP_eq ?_
    refine bindP_eq ?_
    refine bindP_eq ?_
    refine bindP_eq ?_
    refine bindP_eq ?_
    refine bindP_eq ?_
    refine bindP_eq ?_
    refine bindP_eq ?_
    refine bindP_eq ?_
    refine bindP_eq ?_
    refine bindP_eq ?_
    refine bindP_eq ?_
    refine bindP_eq ?_
    refine bindP_eq ?_
    refine bindP_nil ?_
    refine Rg_nil ?_
    refine W_cond rfl (fun hc1 => ?_) (fun hc1 => ?_)
    · skip
      refine W_skip ?_
      refine W_block ?_
      refine W_region ?_
      refine Rg_run rfl (o_moveh (v := .int _ _) rfl) ?_
      refine Rg_run rfl (o_add rfl rfl (by have := common_lt hc1; unfold I64; omega)) ?_
      refine Rg_run rfl (o_assignh (v := .int _ _) rfl) ?_
      refine Rg_nil ?_
      refine ⟨k + 1, ⟨?_, trivial⟩, ?_, ⟨?_, hXL1⟩, ?_⟩
      · first | rfl | (go_num) | (exact congrArg _ (by omega))
      · repeat (first | exact off_refl _ _ | exact off_mix | refine off_put rfl ?_ | refine off_putN ?_ | refine off_setL rfl ?_ | refine off_mix' rfl ?_)
      · exact common_next hk hc1
      · have := common_lt hc1; omega
    · skip
      refine W_exit ?_
      refine exAt_hit ?_
      refine W_seq ?_
      refine W_region ?_
      refine Rg_run rfl (o_moveh (v := .int _ _) rfl) ?_
      refine Rg_run rfl (o_assignh (v := .int _ _) rfl) ?_
      refine Rg_nil ?_
      refine W_ret ?_
      refine ⟨_, res_tmp rfl rfl, ?_⟩
      refine ⟨congrArg (Value.int .i64) ?_, hX⟩
      all_goals (exact congrArg Int.ofNat (common_end hk hc1).symm)

theorem r7within_ok (w : World) (p : Str) (hp : p.length ≤ 1000000) (q : Str) (hq : q.length ≤ 1000000) : Ok Tryd.prog 17 #[str p, str q] w fun v w' => v = .bool (withinS p q) ∧ Ext False w w' := by
  refine Ok_of_W 31 Tryd.func17 rfl rfl rfl ?_
  have hX : Ext False w w := Bel.refl _ _
  refine W_seq ?_
  refine W_region ?_
  refine Rg_run rfl o_assignc ?_
  refine Rg_nil ?_
  refine W_seq ?_
  refine W_region ?_
  refine Rg_run rfl (o_moveh (v := str _) rfl) ?_
  refine Rg_enter rfl (o_call1 Tryd.call57 rfl) (Ok.mono (rsplit_ok _ _ (by first | assumption | omega | (simp; done) | (simp; omega) | (simp at *; omega))) ?_)
  rintro _ w1 ⟨a11, c11, l11, rfl, hs11, hl11, x2⟩
  replace hX := Bel.ex hX x2
  refine Rg_run rfl (o_moveh (v := .tuple _) rfl) ?_
  refine Rg_run rfl (o_extract rfl rfl) ?_
  refine Rg_run rfl (o_extract rfl rfl) ?_
  refine Rg_run rfl (o_assignh (v := .slice _ _ _) rfl) ?_
  refine Rg_run rfl (o_assignh (v := .bool _) rfl) ?_
  refine Rg_nil ?_
  refine W_seq ?_
  refine W_region ?_
  refine Rg_run rfl (o_moveh (v := str _) rfl) ?_
  refine Rg_enter rfl (o_call1 Tryd.call57 rfl) (Ok.mono (rsplit_ok _ _ (by first | assumption | omega | (simp; done) | (simp; omega) | (simp at *; omega))) ?_)
  rintro _ w3 ⟨a16, c16, l16, rfl, hs16, hl16, x4⟩
  replace hX := Bel.ex hX x4
  replace hs11 := hs11.ext x4
  refine Rg_run rfl (o_moveh (v := .tuple _) rfl) ?_
  refine Rg_run rfl (o_extract rfl rfl) ?_
  refine Rg_run rfl (o_extract rfl rfl) ?_
  refine Rg_run rfl (o_assignh (v := .slice _ _ _) rfl) ?_
  refine Rg_run rfl (o_assignh (v := .bool _) rfl) ?_
  refine Rg_nil ?_
  refine W_seq ?_
  refine W_region ?_
  refine Rg_run rfl (o_moveh (v := .bool _) rfl) ?_
  refine Rg_run rfl (o_moveh (v := .bool _) rfl) ?_
  refine Rg_may 1 20 rfl rfl rfl (fun hg => (o_moveh (v := .bool _) rfl)) ?_
  refine Rg_run rfl (o_and (u := undef) rfl rfl) ?_
  refine Rg_run rfl (o_moveh (v := .bool _) rfl) ?_
  refine Rg_may 4 23 rfl rfl rfl (fun hg => (o_moveh (v := .slice _ _ _) rfl)) ?_
  refine Rg_may 4 23 rfl rfl rfl (fun hg => (o_moveh (v := .slice _ _ _) rfl)) ?_
  refine Rg_mayCall 4 23 rfl rfl rfl (fun hg => ⟨(o_call2 Tryd.call58 (gsel (u := undef) hg) (gsel (u := undef) hg)), r7common_ok (False) _ _ _ _ _ _ _ _ _ hs11 hs16⟩) ?_
  intro w5 x6
  replace hX := Bel.ex hX x6
  replace hs11 := hs11.ext x6
  replace hs16 := hs16.ext x6
  refine Rg_may 4 23 rfl rfl rfl (fun hg => (o_moveh (v := .slice _ _ _) rfl)) ?_
  refine Rg_may 4 23 rfl rfl rfl (fun hg => (o_llen Tryd.underlying35 (gsel (u := undef) hg))) ?_
  refine Rg_may 4 23 rfl rfl rfl (fun hg => (o_eql (gsel (u := undef) hg) (gsel (u := undef) hg))) ?_
  refine Rg_run rfl (o_and (u := undef) rfl rfl) ?_
  refine Rg_run rfl (o_assignh (v := .bool _) rfl) ?_
  refine Rg_nil ?_
  refine W_ret ?_
  refine ⟨_, res_tmp rfl rfl, ?_⟩
  refine ⟨congrArg Value.bool ?_, hX⟩
  all_goals (exact r7within_eq hl11 hl16)

theorem r7comm_ok (w : World) (p : Str) (hp : p.length ≤ 1000000) (q : Str) (hq : q.length ≤ 1000000) : Ok Tryd.prog 18 #[str p, str q] w fun v w' => v = str (commonP p q) ∧ Ext False w w' := by
  refine Ok_of_W 31 Tryd.func18 rfl rfl rfl ?_
  have hX : Ext False w w := Bel.refl _ _
  refine W_seq ?_
  refine W_region ?_
  refine Rg_run rfl o_assignc ?_
  refine Rg_nil ?_
  refine W_seq ?_
  refine W_region ?_
  refine Rg_run rfl (o_moveh (v := str _) rfl) ?_
  refine Rg_enter rfl (o_call1 Tryd.call57 rfl) (Ok.mono (rsplit_ok _ _ (by first | assumption | omega | (simp; done) | (simp; omega) | (simp at *; omega))) ?_)
  rintro _ w1 ⟨a11, c11, l11, rfl, hs11, hl11, x2⟩
  replace hX := Bel.ex hX x2
  refine Rg_run rfl (o_moveh (v := .tuple _) rfl) ?_
  refine Rg_run rfl (o_extract rfl rfl) ?_
  refine Rg_run rfl (o_extract rfl rfl) ?_
  refine Rg_run rfl (o_assignh (v := .slice _ _ _) rfl) ?_
  refine Rg_run rfl (o_assignh (v := .bool _) rfl) ?_
  refine Rg_nil ?_
  refine W_seq ?_
  refine W_region ?_
  refine Rg_run rfl (o_moveh (v := str _) rfl) ?_
  refine Rg_enter rfl (o_call1 Tryd.call57 rfl) (Ok.mono (rsplit_ok _ _ (by first | assumption | omega | (simp; done) | (simp; omega) | (simp at *; omega))) ?_)
  rintro _ w3 ⟨a16, c16, l16, rfl, hs16, hl16, x4⟩
  replace hX := Bel.ex hX x4
  replace hs11 := hs11.ext x4
  refine Rg_run rfl (o_moveh (v := .tuple _) rfl) ?_
  refine Rg_run rfl (o_extract rfl rfl) ?_
  refine Rg_run rfl (o_extract rfl rfl) ?_
  refine Rg_run rfl (o_assignh (v := .slice _ _ _) rfl) ?_
  refine Rg_run rfl (o_assignh (v := .bool _) rfl) ?_
  refine Rg_nil ?_
  refine W_seq ?_
  refine W_seq ?_
  refine W_region ?_
  refine Rg_run rfl (o_moveh (v := .bool _) rfl) ?_
  refine Rg_run rfl (o_not rfl) ?_
  refine Rg_run rfl (o_moveh (v := .bool _) rfl) ?_
  refine Rg_may 2 21 rfl rfl rfl (fun hg => (o_moveh (v := .bool _) rfl)) ?_
  refine Rg_may 2 21 rfl rfl rfl (fun hg => (o_not (gsel (u := undef) hg))) ?_
  refine Rg_run rfl (o_or (u := undef) rfl rfl) ?_
  refine Rg_nil ?_
  refine W_cond rfl (fun hc1 => ?_) (fun hc1 => ?_)
  · skip
    refine W_seq ?_
    refine W_region ?_
    refine Rg_run rfl o_assignc ?_
    refine Rg_nil ?_
    refine W_ret ?_
    refine ⟨_, res_tmp rfl rfl, ?_⟩
    refine ⟨congrArg str ?_, hX⟩
    all_goals (rw [commonP_a hc1])
  · skip
    obtain ⟨ho1, ho2⟩ := ok_both hc1; obtain rfl := hl11 ho1; obtain rfl := hl16 ho2
    refine W_skip ?_
    refine W_seq ?_
    refine W_region ?_
    refine Rg_run rfl (o_moveh (v := .slice _ _ _) rfl) ?_
    refine Rg_run rfl (o_moveh (v := .slice _ _ _) rfl) ?_
    refine Rg_run rfl (o_moveh (v := .slice _ _ _) rfl) ?_
    refine Rg_enter rfl (o_call2 Tryd.call58 rfl rfl) (Ok.mono (r7common_ok (False) _ _ _ _ _ _ _ _ _ hs11 hs16) ?_)
    rintro _ w5 ⟨rfl, x6⟩
    replace hX := Bel.ex hX x6
    replace hs11 := hs11.ext x6
    replace hs16 := hs16.ext x6
    refine Rg_run rfl (o_slto (j := commonS (splitL p) (splitL q)) Tryd.underlying35 Tryd.sizeOf9 rfl rfl (by have := hs11.le; have := (commonS_le (splitL p) (splitL q)).1; omega)) ?_
    refine Rg_enter rfl (o_call1 Tryd.call24 rfl) (Ok.mono (r7ofK_ok _ _ p _ _ hs11 (commonS_le _ _).1) ?_)
    rintro _ w7 ⟨rfl, x8⟩
    replace hX := Bel.ex hX x8
    replace hs11 := hs11.ext x8
    replace hs16 := hs16.ext x8
    refine Rg_run rfl (o_assignh (v := str _) rfl) ?_
    refine Rg_nil ?_
    refine W_ret ?_
    refine ⟨_, res_tmp rfl rfl, ?_⟩
    refine ⟨congrArg str ?_, hX⟩
    all_goals (rw [commonP_b hc1])

theorem r7bl_ok (β : Prop) (w : World) (a : Str) (ha : a.length ≤ 1000000) (b : Str) (hb : b.length ≤ 1000000) : Ok Tryd.prog 59 #[str a, str b] w fun v w' => v = .bool (Op.bytesLess a b) ∧ Ext β w w' := by
  refine Ok_of_W 37 Tryd.func59 rfl rfl rfl ?_
  have hX : Ext β w w := Bel.refl _ _
  refine W_seq ?_
  refine W_region ?_
  refine Rg_run rfl o_assignc ?_
  refine Rg_nil ?_
  refine W_seq ?_
  refine W_seq ?_
  refine W_region ?_
  refine Rg_run rfl o_assignc ?_
  refine Rg_nil ?_
  refine W_block ?_
  refine W_for (α := Nat) [(4, 31)] (fun k => [(5, .int .i64 (k : Int))]) (fun k w' => (k ≤ a.length ∧ k ≤ b.length ∧ Op.bytesLess a b = Op.bytesLess (a.drop k) (b.drop k)) ∧ Ext β w w') (fun k => a.length - k) 0 ⟨rfl, trivial⟩ ⟨⟨by omega, by omega, rfl⟩, Bel.refl _ _⟩ ?_
  rintro k fb3 w2 ⟨⟨hk, hk2, hall⟩, hXL1⟩
  replace hX := Bel.ex hX hXL1
  refine W_seq ?_
  refine W_seq ?_
  refine W_region ?_
  refine Rg_run rfl (o_moveh (v := .int _ _) rfl) ?_
  refine Rg_run rfl (o_moveh (v := str _) rfl) ?_
  refine Rg_run rfl (o_slen Tryd.underlying9 rfl) ?_
  refine Rg_run rfl (o_lss rfl rfl) ?_
  refine Rg_run rfl (o_moveh (v := .bool _) rfl) ?_
  refine Rg_may 4 10 rfl rfl rfl (fun hg => (o_moveh (v := .int _ _) rfl)) ?_
  refine Rg_may 4 10 rfl rfl rfl (fun hg => (o_moveh (v := str _) rfl)) ?_
  refine Rg_may 4 10 rfl rfl rfl (fun hg => (o_slen Tryd.underlying9 (gsel (u := undef) hg))) ?_
  refine Rg_may 4 10 rfl rfl rfl (fun hg => (o_lss (gsel (u := undef) hg) (gsel (u := undef) hg))) ?_
  refine Rg_run rfl (o_and (u := undef) rfl rfl) ?_
  refine Rg_nil ?_
  refine W_cond rfl (fun hc1 => ?_) (fun hc1 => ?_)
  · skip
    have hlt : k < a.length ∧ k < b.length := by simp at hc1; omega
    refine W_skip ?_
    refine W_seq ?_
    refine W_block ?_
    refine W_seq ?_
    apply W_draw (β := β) [peq _, peq _, peq _, peq _, peq _, peq _, peq _] 7 mixed (by kernel_rfl) rfl ⟨peq_stable _, peq_stable _, peq_stable _, peq_stable _, peq_stable _, peq_stable _, peq_stable _, trivial⟩ ?ob4 ?fin4
    case ob4 =>
      refine OblL_cons (fun w4 x5 => ?_) ?_
      · skip
        refine bindP_nil ?_
        exact OpS_v rfl (o_moveh (v := str _) rfl)
      refine OblL_cons (fun w6 x7 => ?_) ?_
      · skip
        refine bindP_nil ?_
        exact OpS_v rfl (o_moveh (v := .int _ _) rfl)
      refine OblL_cons (fun w8 x9 => ?_) ?_
      · skip
        refine bindP_eq ?_
        refine bindP_eq ?_
        refine bindP_nil ?_
        exact OpS_v rfl (o_sidx Tryd.underlying9 rfl rfl (by first | omega | (unfold I64; omega) | (simp; done) | (simp; omega) | (simp at *; omega)))
      refine OblL_cons (fun w10 x11 => ?_) ?_
      · skip
        refine bindP_nil ?_
        exact OpS_v rfl (o_moveh (v := str _) rfl)
      refine OblL_cons (fun w12 x13 => ?_) ?_
      · skip
        refine bindP_nil ?_
        exact OpS_v rfl (o_moveh (v := .int _ _) rfl)
      refine OblL_cons (fun w14 x15 => ?_) ?_
      · skip
        refine bindP_eq ?_
        refine bindP_eq ?_
        refine bindP_nil ?_
        exact OpS_v rfl (o_sidx Tryd.underlying9 rfl rfl (by first | omega | (unfold I64; omega) | (simp; done) | (simp; omega) | (simp at *; omega)))
      refine OblL_cons (fun w16 x17 => ?_) ?_
      · skip
        refine bindP_eq ?_
        refine bindP_eq ?_
        refine bindP_nil ?_
        exact OpS_v rfl (o_neq rfl rfl)
      exact OblL_nil
    case fin4 =>
      intro w18 x19
      replace hX := Bel.ex hX x19
      replace hXL1 := Bel.ex hXL1 x19
      refine bindP_eq ?_
      refine bindP_eq ?_
      refine bindP_eq ?_
      refine bindP_eq ?_
      refine bindP_eq ?_
      refine bindP_eq ?_
      refine bindP_eq ?_
      refine bindP_nil ?_
      refine Rg_nil ?_
      refine W_cond rfl (fun hc2 => ?_) (fun hc2 => ?_)
      · skip
        refine W_seq ?_
        apply W_draw (β := β) [peq _, peq _, peq _, peq _, peq _, peq _, peq _, peq _] 8 mixed (by kernel_rfl) rfl ⟨peq_stable _, peq_stable _, peq_stable _, peq_stable _, peq_stable _, peq_stable _, peq_stable _, peq_stable _, trivial⟩ ?ob5 ?fin5
        case ob5 =>
          refine OblL_cons (fun w20 x21 => ?_) ?_
          · skip
            refine bindP_nil ?_
            exact OpS_v rfl (o_moveh (v := str _) rfl)
          refine OblL_cons (fun w22 x23 => ?_) ?_
          · skip
            refine bindP_nil ?_
            exact OpS_v rfl (o_moveh (v := .int _ _) rfl)
          refine OblL_cons (fun w24 x25 => ?_) ?_
          · skip
            refine bindP_eq ?_
            refine bindP_eq ?_
            refine bindP_nil ?_
            exact OpS_v rfl (o_sidx Tryd.underlying9 rfl rfl (by first | omega | (unfold I64; omega) | (simp; done) | (simp; omega) | (simp at *; omega)))
          refine OblL_cons (fun w26 x27 => ?_) ?_
          · skip
            refine bindP_nil ?_
            exact OpS_v rfl (o_moveh (v := str _) rfl)
          refine OblL_cons (fun w28 x29 => ?_) ?_
          · skip
            refine bindP_nil ?_
            exact OpS_v rfl (o_moveh (v := .int _ _) rfl)
          refine OblL_cons (fun w30 x31 => ?_) ?_
          · skip
            refine bindP_eq ?_
            refine bindP_eq ?_
            refine bindP_nil ?_
            exact OpS_v rfl (o_sidx Tryd.underlying9 rfl rfl (by first | omega | (unfold I64; omega) | (simp; done) | (simp; omega) | (simp at *; omega)))
          refine OblL_cons (fun w32 x33 => ?_) ?_
          · skip
            refine bindP_eq ?_
            refine bindP_eq ?_
            refine bindP_nil ?_
            exact OpS_v rfl (o_lss rfl rfl)
          refine OblL_cons (fun w34 x35 => ?_) ?_
          · skip
            refine bindP_eq ?_
            refine bindP_eq ?_
            refine bindP_eq ?_
            refine bindP_eq ?_
            refine bindP_eq ?_
            refine bindP_eq ?_
            refine bindP_eq ?_
            refine bindP_eq ?_
            refine bindP_nil ?_
            exact OpS_v rfl (o_assignh (v := .bool _) rfl)
          exact OblL_nil
        case fin5 =>
          intro w36 x37
          replace hX := Bel.ex hX x37
          replace hXL1 := Bel.ex hXL1 x37
          refine bindP_eq ?_
          refine bindP_eq ?_
          refine bindP_eq ?_
          refine bindP_eq ?_
          refine bindP_eq ?_
          refine bindP_eq ?_
          refine bindP_eq ?_
          refine bindP_eq ?_
          refine bindP_nil ?_
          refine Rg_nil ?_
          refine W_ret ?_
          refine ⟨_, res_tmp rfl rfl, ?_⟩
          refine ⟨congrArg Value.bool ?_, hX⟩
          all_goals (rw [hall, bl_ne (by omega) (by omega) (u8_ne hc2)])
      · skip
        refine W_skip ?_
        refine W_region ?_
        refine Rg_run rfl (o_moveh (v := .int _ _) rfl) ?_
        refine Rg_run rfl (o_add rfl rfl (by unfold I64; omega)) ?_
        refine Rg_run rfl (o_assignh (v := .int _ _) rfl) ?_
        refine Rg_nil ?_
        refine ⟨k + 1, ⟨?_, trivial⟩, ?_, ⟨?_, hXL1⟩, ?_⟩
        · first | rfl | (go_num) | (exact congrArg _ (by omega))
        · repeat (first | exact off_refl _ _ | exact off_mix | refine off_put rfl ?_ | refine off_putN ?_ | refine off_setL rfl ?_ | refine off_mix' rfl ?_)
        · exact ⟨by omega, by omega, by rw [hall, bl_step (by omega) (by omega) (u8_eq hc2)]⟩
        · omega
  · skip
    have hge : ¬ (k < a.length ∧ k < b.length) := by simp at hc1; omega
    refine W_exit ?_
    refine exAt_hit ?_
    refine W_seq ?_
    refine W_region ?_
    refine Rg_run rfl (o_moveh (v := str _) rfl) ?_
    refine Rg_run rfl (o_slen Tryd.underlying9 rfl) ?_
    refine Rg_run rfl (o_moveh (v := str _) rfl) ?_
    refine Rg_run rfl (o_slen Tryd.underlying9 rfl) ?_
    refine Rg_run rfl (o_lss rfl rfl) ?_
    refine Rg_run rfl (o_assignh (v := .bool _) rfl) ?_
    refine Rg_nil ?_
    refine W_ret ?_
    refine ⟨_, res_tmp rfl rfl, ?_⟩
    refine ⟨congrArg Value.bool ?_, hX⟩
    all_goals (rw [hall, bl_end hk hk2 hge])

theorem r7less_ok (w : World) (p : Str) (hp : p.length ≤ 1000000) (q : Str) (hq : q.length ≤ 1000000) : Ok Tryd.prog 20 #[str p, str q] w fun v w' => v = .bool (lessP p q) ∧ Ext False w w' := by
  refine Ok_of_W 63 Tryd.func20 rfl rfl rfl ?_
  have hX : Ext False w w := Bel.refl _ _
  refine W_seq ?_
  refine W_region ?_
  refine Rg_run rfl o_assignc ?_
  refine Rg_nil ?_
  refine W_seq ?_
  refine W_region ?_
  refine Rg_run rfl (o_moveh (v := str _) rfl) ?_
  refine Rg_enter rfl (o_call1 Tryd.call57 rfl) (Ok.mono (rsplit_ok _ _ (by first | assumption | omega | (simp; done) | (simp; omega) | (simp at *; omega))) ?_)
  rintro _ w1 ⟨a12, c12, l12, rfl, hs12, hl12, x2⟩
  replace hX := Bel.ex hX x2
  refine Rg_run rfl (o_moveh (v := .tuple _) rfl) ?_
  refine Rg_run rfl (o_extract rfl rfl) ?_
  refine Rg_run rfl (o_extract rfl rfl) ?_
  refine Rg_run rfl (o_assignh (v := .slice _ _ _) rfl) ?_
  refine Rg_run rfl (o_assignh (v := .bool _) rfl) ?_
  refine Rg_nil ?_
  refine W_seq ?_
  refine W_region ?_
  refine Rg_run rfl (o_moveh (v := str _) rfl) ?_
  refine Rg_enter rfl (o_call1 Tryd.call57 rfl) (Ok.mono (rsplit_ok _ _ (by first | assumption | omega | (simp; done) | (simp; omega) | (simp at *; omega))) ?_)
  rintro _ w3 ⟨a17, c17, l17, rfl, hs17, hl17, x4⟩
  replace hX := Bel.ex hX x4
  replace hs12 := hs12.ext x4
  refine Rg_run rfl (o_moveh (v := .tuple _) rfl) ?_
  refine Rg_run rfl (o_extract rfl rfl) ?_
  refine Rg_run rfl (o_extract rfl rfl) ?_
  refine Rg_run rfl (o_assignh (v := .slice _ _ _) rfl) ?_
  refine Rg_run rfl (o_assignh (v := .bool _) rfl) ?_
  refine Rg_nil ?_
  refine W_seq ?_
  refine W_seq ?_
  refine W_region ?_
  refine Rg_run rfl (o_moveh (v := .bool _) rfl) ?_
  refine Rg_run rfl (o_not rfl) ?_
  refine Rg_run rfl (o_moveh (v := .bool _) rfl) ?_
  refine Rg_may 2 22 rfl rfl rfl (fun hg => (o_moveh (v := .bool _) rfl)) ?_
  refine Rg_may 2 22 rfl rfl rfl (fun hg => (o_not (gsel (u := undef) hg))) ?_
  refine Rg_run rfl (o_and (u := undef) rfl rfl) ?_
  refine Rg_nil ?_
  refine W_cond rfl (fun hc1 => ?_) (fun hc1 => ?_)
  · skip
    refine W_seq ?_
    refine W_region ?_
    refine Rg_run rfl (o_moveh (v := str _) rfl) ?_
    refine Rg_run rfl (o_moveh (v := str _) rfl) ?_
    refine Rg_enter rfl (o_call2 Tryd.call59 rfl rfl) (Ok.mono (r7bl_ok (False) _ _ (by first | assumption | omega | (simp; done) | (simp; omega) | (simp at *; omega)) _ (by first | assumption | omega | (simp; done) | (simp; omega) | (simp at *; omega))) ?_)
    rintro _ w5 ⟨rfl, x6⟩
    replace hX := Bel.ex hX x6
    replace hs12 := hs12.ext x6
    replace hs17 := hs17.ext x6
    refine Rg_run rfl (o_assignh (v := .bool _) rfl) ?_
    refine Rg_nil ?_
    refine W_ret ?_
    refine ⟨_, res_tmp rfl rfl, ?_⟩
    refine ⟨congrArg Value.bool ?_, hX⟩
    all_goals (exact less_a hc1)
  · skip
    refine W_skip ?_
    refine W_seq ?_
    refine W_seq ?_
    refine W_region ?_
    refine Rg_run rfl (o_moveh (v := .bool _) rfl) ?_
    refine Rg_run rfl (o_not rfl) ?_
    refine Rg_run rfl (o_moveh (v := .bool _) rfl) ?_
    refine Rg_may 2 31 rfl rfl rfl (fun hg => (o_moveh (v := .bool _) rfl)) ?_
    refine Rg_may 2 31 rfl rfl rfl (fun hg => (o_not (gsel (u := undef) hg))) ?_
    refine Rg_run rfl (o_or (u := undef) rfl rfl) ?_
    refine Rg_nil ?_
    refine W_cond rfl (fun hc2 => ?_) (fun hc2 => ?_)
    · skip
      refine W_seq ?_
      refine W_region ?_
      refine Rg_run rfl (o_moveh (v := .bool _) rfl) ?_
      refine Rg_run rfl (o_assignh (v := .bool _) rfl) ?_
      refine Rg_nil ?_
      refine W_ret ?_
      refine ⟨_, res_tmp rfl rfl, ?_⟩
      refine ⟨congrArg Value.bool ?_, hX⟩
      all_goals (exact less_b hc1 hc2)
    · skip
      obtain ⟨ho1, ho2⟩ := ok_both hc2; obtain rfl := hl12 ho1; obtain rfl := hl17 ho2
      refine W_skip ?_
      refine W_seq ?_
      refine W_region ?_
      refine Rg_run rfl (o_moveh (v := .slice _ _ _) rfl) ?_
      refine Rg_run rfl (o_moveh (v := .slice _ _ _) rfl) ?_
      refine Rg_enter rfl (o_call2 Tryd.call58 rfl rfl) (Ok.mono (r7common_ok (False) _ _ _ _ _ _ _ _ _ hs12 hs17) ?_)
      rintro _ w7 ⟨rfl, x8⟩
      replace hX := Bel.ex hX x8
      replace hs12 := hs12.ext x8
      replace hs17 := hs17.ext x8
      refine Rg_run rfl (o_assignh (v := .int _ _) rfl) ?_
      refine Rg_nil ?_
      refine W_seq ?_
      refine W_seq ?_
      refine W_region ?_
      refine Rg_run rfl (o_moveh (v := .int _ _) rfl) ?_
      refine Rg_run rfl (o_moveh (v := .slice _ _ _) rfl) ?_
      refine Rg_run rfl (o_llen Tryd.underlying35 rfl) ?_
      refine Rg_run rfl (o_eql rfl rfl) ?_
      refine Rg_run rfl (o_moveh (v := .bool _) rfl) ?_
      refine Rg_may 4 43 rfl rfl rfl (fun hg => (o_moveh (v := .int _ _) rfl)) ?_
      refine Rg_may 4 43 rfl rfl rfl (fun hg => (o_moveh (v := .slice _ _ _) rfl)) ?_
      refine Rg_may 4 43 rfl rfl rfl (fun hg => (o_llen Tryd.underlying35 (gsel (u := undef) hg))) ?_
      refine Rg_may 4 43 rfl rfl rfl (fun hg => (o_eql (gsel (u := undef) hg) (gsel (u := undef) hg))) ?_
      refine Rg_run rfl (o_or (u := undef) rfl rfl) ?_
      refine Rg_nil ?_
      refine W_cond rfl (fun hc3 => ?_) (fun hc3 => ?_)
      · skip
        refine W_seq ?_
        refine W_region ?_
        refine Rg_run rfl (o_moveh (v := .slice _ _ _) rfl) ?_
        refine Rg_run rfl (o_llen Tryd.underlying35 rfl) ?_
        refine Rg_run rfl (o_moveh (v := .slice _ _ _) rfl) ?_
        refine Rg_run rfl (o_llen Tryd.underlying35 rfl) ?_
        refine Rg_run rfl (o_lss rfl rfl) ?_
        refine Rg_run rfl (o_assignh (v := .bool _) rfl) ?_
        refine Rg_nil ?_
        refine W_ret ?_
        refine ⟨_, res_tmp rfl rfl, ?_⟩
        refine ⟨congrArg Value.bool ?_, hX⟩
        all_goals (exact less_c hc2 hc3)
      · skip
        have hne := less_ne hc3
        refine W_skip ?_
        refine W_seq ?_
        apply W_draw (β := False) [peq _, peq _, peq _, peq _, peq _, peq _, peq _, peq _, peq _, peq _] 10 mixed (by kernel_rfl) rfl ⟨peq_stable _, peq_stable _, peq_stable _, peq_stable _, peq_stable _, peq_stable _, peq_stable _, peq_stable _, peq_stable _, peq_stable _, trivial⟩ ?ob10 ?fin10
        case ob10 =>
          refine OblL_cons (fun w9 x10 => ?_) ?_
          · skip
            have hs12 := hs12.ext x10
            have hs17 := hs17.ext x10
            refine bindP_nil ?_
            exact OpS_v rfl (o_moveh (v := .slice _ _ _) rfl)
          refine OblL_cons (fun w11 x12 => ?_) ?_
          · skip
            have hs12 := hs12.ext x12
            have hs17 := hs17.ext x12
            refine bindP_nil ?_
            exact OpS_v rfl (o_moveh (v := .int _ _) rfl)
          refine OblL_cons (fun w13 x14 => ?_) ?_
          · skip
            have hs12 := hs12.ext x14
            have hs17 := hs17.ext x14
            refine bindP_eq ?_
            refine bindP_eq ?_
            refine bindP_nil ?_
            exact OpS_v rfl (o_iaR Tryd.underlying35 Tryd.sizeOf9 hs12 rfl rfl (by first | omega | (unfold I64; omega) | (simp; done) | (simp; omega) | (simp at *; omega)))
          refine OblL_cons (fun w15 x16 => ?_) ?_
          · skip
            have hs12 := hs12.ext x16
            have hs17 := hs17.ext x16
            refine bindP_eq ?_
            refine bindP_nil ?_
            exact OpS_v rfl (o_ldR Tryd.isAgg9 hs12 rfl rfl (getE [] hne.1) rfl)
          refine OblL_cons (fun w17 x18 => ?_) ?_
          · skip
            have hs12 := hs12.ext x18
            have hs17 := hs17.ext x18
            refine bindP_nil ?_
            exact OpS_v rfl (o_moveh (v := .slice _ _ _) rfl)
          refine OblL_cons (fun w19 x20 => ?_) ?_
          · skip
            have hs12 := hs12.ext x20
            have hs17 := hs17.ext x20
            refine bindP_nil ?_
            exact OpS_v rfl (o_moveh (v := .int _ _) rfl)
          refine OblL_cons (fun w21 x22 => ?_) ?_
          · skip
            have hs12 := hs12.ext x22
            have hs17 := hs17.ext x22
            refine bindP_eq ?_
            refine bindP_eq ?_
            refine bindP_nil ?_
            exact OpS_v rfl (o_iaR Tryd.underlying35 Tryd.sizeOf9 hs17 rfl rfl (by first | omega | (unfold I64; omega) | (simp; done) | (simp; omega) | (simp at *; omega)))
          refine OblL_cons (fun w23 x24 => ?_) ?_
          · skip
            have hs12 := hs12.ext x24
            have hs17 := hs17.ext x24
            refine bindP_eq ?_
            refine bindP_nil ?_
            exact OpS_v rfl (o_ldR Tryd.isAgg9 hs17 rfl rfl (getE [] hne.2) rfl)
          refine OblL_cons (fun w25 x26 => ?_) ?_
          · skip
            have hs12 := hs12.ext x26
            have hs17 := hs17.ext x26
            refine bindP_eq ?_
            refine bindP_eq ?_
            refine bindP_nil ?_
            exact OpS_call rfl (o_call2 Tryd.call59 rfl rfl) (r7bl_ok (False) _ _ (Nat.le_trans (named_len (List.all_eq_true.1 splitL_named _ (getD_mem hne.1))) (by omega)) _ (Nat.le_trans (named_len (List.all_eq_true.1 splitL_named _ (getD_mem hne.2))) (by omega)))
          refine OblL_cons (fun w27 x28 => ?_) ?_
          · skip
            have hs12 := hs12.ext x28
            have hs17 := hs17.ext x28
            refine bindP_eq ?_
            refine bindP_eq ?_
            refine bindP_eq ?_
            refine bindP_eq ?_
            refine bindP_eq ?_
            refine bindP_eq ?_
            refine bindP_eq ?_
            refine bindP_eq ?_
            refine bindP_eq ?_
            refine bindP_eq ?_
            refine bindP_eq ?_
            refine bindP_nil ?_
            exact OpS_v rfl (o_assignh (v := .bool _) rfl)
          exact OblL_nil
        case fin10 =>
          intro w29 x30
          replace hX := Bel.ex hX x30
          replace hs12 := hs12.ext x30
          replace hs17 := hs17.ext x30
          refine bindP_eq ?_
          refine bindP_eq ?_
          refine bindP_eq ?_
          refine bindP_eq ?_
          refine bindP_eq ?_
          refine bindP_eq ?_
          refine bindP_eq ?_
          refine bindP_eq ?_
          refine bindP_eq ?_
          refine bindP_eq ?_
          refine bindP_nil ?_
          refine Rg_nil ?_
          refine W_ret ?_
          refine ⟨_, res_tmp rfl rfl, ?_⟩
          refine ⟨congrArg Value.bool ?_, hX⟩
          all_goals (exact less_d hc2 hc3)

theorem r7has_ok (β : Prop) (w : World) (vl : Value) (l : List Str) (hl : Rd encS 1 (Lt w.heap.size) w vl l) (nl : l.length ≤ 1000000) (ol : ∀ p ∈ l, (fun p => p.length ≤ 1000000) p) (p : Str) (hp : p.length ≤ 1000000) : Ok Tryd.prog 37 #[vl, str p] w fun v w' => v = .bool (l.any fun q => p == q) ∧ Ext β w w' := by
  obtain ⟨al, cl, rfl, hl⟩ := hl; have ml := hl.len
  refine Ok_of_W 17 Tryd.func37 rfl rfl rfl ?_
  have hX : Ext β w w := Bel.refl _ _
  refine W_seq ?_
  refine W_region ?_
  refine Rg_run rfl o_assignc ?_
  refine Rg_nil ?_
  refine W_seq ?_
  refine W_seq ?_
  refine W_region ?_
  refine Rg_run rfl (o_moveh (v := .slice _ _ _) rfl) ?_
  refine Rg_run rfl (o_llen Tryd.underlying35 rfl) ?_
  refine Rg_run rfl o_movec ?_
  refine Rg_nil ?_
  refine W_block ?_
  refine W_for (α := Nat) [(4, 4), (6, 6), (9, 16)] (fun k => [(9, .int .i64 (k : Int))]) (fun k w' => (k ≤ l.length ∧ (l.take k).any (fun q => p == q) = false) ∧ Ext β w w') (fun k => l.length - k) 0 ⟨rfl, trivial⟩ ⟨⟨by omega, by simp⟩, Bel.refl _ _⟩ ?_
  rintro k fb3 w2 ⟨⟨hk, hall⟩, hXL1⟩
  replace hX := Bel.ex hX hXL1
  replace hl := hl.ext hXL1
  refine W_seq ?_
  refine W_region ?_
  refine Rg_run rfl (o_lss rfl rfl) ?_
  refine Rg_nil ?_
  refine W_seq ?_
  refine W_cond rfl (fun hc1 => ?_) (fun hc1 => ?_)
  · skip
    replace hc1 := of_decide_eq_true hc1
    refine W_skip ?_
    refine W_seq ?_
    refine W_block ?_
    refine W_seq ?_
    refine W_region ?_
    refine Rg_run rfl (o_iaR Tryd.underlying35 Tryd.sizeOf9 hl rfl rfl (by first | omega | (unfold I64; omega) | (simp; done) | (simp; omega) | (simp at *; omega))) ?_
    refine Rg_run rfl (o_ldR Tryd.isAgg9 hl rfl rfl (getE [] (by omega)) rfl) ?_
    refine Rg_run rfl (o_assignh (v := str _) rfl) ?_
    refine Rg_nil ?_
    refine W_seq ?_
    refine W_region ?_
    refine Rg_run rfl (o_moveh (v := str _) rfl) ?_
    refine Rg_run rfl (o_moveh (v := str _) rfl) ?_
    refine Rg_run rfl (o_seql rfl rfl) ?_
    refine Rg_nil ?_
    refine W_cond rfl (fun hc2 => ?_) (fun hc2 => ?_)
    · skip
      refine W_seq ?_
      refine W_region ?_
      refine Rg_run rfl o_assignc ?_
      refine Rg_nil ?_
      refine W_ret ?_
      refine ⟨_, res_tmp rfl rfl, ?_⟩
      refine ⟨congrArg Value.bool ?_, hX⟩
      all_goals (exact (anyD_at (z := []) (by omega) hc2).symm)
    · skip
      refine W_skip ?_
      refine W_region ?_
      refine Rg_run rfl (o_add rfl rfl (by first | omega | (unfold I64; omega) | (simp; done) | (simp; omega) | (simp at *; omega))) ?_
      refine Rg_run rfl (o_moveh (v := .int _ _) rfl) ?_
      refine Rg_nil ?_
      refine ⟨k + 1, ⟨?_, trivial⟩, ?_, ⟨?_, hXL1⟩, ?_⟩
      · first | rfl | (go_num) | (exact congrArg _ (by omega))
      · repeat (first | exact off_refl _ _ | exact off_mix | refine off_put rfl ?_ | refine off_putN ?_ | refine off_setL rfl ?_ | refine off_mix' rfl ?_)
      · exact ⟨by omega, anyD_succ (z := []) (by omega) hall hc2⟩
      · omega
  · skip
    replace hc1 := of_decide_eq_false hc1
    refine W_exit ?_
    refine exAt_hit ?_
    refine W_seq ?_
    refine W_region ?_
    refine Rg_run rfl o_assignc ?_
    refine Rg_nil ?_
    refine W_ret ?_
    refine ⟨_, res_tmp rfl rfl, ?_⟩
    refine ⟨congrArg Value.bool ?_, hX⟩
    all_goals (rw [List.take_of_length_le (by omega)] at hall; exact hall.symm)

theorem r7ins_ok (w : World) (vl : Value) (l : List Str) (hl : Rd encS 1 (Lt w.heap.size) w vl l) (nl : l.length ≤ 1000000) (ol : ∀ p ∈ l, (fun p => p.length ≤ 1000000) p) (p : Str) (hp : p.length ≤ 1000000) : Ok Tryd.prog 78 #[vl, str p] w fun v w' => Rd encS 1 (Lt w'.heap.size) w' v (insP l p) ∧ Ext False w w' := by
  obtain ⟨al, cl, rfl, hl⟩ := hl; have ml := hl.len
  refine Ok_of_W 36 Tryd.func78 rfl rfl rfl ?_
  have hX : Ext False w w := Bel.refl _ _
  refine W_seq ?_
  refine W_region ?_
  refine Rg_run rfl o_assignc ?_
  refine Rg_nil ?_
  refine W_seq ?_
  refine W_seq ?_
  refine W_region ?_
  refine Rg_run rfl (o_moveh (v := .slice _ _ _) rfl) ?_
  refine Rg_run rfl (o_moveh (v := str _) rfl) ?_
  refine Rg_enter rfl (o_call2 Tryd.call37 rfl rfl) (Ok.mono (r7has_ok (False) _ _ _ hl.trd (by first | assumption | omega | (simp; done) | (simp; omega) | (simp at *; omega)) (by first | assumption | omega | (simp; done) | (simp; omega) | (simp at *; omega)) _ (by first | assumption | omega | (simp; done) | (simp; omega) | (simp at *; omega))) ?_)
  rintro _ w1 ⟨rfl, x2⟩
  have z3 := Bel.size x2
  replace hX := Bel.ex hX x2
  replace hl := hl.ext x2
  refine Rg_nil ?_
  refine W_cond rfl (fun hc1 => ?_) (fun hc1 => ?_)
  · skip
    refine W_seq ?_
    refine W_region ?_
    refine Rg_run rfl (o_moveh (v := .slice _ _ _) rfl) ?_
    refine Rg_run rfl (o_assignh (v := .slice _ _ _) rfl) ?_
    refine Rg_nil ?_
    refine W_ret ?_
    refine ⟨_, res_tmp rfl rfl, ?_⟩
    exact ⟨by rw [insP_a hc1]; exact hl.trd, hX⟩
  · skip
    refine W_skip ?_
    refine W_seq ?_
    refine W_region ?_
    refine Rg_run rfl o_assignc ?_
    refine Rg_nil ?_
    refine W_seq ?_
    refine W_block ?_
    refine W_for (α := Nat) [(5, 5), (10, 23)] (fun k => [(5, .int .i64 (k : Int))]) (fun k w' => (k ≤ l.length ∧ (l.take k).all (fun q => lessP q p) = true) ∧ Ext False w1 w') (fun k => l.length - k) 0 ⟨rfl, trivial⟩ ⟨⟨by omega, by simp⟩, Bel.refl _ _⟩ ?_
    rintro k fb6 w5 ⟨⟨hk, hall⟩, hXL4⟩
    have z7 := Bel.size hXL4
    replace hX := Bel.ex hX hXL4
    replace hl := hl.ext hXL4
    refine W_seq ?_
    refine W_seq ?_
    refine W_region ?_
    refine Rg_run rfl (o_moveh (v := .int _ _) rfl) ?_
    refine Rg_run rfl (o_moveh (v := .slice _ _ _) rfl) ?_
    refine Rg_run rfl (o_llen Tryd.underlying35 rfl) ?_
    refine Rg_run rfl (o_lss rfl rfl) ?_
    refine Rg_run rfl (o_moveh (v := .bool _) rfl) ?_
    refine Rg_may 4 14 rfl rfl rfl (fun hg => (o_moveh (v := .slice _ _ _) rfl)) ?_
    refine Rg_may 4 14 rfl rfl rfl (fun hg => (o_moveh (v := .int _ _) rfl)) ?_
    refine Rg_may 4 14 rfl rfl rfl (fun hg => (o_iaR Tryd.underlying35 Tryd.sizeOf9 hl (gsel (u := undef) hg) (gsel (u := undef) hg) (by first | omega | (unfold I64; omega) | (simp; done) | (simp; omega) | (simp at *; omega)))) ?_
    refine Rg_may 4 14 rfl rfl rfl (fun hg => (o_ldR Tryd.isAgg9 hl rfl (gsel (u := undef) hg) (getE [] (by simpa using hg)) rfl)) ?_
    refine Rg_may 4 14 rfl rfl rfl (fun hg => (o_moveh (v := str _) rfl)) ?_
    refine Rg_mayCall 4 14 rfl rfl rfl (fun hg => ⟨(o_call2 Tryd.call20 (gsel (u := undef) hg) (gsel (u := undef) hg)), r7less_ok _ _ (ol _ (getD_mem (by simpa using hg))) _ hp⟩) ?_
    intro w8 x9
    have z10 := Bel.size x9
    replace hX := Bel.ex hX x9
    replace hXL4 := Bel.ex hXL4 x9
    replace hl := hl.ext x9
    refine Rg_run rfl (o_and (u := undef) rfl rfl) ?_
    refine Rg_nil ?_
    refine W_cond rfl (fun hc2 => ?_) (fun hc2 => ?_)
    · skip
      obtain ⟨hkl, hlt⟩ := ins_yes hc2
      refine W_skip ?_
      refine W_block ?_
      refine W_region ?_
      refine Rg_run rfl (o_moveh (v := .int _ _) rfl) ?_
      refine Rg_run rfl (o_add rfl rfl (by have := hl.len; unfold I64; omega)) ?_
      refine Rg_run rfl (o_assignh (v := .int _ _) rfl) ?_
      refine Rg_nil ?_
      refine ⟨k + 1, ⟨?_, trivial⟩, ?_, ⟨?_, hXL4⟩, ?_⟩
      · first | rfl | (go_num) | (exact congrArg _ (by omega))
      · repeat (first | exact off_refl _ _ | exact off_mix | refine off_put rfl ?_ | refine off_putN ?_ | refine off_setL rfl ?_ | refine off_mix' rfl ?_)
      · exact ⟨by omega, allL_succ hkl hall hlt⟩
      · omega
    · skip
      have hend := ins_no hk hc2
      refine W_exit ?_
      refine exAt_hit ?_
      refine W_seq ?_
      apply W_drawC (β := False) (fun _ => 0) [(fun v w c => ∃ a, v = .slice a 0 0 ∧ postOwn encS 1 9 1 ([] : List Str) v w c), peqC _, peqC _, peqC _, (postOwn encS 1 9 1 (l.take k)), peqC _, (fun v w c => ∃ a, v = .slice a 1 1 ∧ postOwn encS 1 9 0 [p] v w c), (postOwn encS 1 9 1 (l.take k ++ [p])), peqC _, peqC _, peqC _, (postOwn encS 1 9 1 (l.take k ++ [p] ++ l.drop k))] [1, 0, 0, 0, 1, 0, 0, 1, 0, 0, 0, 1] 12 mixed (by kernel_rfl) (by kernel_rfl) rfl ⟨(postBs_stable), peqC_stable _ _, peqC_stable _ _, peqC_stable _ _, (postOwn_stable), peqC_stable _ _, (postBs_stable), (postOwn_stable), peqC_stable _ _, peqC_stable _ _, peqC_stable _ _, (postOwn_stable), trivial⟩ ?ob6 ?fin6
      case ob6 =>
        refine OblC_cons (fun w11 c13 x12 hc014 hk15 => ?_) ?_
        · skip
          replace x12 := RelG.ext0 x12
          have z16 := Bel.size x12
          have hl := hl.ext x12
          refine bindC_nil ?_
          exact OpC_bs (vs := []) ([] : List Str) encS_ok el_string rfl rfl trivial rfl rfl rfl rfl
        refine OblC_cons (fun w17 c19 x18 hc020 hk21 => ?_) ?_
        · skip
          replace x18 := RelG.ext0 x18
          have z22 := Bel.size x18
          have hl := hl.ext x18
          refine bindC_nil ?_
          exact OpC_v rfl (o_moveh (v := .slice _ _ _) rfl)
        refine OblC_cons (fun w23 c25 x24 hc026 hk27 => ?_) ?_
        · skip
          replace x24 := RelG.ext0 x24
          have z28 := Bel.size x24
          have hl := hl.ext x24
          refine bindC_nil ?_
          exact OpC_v rfl (o_moveh (v := .int _ _) rfl)
        refine OblC_cons (fun w29 c31 x30 hc032 hk33 => ?_) ?_
        · skip
          replace x30 := RelG.ext0 x30
          have z34 := Bel.size x30
          have hl := hl.ext x30
          refine bindC_eq ?_
          refine bindC_eq ?_
          refine bindC_nil ?_
          exact OpC_v rfl (o_slto (j := k) Tryd.underlying35 Tryd.sizeOf9 rfl rfl (by have := hl.le; omega))
        refine OblC_cons (fun w35 c37 x36 hc038 hk39 => ?_) ?_
        · skip
          replace x36 := RelG.ext0 x36
          have z40 := Bel.size x36
          have hl := hl.ext x36
          refine bindC_mem (fun v24 hv24 => ?_)
          refine bindC_eq ?_
          refine bindC_nil ?_
          obtain ⟨a24, rfl, ho24⟩ := hv24
          exact OpC_app (l := []) (news := l.take k) (by decide) encS_ok el_string rfl rfl ho24 (hl.take k) (by rw [List.length_take]; omega) (by simp; omega)
        refine OblC_cons (fun w41 c43 x42 hc044 hk45 => ?_) ?_
        · skip
          replace x42 := RelG.ext0 x42
          have z46 := Bel.size x42
          have hl := hl.ext x42
          refine bindC_nil ?_
          exact OpC_v rfl (o_moveh (v := str _) rfl)
        refine OblC_cons (fun w47 c49 x48 hc050 hk51 => ?_) ?_
        · skip
          replace x48 := RelG.ext0 x48
          have z52 := Bel.size x48
          have hl := hl.ext x48
          refine bindC_eq ?_
          refine bindC_nil ?_
          exact OpC_bs (vs := [str _]) [p] encS_ok el_string rfl rfl ⟨rfl, trivial⟩ rfl rfl rfl rfl
        refine OblC_cons (fun w53 c55 x54 hc056 hk57 => ?_) ?_
        · skip
          replace x54 := RelG.ext0 x54
          have z58 := Bel.size x54
          have hl := hl.ext x54
          refine bindC_mem (fun v28 hv28 => ?_)
          refine bindC_mem (fun v30 hv30 => ?_)
          refine bindC_mem (fun v28 hv28 => ?_)
          refine bindC_nil ?_
          obtain ⟨a30, rfl, ho30⟩ := hv30
          exact OpC_app (by decide) encS_ok el_string rfl rfl hv28 (Own.slA ho30 encS_ok) rfl (by simp; omega)
        refine OblC_cons (fun w59 c61 x60 hc062 hk63 => ?_) ?_
        · skip
          replace x60 := RelG.ext0 x60
          have z64 := Bel.size x60
          have hl := hl.ext x60
          refine bindC_nil ?_
          exact OpC_v rfl (o_moveh (v := .slice _ _ _) rfl)
        refine OblC_cons (fun w65 c67 x66 hc068 hk69 => ?_) ?_
        · skip
          replace x66 := RelG.ext0 x66
          have z70 := Bel.size x66
          have hl := hl.ext x66
          refine bindC_nil ?_
          exact OpC_v rfl (o_moveh (v := .int _ _) rfl)
        refine OblC_cons (fun w71 c73 x72 hc074 hk75 => ?_) ?_
        · skip
          replace x72 := RelG.ext0 x72
          have z76 := Bel.size x72
          have hl := hl.ext x72
          refine bindC_eq ?_
          refine bindC_eq ?_
          refine bindC_nil ?_
          exact OpC_v rfl (o_slfrom (j := k) Tryd.underlying35 Tryd.sizeOf9 rfl rfl hk hl.le)
        refine OblC_cons (fun w77 c79 x78 hc080 hk81 => ?_) ?_
        · skip
          replace x78 := RelG.ext0 x78
          have z82 := Bel.size x78
          have hl := hl.ext x78
          refine bindC_mem (fun v31 hv31 => ?_)
          refine bindC_eq ?_
          refine bindC_mem (fun v31 hv31 => ?_)
          refine bindC_nil ?_
          exact OpC_app (by decide) encS_ok el_string rfl rfl hv31 (hl.drop hk) (by simp) (by simp; omega)
        exact OblC_nil
      case fin6 =>
        intro w83 c85 x84 hc086
        replace x84 := RelG.ext0 x84
        have z87 := Bel.size x84
        replace hX := Bel.ex hX x84
        replace hl := hl.ext x84
        refine bindC_mem (fun v24 _ => ?_)
        refine bindC_eq ?_
        refine bindC_eq ?_
        refine bindC_eq ?_
        refine bindC_mem (fun v28 _ => ?_)
        refine bindC_eq ?_
        refine bindC_mem (fun v30 hv30 => ?_)
        refine bindC_mem (fun v31 _ => ?_)
        refine bindC_eq ?_
        refine bindC_eq ?_
        refine bindC_eq ?_
        refine bindC_mem (fun v35 hv35 => ?_)
        refine bindC_nil ?_
        change Own _ _ _ _ _ _ _ at hv35
        refine Rg_run rfl (o_assignh (v := v35) rfl) ?_
        refine Rg_nil ?_
        refine W_ret ?_
        refine ⟨_, res_tmp rfl rfl, ?_⟩
        exact ⟨by rw [insP_b (by simpa using hc1) hk hall hend]; exact hv35.trd encS_ok, hX⟩

end Go.Proofs.YtnhbdlllkmnpfaaDoor
