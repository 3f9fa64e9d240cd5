/- Walks, printed by program: each theorem says what a function of the translation returns. -/
import Derived.Test.YtgnphpimkfcmlaaDoorWperm
import Derived.Test.YtgnphpimkfcmlaaDoorPerm0
import Derived.Test.YtgnphpimkfcmlaaDoorOwn2
namespace Go.Proofs.YtgnphpimkfcmlaaDoor
open Go Go.Lx Go.RowKit
set_option maxRecDepth 100000
set_option linter.unusedVariables false
set_option linter.unusedSimpArgs false
set_option linter.unnecessarySimpa false
theorem pcompact_ok (β : Prop) (a : Option Addr) (c : Nat) (B : Nat → Prop) (l : List Perm) (w : World) (ho : Own encP 3 27 B w (.slice a l.length c) l) : Ok Tryd.prog 55 #[.slice a l.length c] w fun v w' => ∃ m, v = .slice a m c ∧ Own encP 3 27 B w' (.slice a m c) (compL l) ∧ Bel β B w w' := by
  have hs := ho.slA encP_ok; have hlen := hs.len; have hcap := ho.capOf.1
  refine Ok_of_W 61 Tryd.func55 rfl rfl rfl ?_
  have hX : Bel β (B) w w := Bel.refl _ _
  refine W_seq ?_
  refine W_region ?_
  refine Rg_run rfl o_assignc ?_
  refine Rg_nil ?_
  refine W_seq ?_
  refine W_seq ?_
  refine W_region ?_
  refine Rg_run rfl (o_moveh (v := .slice _ _ _) rfl) ?_
  refine Rg_run rfl (o_llen Tryd.underlying46 rfl) ?_
  refine Rg_run rfl (o_lss rfl rfl) ?_
  refine Rg_nil ?_
  refine W_cond rfl (fun hc1 => ?_) (fun hc1 => ?_)
  · skip
    first | replace hc1 := of_decide_eq_true hc1 | replace hc1 := bnot_t hc1 | skip
    refine W_seq ?_
    refine W_region ?_
    refine Rg_run rfl (o_moveh (v := .slice _ _ _) rfl) ?_
    refine Rg_run rfl (o_assignh (v := .slice _ _ _) rfl) ?_
    refine Rg_nil ?_
    refine W_ret ?_
    refine ⟨_, res_tmp rfl rfl, ?_⟩
    exact ⟨_, rfl, by rw [comp_one (by omega)]; exact ho, hX⟩
  · skip
    first | replace hc1 := of_decide_eq_false hc1 | replace hc1 := bnot_f hc1 | skip
    refine W_skip ?_
    refine W_seq ?_
    refine W_seq ?_
    refine W_region ?_
    refine Rg_run rfl o_assignc ?_
    refine Rg_nil ?_
    refine W_block ?_
    refine W_for (α := Nat) [(2, 5), (10, 59)] (fun k => [(3, .int .i64 (k : Int))]) (fun k w' => (1 ≤ k ∧ k ≤ l.length ∧ compL (l.take k) = l.take k) ∧ Bel β (B) w w' ∧ (Own encP 3 27 B w' (.slice a l.length c) l)) (fun k => l.length - k) 1 ⟨rfl, trivial⟩ ⟨⟨by omega, by omega, comp_take1 (by omega)⟩, Bel.refl _ _, ho⟩ ?_
    rintro k fb3 w2 ⟨⟨hk1, hk, hall⟩, hXL1, ho⟩
    have z4 := Bel.size hXL1
    replace hX := Bel.out hX hXL1 (fun g h1 h2 => by first | exact h2 | omega)
    have hs := ho.slA encP_ok
    refine W_seq ?_
    refine W_seq ?_
    refine W_region ?_
    refine Rg_run rfl (o_moveh (v := .int _ _) rfl) ?_
    refine Rg_run rfl (o_moveh (v := .slice _ _ _) rfl) ?_
    refine Rg_run rfl (o_llen Tryd.underlying46 rfl) ?_
    refine Rg_run rfl (o_lss rfl rfl) ?_
    refine Rg_nil ?_
    refine W_cond rfl (fun hc2 => ?_) (fun hc2 => ?_)
    · skip
      first | replace hc2 := of_decide_eq_true hc2 | replace hc2 := bnot_t hc2 | skip
      refine W_skip ?_
      refine W_seq ?_
      refine W_block ?_
      refine W_seq ?_
      apply W_draw (β := β) [peq _, peq _, peq _, peq _, peq _, peq _, peq _, peq _, peq _, peq _] 10 mixed (by kernel_rfl) rfl ⟨peq_stable _, peq_stable _, peq_stable _, peq_stable _, peq_stable _, peq_stable _, peq_stable _, peq_stable _, peq_stable _, peq_stable _, trivial⟩ ?ob6 ?fin6
      case ob6 =>
        refine OblL_cons (fun w5 x6 => ?_) ?_
        · skip
          have ho := ho.ext x6
          have hs := hs.ext x6
          refine bindP_nil ?_
          exact OpS_v rfl (o_moveh (v := .slice _ _ _) rfl)
        refine OblL_cons (fun w7 x8 => ?_) ?_
        · skip
          have ho := ho.ext x8
          have hs := hs.ext x8
          refine bindP_nil ?_
          exact OpS_v rfl (o_moveh (v := .int _ _) rfl)
        refine OblL_cons (fun w9 x10 => ?_) ?_
        · skip
          have ho := ho.ext x10
          have hs := hs.ext x10
          refine bindP_eq ?_
          refine bindP_eq ?_
          refine bindP_nil ?_
          exact OpS_v rfl (o_iaO Tryd.underlying46 Tryd.sizeOf27 ho rfl rfl (by omega))
        refine OblL_cons (fun w11 x12 => ?_) ?_
        · skip
          have ho := ho.ext x12
          have hs := hs.ext x12
          refine bindP_eq ?_
          refine bindP_nil ?_
          exact OpS_v rfl (o_ldRS Tryd.isAgg27 Tryd.sizeOf27 hs rfl (getE pz (by omega)))
        refine OblL_cons (fun w13 x14 => ?_) ?_
        · skip
          have ho := ho.ext x14
          have hs := hs.ext x14
          refine bindP_nil ?_
          exact OpS_v rfl (o_moveh (v := .slice _ _ _) rfl)
        refine OblL_cons (fun w15 x16 => ?_) ?_
        · skip
          have ho := ho.ext x16
          have hs := hs.ext x16
          refine bindP_nil ?_
          exact OpS_v rfl (o_moveh (v := .int _ _) rfl)
        refine OblL_cons (fun w17 x18 => ?_) ?_
        · skip
          have ho := ho.ext x18
          have hs := hs.ext x18
          refine bindP_eq ?_
          refine bindP_nil ?_
          exact OpS_v rfl (o_subN (b := 1) rfl rfl (by omega) (by omega))
        refine OblL_cons (fun w19 x20 => ?_) ?_
        · skip
          have ho := ho.ext x20
          have hs := hs.ext x20
          refine bindP_eq ?_
          refine bindP_eq ?_
          refine bindP_nil ?_
          exact OpS_v rfl (o_iaO Tryd.underlying46 Tryd.sizeOf27 ho rfl rfl (by omega))
        refine OblL_cons (fun w21 x22 => ?_) ?_
        · skip
          have ho := ho.ext x22
          have hs := hs.ext x22
          refine bindP_eq ?_
          refine bindP_nil ?_
          exact OpS_v rfl (o_ldRS Tryd.isAgg27 Tryd.sizeOf27 hs rfl (getE pz (by omega)))
        refine OblL_cons (fun w23 x24 => ?_) ?_
        · skip
          have ho := ho.ext x24
          have hs := hs.ext x24
          refine bindP_eq ?_
          refine bindP_eq ?_
          refine bindP_nil ?_
          exact OpS_v rfl (o_teql eq_perm rfl rfl)
        exact OblL_nil
      case fin6 =>
        intro w25 x26
        have z27 := Bel.size x26
        replace hX := Bel.ex hX x26
        replace hXL1 := Bel.ex hXL1 x26
        replace ho := ho.ext x26
        replace hs := hs.ext x26
        refine bindP_eq ?_
        refine bindP_eq ?_
        refine bindP_eq ?_
        refine bindP_eq ?_
        refine bindP_eq ?_
        refine bindP_eq ?_
        refine bindP_eq ?_
        refine bindP_eq ?_
        refine bindP_eq ?_
        refine bindP_eq ?_
        refine bindP_nil ?_
        refine Rg_nil ?_
        refine W_cond rfl (fun hc3 => ?_) (fun hc3 => ?_)
        · skip
          first | replace hc3 := of_decide_eq_true hc3 | replace hc3 := bnot_t hc3 | skip
          refine W_seq ?_
          refine W_region ?_
          refine Rg_run rfl (o_moveh (v := .slice _ _ _) rfl) ?_
          refine Rg_run rfl (o_moveh (v := .int _ _) rfl) ?_
          refine Rg_run rfl (o_sfromO (j := k) Tryd.underlying46 Tryd.sizeOf27 rfl rfl (by omega) (by omega)) ?_
          refine Rg_run rfl (o_assignh (v := .slice _ _ _) rfl) ?_
          refine Rg_nil ?_
          refine W_seq ?_
          refine W_seq ?_
          refine W_region ?_
          refine Rg_run rfl o_assignc ?_
          refine Rg_nil ?_
          refine W_block ?_
          refine W_for (α := List Perm × Nat × Nat) [(3, 3), (5, 5), (29, 53)] (fun p => [(3, .int .i64 (p.2.2 : Int)), (5, .int .i64 (p.2.1 : Int))]) (fun p w' => (1 ≤ p.2.1 ∧ k + p.2.1 ≤ l.length ∧ p.1 = compL (l.take (k + p.2.1)) ∧ p.1.length = p.2.2 ∧ p.2.2 + 1 ≤ k + p.2.1) ∧ Bel β (B) w25 w' ∧ (Own encP 3 27 B w' (.slice a l.length c) (p.1 ++ l.drop p.1.length))) (fun p => l.length - (k + p.2.1)) (l.take k, 1, k) ⟨rfl, rfl, trivial⟩ ⟨⟨Nat.le_refl _, by show k + 1 ≤ l.length; omega, by rw [comp_eq (z := pz) (by omega) hk1 (by simpa using hc3), hall], by simp; omega, Nat.le_refl _⟩, Bel.refl _ _, (by rw [List.length_take, Nat.min_eq_left (by omega), List.take_append_drop]; exact ho)⟩ ?_
          rintro p fb30 w29 ⟨⟨hp1, hp2, hp3, hp4, hp5⟩, hXL28, hown⟩
          have z31 := Bel.size hXL28
          replace hX := Bel.out hX hXL28 (fun g h1 h2 => by first | exact h2 | omega)
          replace hXL1 := Bel.out hXL1 hXL28 (fun g h1 h2 => by first | exact h2 | omega)
          have hs := hown.slA encP_ok
          refine W_seq ?_
          refine W_seq ?_
          refine W_region ?_
          refine Rg_run rfl (o_moveh (v := .int _ _) rfl) ?_
          refine Rg_run rfl (o_moveh (v := .slice _ _ _) rfl) ?_
          refine Rg_run rfl (o_llen Tryd.underlying46 rfl) ?_
          refine Rg_run rfl (o_lss rfl rfl) ?_
          refine Rg_nil ?_
          refine W_cond rfl (fun hc4 => ?_) (fun hc4 => ?_)
          · skip
            first | replace hc4 := of_decide_eq_true hc4 | replace hc4 := bnot_t hc4 | skip
            refine W_skip ?_
            refine W_seq ?_
            refine W_block ?_
            refine W_seq ?_
            apply W_draw (β := β) [peq _, peq _, peq _, peq _, peq _, peq _, peq _, peq _, peq _, peq _] 10 mixed (by kernel_rfl) rfl ⟨peq_stable _, peq_stable _, peq_stable _, peq_stable _, peq_stable _, peq_stable _, peq_stable _, peq_stable _, peq_stable _, peq_stable _, trivial⟩ ?ob11 ?fin11
            case ob11 =>
              refine OblL_cons (fun w32 x33 => ?_) ?_
              · skip
                have hown := hown.ext x33
                have hs := hs.ext x33
                refine bindP_nil ?_
                exact OpS_v rfl (o_moveh (v := .slice _ _ _) rfl)
              refine OblL_cons (fun w34 x35 => ?_) ?_
              · skip
                have hown := hown.ext x35
                have hs := hs.ext x35
                refine bindP_nil ?_
                exact OpS_v rfl (o_moveh (v := .int _ _) rfl)
              refine OblL_cons (fun w36 x37 => ?_) ?_
              · skip
                have hown := hown.ext x37
                have hs := hs.ext x37
                refine bindP_eq ?_
                refine bindP_eq ?_
                refine bindP_nil ?_
                exact OpS_v rfl (o_iaO2 (i := p.2.1) Tryd.underlying46 Tryd.sizeOf27 hown rfl rfl (by omega) (by omega))
              refine OblL_cons (fun w38 x39 => ?_) ?_
              · skip
                have hown := hown.ext x39
                have hs := hs.ext x39
                refine bindP_eq ?_
                refine bindP_nil ?_
                exact OpS_v rfl (o_ldRS Tryd.isAgg27 Tryd.sizeOf27 hs rfl (tail_get (z := pz) (by omega) (by omega)))
              refine OblL_cons (fun w40 x41 => ?_) ?_
              · skip
                have hown := hown.ext x41
                have hs := hs.ext x41
                refine bindP_nil ?_
                exact OpS_v rfl (o_moveh (v := .slice _ _ _) rfl)
              refine OblL_cons (fun w42 x43 => ?_) ?_
              · skip
                have hown := hown.ext x43
                have hs := hs.ext x43
                refine bindP_nil ?_
                exact OpS_v rfl (o_moveh (v := .int _ _) rfl)
              refine OblL_cons (fun w44 x45 => ?_) ?_
              · skip
                have hown := hown.ext x45
                have hs := hs.ext x45
                refine bindP_eq ?_
                refine bindP_nil ?_
                exact OpS_v rfl (o_subN (b := 1) rfl rfl (by omega) (by omega))
              refine OblL_cons (fun w46 x47 => ?_) ?_
              · skip
                have hown := hown.ext x47
                have hs := hs.ext x47
                refine bindP_eq ?_
                refine bindP_eq ?_
                refine bindP_nil ?_
                exact OpS_v rfl (o_iaO2 (i := p.2.1 - 1) Tryd.underlying46 Tryd.sizeOf27 hown rfl rfl (by omega) (by omega))
              refine OblL_cons (fun w48 x49 => ?_) ?_
              · skip
                have hown := hown.ext x49
                have hs := hs.ext x49
                refine bindP_eq ?_
                refine bindP_nil ?_
                exact OpS_v rfl (o_ldRS Tryd.isAgg27 Tryd.sizeOf27 hs rfl (tail_get (z := pz) (by omega) (by omega)))
              refine OblL_cons (fun w50 x51 => ?_) ?_
              · skip
                have hown := hown.ext x51
                have hs := hs.ext x51
                refine bindP_eq ?_
                refine bindP_eq ?_
                refine bindP_nil ?_
                exact OpS_v rfl (o_tneq eq_perm rfl rfl)
              exact OblL_nil
            case fin11 =>
              intro w52 x53
              have z54 := Bel.size x53
              replace hX := Bel.ex hX x53
              replace hXL1 := Bel.ex hXL1 x53
              replace hXL28 := Bel.ex hXL28 x53
              replace hown := hown.ext x53
              replace hs := hs.ext x53
              refine bindP_eq ?_
              refine bindP_eq ?_
              refine bindP_eq ?_
              refine bindP_eq ?_
              refine bindP_eq ?_
              refine bindP_eq ?_
              refine bindP_eq ?_
              refine bindP_eq ?_
              refine bindP_eq ?_
              refine bindP_eq ?_
              refine bindP_nil ?_
              refine Rg_nil ?_
              refine W_cond rfl (fun hc5 => ?_) (fun hc5 => ?_)
              · skip
                first | replace hc5 := of_decide_eq_true hc5 | replace hc5 := bnot_t hc5 | skip
                refine W_seq ?_
                refine W_region ?_
                refine Rg_run rfl (o_moveh (v := .slice _ _ _) rfl) ?_
                refine Rg_run rfl (o_moveh (v := .int _ _) rfl) ?_
                refine Rg_run rfl (o_moveh (v := .slice _ _ _) rfl) ?_
                refine Rg_run rfl (o_moveh (v := .int _ _) rfl) ?_
                refine Rg_run rfl (o_iaO2 (i := p.2.1) Tryd.underlying46 Tryd.sizeOf27 hown rfl rfl (by omega) (by omega)) ?_
                refine Rg_run rfl (o_ldRS Tryd.isAgg27 Tryd.sizeOf27 hs rfl (tail_get (z := pz) (by omega) (by omega))) ?_
                refine Rg_run rfl (o_iaO Tryd.underlying46 Tryd.sizeOf27 hown rfl rfl (by omega)) ?_
                refine Rg_elst (u := l.getD (k + p.2.1) pz) rfl encP_ok Tryd.sizeOf27 rfl rfl rfl hown (by simp; omega) ?_
                intro w55 x56 hown
                have z57 := Bel.size x56
                replace hX := Bel.out hX x56 (fun g h1 h2 => by first | exact h2 | omega)
                replace hXL1 := Bel.out hXL1 x56 (fun g h1 h2 => by first | exact h2 | omega)
                replace hXL28 := Bel.out hXL28 x56 (fun g h1 h2 => by first | exact h2 | omega)
                refine Rg_nil ?_
                refine W_region ?_
                refine Rg_run rfl (o_moveh (v := .int _ _) rfl) ?_
                refine Rg_run rfl (o_add rfl rfl (by first | omega | (unfold I64; omega) | (simp; done) | (simp; omega) | (simp at *; omega))) ?_
                refine Rg_run rfl (o_assignh (v := .int _ _) rfl) ?_
                refine Rg_nil ?_
                refine W_region ?_
                refine Rg_run rfl (o_moveh (v := .int _ _) rfl) ?_
                refine Rg_run rfl (o_add rfl rfl (by first | omega | (unfold I64; omega) | (simp; done) | (simp; omega) | (simp at *; omega))) ?_
                refine Rg_run rfl (o_assignh (v := .int _ _) rfl) ?_
                refine Rg_nil ?_
                refine ⟨(p.1 ++ [l.getD (k + p.2.1) pz], p.2.1 + 1, p.2.2 + 1), ⟨?_, ?_, trivial⟩, ?_, ⟨?_, hXL28, ?_⟩, ?_⟩
                · first | rfl | (go_num) | (exact congrArg _ (by omega))
                · first | rfl | (go_num) | (exact congrArg _ (by omega))
                · repeat (first | exact off_refl _ _ | exact off_mix | refine off_put rfl ?_ | refine off_putN ?_ | refine off_setL rfl ?_ | refine off_mix' rfl ?_)
                · exact ⟨by show 1 ≤ p.2.1 + 1; omega, by show k + (p.2.1 + 1) ≤ l.length; omega, by show _ = compL (l.take (k + p.2.1 + 1)); rw [comp_ne (z := pz) (by omega) (by omega) (by rw [show k + p.2.1 - 1 = k + (p.2.1 - 1) by omega]; simpa using hc5), hp3], by simp [hp4], by show p.2.2 + 1 + 1 ≤ k + (p.2.1 + 1); omega⟩
                · rw [← hp4, tail_set (by omega)] at hown; exact hown
                · show l.length - (k + (p.2.1 + 1)) < _; omega
              · skip
                first | replace hc5 := of_decide_eq_false hc5 | replace hc5 := bnot_f hc5 | skip
                refine W_skip ?_
                refine W_region ?_
                refine Rg_run rfl (o_moveh (v := .int _ _) rfl) ?_
                refine Rg_run rfl (o_add rfl rfl (by first | omega | (unfold I64; omega) | (simp; done) | (simp; omega) | (simp at *; omega))) ?_
                refine Rg_run rfl (o_assignh (v := .int _ _) rfl) ?_
                refine Rg_nil ?_
                refine ⟨(p.1, p.2.1 + 1, p.2.2), ⟨?_, ?_, trivial⟩, ?_, ⟨?_, hXL28, ?_⟩, ?_⟩
                · first | rfl | (go_num) | (exact congrArg _ (by omega))
                · first | rfl | (go_num) | (exact congrArg _ (by omega))
                · repeat (first | exact off_refl _ _ | exact off_mix | refine off_put rfl ?_ | refine off_putN ?_ | refine off_setL rfl ?_ | refine off_mix' rfl ?_)
                · exact ⟨by show 1 ≤ p.2.1 + 1; omega, by show k + (p.2.1 + 1) ≤ l.length; omega, by show _ = compL (l.take (k + p.2.1 + 1)); rw [comp_eq (z := pz) (by omega) (by omega) (by rw [show k + p.2.1 - 1 = k + (p.2.1 - 1) by omega]; simpa using hc5), hp3], hp4, by show p.2.2 + 1 ≤ k + (p.2.1 + 1); omega⟩
                · exact hown
                · show l.length - (k + (p.2.1 + 1)) < _; omega
          · skip
            first | replace hc4 := of_decide_eq_false hc4 | replace hc4 := bnot_f hc4 | skip
            refine W_exit ?_
            refine exAt_hit ?_
            refine W_seq ?_
            refine W_region ?_
            refine Rg_run rfl (o_moveh (v := .slice _ _ _) rfl) ?_
            refine Rg_run rfl (o_moveh (v := .int _ _) rfl) ?_
            refine Rg_run rfl (o_sfromO (j := p.2.2) Tryd.underlying46 Tryd.sizeOf27 rfl rfl (by omega) (by omega)) ?_
            refine Rg_clear pz encP_ok el_perm rfl rfl hown (by simp; omega) (by simp; omega) ?_
            intro w58 x59 hown
            have z60 := Bel.size x59
            replace hX := Bel.out hX x59 (fun g h1 h2 => by first | exact h2 | omega)
            replace hXL1 := Bel.out hXL1 x59 (fun g h1 h2 => by first | exact h2 | omega)
            refine Rg_nil ?_
            refine W_seq ?_
            refine W_region ?_
            refine Rg_run rfl (o_moveh (v := .slice _ _ _) rfl) ?_
            refine Rg_run rfl (o_moveh (v := .int _ _) rfl) ?_
            refine Rg_run rfl (o_slto Tryd.underlying46 Tryd.sizeOf27 rfl rfl (by first | omega | (unfold I64; omega) | (simp; done) | (simp; omega) | (simp at *; omega))) ?_
            refine Rg_run rfl (o_assignh (v := .slice _ _ _) rfl) ?_
            refine Rg_nil ?_
            refine W_ret ?_
            refine ⟨_, res_tmp rfl rfl, ?_⟩
            have e : compL l = p.1 := by rw [hp3, show k + p.2.1 = l.length by omega, List.take_length]
            exact ⟨_, rfl, by rw [e]; exact hown.cutTo encP_ok hp4, hX⟩
        · skip
          first | replace hc3 := of_decide_eq_false hc3 | replace hc3 := bnot_f hc3 | skip
          refine W_skip ?_
          refine W_region ?_
          refine Rg_run rfl (o_moveh (v := .int _ _) rfl) ?_
          refine Rg_run rfl (o_add rfl rfl (by first | omega | (unfold I64; omega) | (simp; done) | (simp; omega) | (simp at *; omega))) ?_
          refine Rg_run rfl (o_assignh (v := .int _ _) rfl) ?_
          refine Rg_nil ?_
          refine ⟨k + 1, ⟨?_, trivial⟩, ?_, ⟨?_, hXL1, ?_⟩, ?_⟩
          · first | rfl | (go_num) | (exact congrArg _ (by omega))
          · repeat (first | exact off_refl _ _ | exact off_mix | refine off_put rfl ?_ | refine off_putN ?_ | refine off_setL rfl ?_ | refine off_mix' rfl ?_)
          · exact ⟨by omega, by omega, by rw [comp_ne (z := pz) (by omega) hk1 (by simpa using hc3), hall, List.take_succ_eq_append_getElem (by omega)]; simp [List.getD, show k < l.length by omega]⟩
          · exact ho
          · omega
    · skip
      first | replace hc2 := of_decide_eq_false hc2 | replace hc2 := bnot_f hc2 | skip
      refine W_exit ?_
      refine exAt_hit ?_
      refine W_seq ?_
      refine W_region ?_
      refine Rg_run rfl (o_moveh (v := .slice _ _ _) rfl) ?_
      refine Rg_run rfl (o_assignh (v := .slice _ _ _) rfl) ?_
      refine Rg_nil ?_
      refine W_ret ?_
      refine ⟨_, res_tmp rfl rfl, ?_⟩
      rw [List.take_of_length_le (by omega)] at hall
      exact ⟨_, rfl, by rw [hall]; exact ho, hX⟩

end Go.Proofs.YtgnphpimkfcmlaaDoor
