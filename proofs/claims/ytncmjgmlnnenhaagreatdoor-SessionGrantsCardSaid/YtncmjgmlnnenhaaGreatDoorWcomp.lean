/- Walks, printed by program: each theorem says what a function of the translation returns. -/
import Derived.Test.YtncmjgmlnnenhaaGreatDoorWperm
import Derived.Test.YtncmjgmlnnenhaaGreatDoorPure11
import Derived.Test.YtncmjgmlnnenhaaGreatDoorDraw
namespace Go.Proofs.YtncmjgmlnnenhaaGreatDoor
open Go Go.Lx Go.RowKit
set_option maxRecDepth 100000
set_option linter.unusedVariables false
set_option linter.unusedSimpArgs false
set_option linter.unnecessarySimpa false
theorem pcompact_ok (β : Prop) (a : Option Addr) (c : Nat) (B : Nat → Prop) (l : List Perm) (w : World) (ho : Own encP 3 75 B w (.slice a l.length c) l) : Ok Tryz.prog 125 #[.slice a l.length c] w fun v w' => ∃ m, v = .slice a m c ∧ Own encP 3 75 B w' (.slice a m c) (compL l) ∧ Bel β B w w' := by
  have hs := ho.slA encP_ok; have hlen := hs.len; have hcap := ho.capOf.1
  refine Ok_of_W 61 Tryz.func125 rfl rfl rfl ?_
  have hX : Bel β (B) w w := Bel.refl _ _
  refine W_seq (W_region ?_)
  refine Rg_run rfl o_assignc ?_
  refine Rg_nil (W_seq (W_seq (W_region ?_)))
  refine Rg_run rfl (o_moveh (v := .slice _ _ _) rfl) ?_
  refine Rg_run rfl (o_llen Tryz.underlying70 rfl) ?_
  refine Rg_run rfl (o_lss rfl rfl) ?_
  refine Rg_nil ?_
  refine W_cond rfl (fun hc1 => ?_) (fun hc1 => ?_)
  · skip
    first | replace hc1 := of_decide_eq_true hc1 | replace hc1 := bnot_t hc1 | skip
    refine W_seq (W_region ?_)
    refine Rg_run rfl (o_moveh (v := .slice _ _ _) rfl) ?_
    refine Rg_run rfl (o_assignh (v := .slice _ _ _) rfl) ?_
    refine Rg_nil (W_ret ?_)
    refine ⟨_, res_tmp rfl rfl, ?_⟩
    exact ⟨_, rfl, by rw [comp_one (by omega)]; exact ho, hX⟩
  first | replace hc1 := of_decide_eq_false hc1 | replace hc1 := bnot_f hc1 | skip
  refine W_skip (W_seq (W_seq (W_region ?_)))
  refine Rg_run rfl o_assignc ?_
  refine Rg_nil (W_block ?_)
  refine W_for (α := Nat) [(2, 5), (10, 59)] (fun k => [(3, .int .i64 (k : Int))]) (fun k w' => (1 ≤ k ∧ k ≤ l.length ∧ compL (l.take k) = l.take k) ∧ Bel β (B) w w' ∧ (Own encP 3 75 B w' (.slice a l.length c) l)) (fun k => l.length - k) 1 ⟨rfl, trivial⟩ ⟨⟨by omega, by omega, comp_take1 (by omega)⟩, Bel.refl _ _, ho⟩ ?_
  rintro k fb3 w2 ⟨⟨hk1, hk, hall⟩, hXL1, ho⟩
  have z4 := Bel.size hXL1
  replace hX := Bel.out hX hXL1 (fun g h1 h2 => by first | exact h2 | omega)
  have hs := ho.slA encP_ok
  refine W_seq (W_seq (W_region ?_))
  refine Rg_run rfl (o_moveh (v := .int _ _) rfl) ?_
  refine Rg_run rfl (o_moveh (v := .slice _ _ _) rfl) ?_
  refine Rg_run rfl (o_llen Tryz.underlying70 rfl) ?_
  refine Rg_run rfl (o_lss rfl rfl) ?_
  refine Rg_nil ?_
  refine W_cond rfl (fun hc2 => ?_) (fun hc2 => ?_)
  · skip
    first | replace hc2 := of_decide_eq_true hc2 | replace hc2 := bnot_t hc2 | skip
    refine W_skip (W_seq (W_block (W_seq ?_)))
    apply W_draw (β := β) [peq _, peq _, peq _, peq _, peq _, peq _, peq _, peq _, peq _, peq _] 10 mixed (by kernel_rfl) rfl ⟨peq_stable _, peq_stable _, peq_stable _, peq_stable _, peq_stable _, peq_stable _, peq_stable _, peq_stable _, peq_stable _, peq_stable _, trivial⟩ ?ob6 ?fin6
    case ob6 =>
      refine OblL_cons (fun w5 x6 => ?_) ?_
      · skip
        have z7 := Bel.size x6
        refine bindP_nil ?_
        exact OpS_v rfl (o_moveh (v := .slice _ _ _) rfl)
      refine OblL_cons (fun w8 x9 => ?_) ?_
      · skip
        have z10 := Bel.size x9
        refine bindP_nil ?_
        exact OpS_v rfl (o_moveh (v := .int _ _) rfl)
      refine OblL_cons (fun w11 x12 => ?_) ?_
      · skip
        have z13 := Bel.size x12
        have ho := ho.ext x12
        refine bindP_eq (bindP_eq (bindP_nil ?_))
        exact OpS_v rfl (o_iaO Tryz.underlying70 Tryz.sizeOf75 ho rfl rfl (by omega))
      refine OblL_cons (fun w14 x15 => ?_) ?_
      · skip
        have z16 := Bel.size x15
        have hs := hs.ext x15
        refine bindP_eq (bindP_nil ?_)
        exact OpS_v rfl (o_ldRS Tryz.isAgg75 Tryz.sizeOf75 hs rfl (getE pz (by omega)))
      refine OblL_cons (fun w17 x18 => ?_) ?_
      · skip
        have z19 := Bel.size x18
        refine bindP_nil ?_
        exact OpS_v rfl (o_moveh (v := .slice _ _ _) rfl)
      refine OblL_cons (fun w20 x21 => ?_) ?_
      · skip
        have z22 := Bel.size x21
        refine bindP_nil ?_
        exact OpS_v rfl (o_moveh (v := .int _ _) rfl)
      refine OblL_cons (fun w23 x24 => ?_) ?_
      · skip
        have z25 := Bel.size x24
        refine bindP_eq (bindP_nil ?_)
        exact OpS_v rfl (o_subN (b := 1) rfl rfl (by omega) (by omega))
      refine OblL_cons (fun w26 x27 => ?_) ?_
      · skip
        have z28 := Bel.size x27
        have ho := ho.ext x27
        refine bindP_eq (bindP_eq (bindP_nil ?_))
        exact OpS_v rfl (o_iaO Tryz.underlying70 Tryz.sizeOf75 ho rfl rfl (by omega))
      refine OblL_cons (fun w29 x30 => ?_) ?_
      · skip
        have z31 := Bel.size x30
        have hs := hs.ext x30
        refine bindP_eq (bindP_nil ?_)
        exact OpS_v rfl (o_ldRS Tryz.isAgg75 Tryz.sizeOf75 hs rfl (getE pz (by omega)))
      refine OblL_cons (fun w32 x33 => ?_) ?_
      · skip
        have z34 := Bel.size x33
        refine bindP_eq (bindP_eq (bindP_nil ?_))
        exact OpS_v rfl (o_teql eq_perm rfl rfl)
      exact OblL_nil
    case fin6 =>
      intro w35 x36
      have z37 := Bel.size x36
      replace hX := Bel.ex hX x36
      replace hXL1 := Bel.ex hXL1 x36
      replace ho := ho.ext x36
      replace hs := hs.ext x36
      refine bindP_eq (bindP_eq (bindP_eq (bindP_eq (bindP_eq (bindP_eq (bindP_eq (bindP_eq (bindP_eq ?_))))))))
      refine bindP_eq (bindP_nil (Rg_nil ?_))
      refine W_cond rfl (fun hc3 => ?_) (fun hc3 => ?_)
      · skip
        first | replace hc3 := of_decide_eq_true hc3 | replace hc3 := bnot_t hc3 | skip
        refine W_seq (W_region ?_)
        refine Rg_run rfl (o_moveh (v := .slice _ _ _) rfl) ?_
        refine Rg_run rfl (o_moveh (v := .int _ _) rfl) ?_
        refine Rg_run rfl (o_sfromO (j := k) Tryz.underlying70 Tryz.sizeOf75 rfl rfl (by omega) (by omega)) ?_
        refine Rg_run rfl (o_assignh (v := .slice _ _ _) rfl) ?_
        refine Rg_nil (W_seq (W_seq (W_region ?_)))
        refine Rg_run rfl o_assignc ?_
        refine Rg_nil (W_block ?_)
        refine W_for (α := List Perm × Nat × Nat) [(3, 3), (5, 5), (29, 53)] (fun p => [(3, .int .i64 (p.2.2 : Int)), (5, .int .i64 (p.2.1 : Int))]) (fun p w' => (1 ≤ p.2.1 ∧ k + p.2.1 ≤ l.length ∧ p.1 = compL (l.take (k + p.2.1)) ∧ p.1.length = p.2.2 ∧ p.2.2 + 1 ≤ k + p.2.1) ∧ Bel β (B) w35 w' ∧ (Own encP 3 75 B w' (.slice a l.length c) (p.1 ++ l.drop p.1.length))) (fun p => l.length - (k + p.2.1)) (l.take k, 1, k) ⟨rfl, rfl, trivial⟩ ⟨⟨Nat.le_refl _, by show k + 1 ≤ l.length; omega, by rw [comp_eq (z := pz) (by omega) hk1 (by simpa using hc3), hall], by simp; omega, Nat.le_refl _⟩, Bel.refl _ _, (by rw [List.length_take, Nat.min_eq_left (by omega), List.take_append_drop]; exact ho)⟩ ?_
        rintro p fb40 w39 ⟨⟨hp1, hp2, hp3, hp4, hp5⟩, hXL38, hown⟩
        have z41 := Bel.size hXL38
        replace hX := Bel.out hX hXL38 (fun g h1 h2 => by first | exact h2 | omega)
        replace hXL1 := Bel.out hXL1 hXL38 (fun g h1 h2 => by first | exact h2 | omega)
        have hs := hown.slA encP_ok
        refine W_seq (W_seq (W_region ?_))
        refine Rg_run rfl (o_moveh (v := .int _ _) rfl) ?_
        refine Rg_run rfl (o_moveh (v := .slice _ _ _) rfl) ?_
        refine Rg_run rfl (o_llen Tryz.underlying70 rfl) ?_
        refine Rg_run rfl (o_lss rfl rfl) ?_
        refine Rg_nil ?_
        refine W_cond rfl (fun hc4 => ?_) (fun hc4 => ?_)
        · skip
          first | replace hc4 := of_decide_eq_true hc4 | replace hc4 := bnot_t hc4 | skip
          refine W_skip (W_seq (W_block (W_seq ?_)))
          apply W_draw (β := β) [peq _, peq _, peq _, peq _, peq _, peq _, peq _, peq _, peq _, peq _] 10 mixed (by kernel_rfl) rfl ⟨peq_stable _, peq_stable _, peq_stable _, peq_stable _, peq_stable _, peq_stable _, peq_stable _, peq_stable _, peq_stable _, peq_stable _, trivial⟩ ?ob11 ?fin11
          case ob11 =>
            refine OblL_cons (fun w42 x43 => ?_) ?_
            · skip
              have z44 := Bel.size x43
              refine bindP_nil ?_
              exact OpS_v rfl (o_moveh (v := .slice _ _ _) rfl)
            refine OblL_cons (fun w45 x46 => ?_) ?_
            · skip
              have z47 := Bel.size x46
              refine bindP_nil ?_
              exact OpS_v rfl (o_moveh (v := .int _ _) rfl)
            refine OblL_cons (fun w48 x49 => ?_) ?_
            · skip
              have z50 := Bel.size x49
              have hown := hown.ext x49
              refine bindP_eq (bindP_eq (bindP_nil ?_))
              exact OpS_v rfl (o_iaO2 (i := p.2.1) Tryz.underlying70 Tryz.sizeOf75 hown rfl rfl (by omega) (by omega))
            refine OblL_cons (fun w51 x52 => ?_) ?_
            · skip
              have z53 := Bel.size x52
              have hs := hs.ext x52
              refine bindP_eq (bindP_nil ?_)
              exact OpS_v rfl (o_ldRS Tryz.isAgg75 Tryz.sizeOf75 hs rfl (tail_get (z := pz) (by omega) (by omega)))
            refine OblL_cons (fun w54 x55 => ?_) ?_
            · skip
              have z56 := Bel.size x55
              refine bindP_nil ?_
              exact OpS_v rfl (o_moveh (v := .slice _ _ _) rfl)
            refine OblL_cons (fun w57 x58 => ?_) ?_
            · skip
              have z59 := Bel.size x58
              refine bindP_nil ?_
              exact OpS_v rfl (o_moveh (v := .int _ _) rfl)
            refine OblL_cons (fun w60 x61 => ?_) ?_
            · skip
              have z62 := Bel.size x61
              refine bindP_eq (bindP_nil ?_)
              exact OpS_v rfl (o_subN (b := 1) rfl rfl (by omega) (by omega))
            refine OblL_cons (fun w63 x64 => ?_) ?_
            · skip
              have z65 := Bel.size x64
              have hown := hown.ext x64
              refine bindP_eq (bindP_eq (bindP_nil ?_))
              exact OpS_v rfl (o_iaO2 (i := p.2.1 - 1) Tryz.underlying70 Tryz.sizeOf75 hown rfl rfl (by omega) (by omega))
            refine OblL_cons (fun w66 x67 => ?_) ?_
            · skip
              have z68 := Bel.size x67
              have hs := hs.ext x67
              refine bindP_eq (bindP_nil ?_)
              exact OpS_v rfl (o_ldRS Tryz.isAgg75 Tryz.sizeOf75 hs rfl (tail_get (z := pz) (by omega) (by omega)))
            refine OblL_cons (fun w69 x70 => ?_) ?_
            · skip
              have z71 := Bel.size x70
              refine bindP_eq (bindP_eq (bindP_nil ?_))
              exact OpS_v rfl (o_tneq eq_perm rfl rfl)
            exact OblL_nil
          case fin11 =>
            intro w72 x73
            have z74 := Bel.size x73
            replace hX := Bel.ex hX x73
            replace hXL1 := Bel.ex hXL1 x73
            replace hXL38 := Bel.ex hXL38 x73
            replace hown := hown.ext x73
            replace hs := hs.ext x73
            refine bindP_eq (bindP_eq (bindP_eq (bindP_eq (bindP_eq (bindP_eq (bindP_eq (bindP_eq (bindP_eq ?_))))))))
            refine bindP_eq (bindP_nil (Rg_nil ?_))
            refine W_cond rfl (fun hc5 => ?_) (fun hc5 => ?_)
            · skip
              first | replace hc5 := of_decide_eq_true hc5 | replace hc5 := bnot_t hc5 | skip
              refine W_seq (W_region ?_)
              refine Rg_run rfl (o_moveh (v := .slice _ _ _) rfl) ?_
              refine Rg_run rfl (o_moveh (v := .int _ _) rfl) ?_
              refine Rg_run rfl (o_moveh (v := .slice _ _ _) rfl) ?_
              refine Rg_run rfl (o_moveh (v := .int _ _) rfl) ?_
              refine Rg_run rfl (o_iaO2 (i := p.2.1) Tryz.underlying70 Tryz.sizeOf75 hown rfl rfl (by omega) (by omega)) ?_
              refine Rg_run rfl (o_ldRS Tryz.isAgg75 Tryz.sizeOf75 hs rfl (tail_get (z := pz) (by omega) (by omega))) ?_
              refine Rg_run rfl (o_iaO Tryz.underlying70 Tryz.sizeOf75 hown rfl rfl (by omega)) ?_
              refine Rg_elst (u := l.getD (k + p.2.1) pz) rfl encP_ok Tryz.sizeOf75 rfl rfl rfl hown (by simp; omega) ?_
              intro w75 x76 hown
              have z77 := Bel.size x76
              replace hX := Bel.out hX x76 (fun g h1 h2 => by first | exact h2 | omega)
              replace hXL1 := Bel.out hXL1 x76 (fun g h1 h2 => by first | exact h2 | omega)
              replace hXL38 := Bel.out hXL38 x76 (fun g h1 h2 => by first | exact h2 | omega)
              refine Rg_nil (W_region ?_)
              refine Rg_run rfl (o_moveh (v := .int _ _) rfl) ?_
              refine Rg_run rfl (o_add rfl rfl (by first | omega | (unfold I64; omega) | (simp; done) | (simp; omega) | (simp at *; omega))) ?_
              refine Rg_run rfl (o_assignh (v := .int _ _) rfl) ?_
              refine Rg_nil (W_region ?_)
              refine Rg_run rfl (o_moveh (v := .int _ _) rfl) ?_
              refine Rg_run rfl (o_add rfl rfl (by first | omega | (unfold I64; omega) | (simp; done) | (simp; omega) | (simp at *; omega))) ?_
              refine Rg_run rfl (o_assignh (v := .int _ _) rfl) ?_
              refine Rg_nil ?_
              refine ⟨(p.1 ++ [l.getD (k + p.2.1) pz], p.2.1 + 1, p.2.2 + 1), ⟨?_, ?_, trivial⟩, ?_, ⟨?_, hXL38, ?_⟩, ?_⟩
              · first | rfl | (go_num) | (exact congrArg _ (by omega))
              · first | rfl | (go_num) | (exact congrArg _ (by omega))
              · repeat (first | exact off_refl _ _ | exact off_mix | refine off_put rfl ?_ | refine off_putN ?_ | refine off_setL rfl ?_ | refine off_mix' rfl ?_)
              · exact ⟨by show 1 ≤ p.2.1 + 1; omega, by show k + (p.2.1 + 1) ≤ l.length; omega, by show _ = compL (l.take (k + p.2.1 + 1)); rw [comp_ne (z := pz) (by omega) (by omega) (by rw [show k + p.2.1 - 1 = k + (p.2.1 - 1) by omega]; simpa using hc5), hp3], by simp [hp4], by show p.2.2 + 1 + 1 ≤ k + (p.2.1 + 1); omega⟩
              · rw [← hp4, tail_set (by omega)] at hown; exact hown
              · show l.length - (k + (p.2.1 + 1)) < _; omega
            first | replace hc5 := of_decide_eq_false hc5 | replace hc5 := bnot_f hc5 | skip
            refine W_skip (W_region ?_)
            refine Rg_run rfl (o_moveh (v := .int _ _) rfl) ?_
            refine Rg_run rfl (o_add rfl rfl (by first | omega | (unfold I64; omega) | (simp; done) | (simp; omega) | (simp at *; omega))) ?_
            refine Rg_run rfl (o_assignh (v := .int _ _) rfl) ?_
            refine Rg_nil ?_
            refine ⟨(p.1, p.2.1 + 1, p.2.2), ⟨?_, ?_, trivial⟩, ?_, ⟨?_, hXL38, ?_⟩, ?_⟩
            · first | rfl | (go_num) | (exact congrArg _ (by omega))
            · first | rfl | (go_num) | (exact congrArg _ (by omega))
            · repeat (first | exact off_refl _ _ | exact off_mix | refine off_put rfl ?_ | refine off_putN ?_ | refine off_setL rfl ?_ | refine off_mix' rfl ?_)
            · exact ⟨by show 1 ≤ p.2.1 + 1; omega, by show k + (p.2.1 + 1) ≤ l.length; omega, by show _ = compL (l.take (k + p.2.1 + 1)); rw [comp_eq (z := pz) (by omega) (by omega) (by rw [show k + p.2.1 - 1 = k + (p.2.1 - 1) by omega]; simpa using hc5), hp3], hp4, by show p.2.2 + 1 ≤ k + (p.2.1 + 1); omega⟩
            · exact hown
            · show l.length - (k + (p.2.1 + 1)) < _; omega
        first | replace hc4 := of_decide_eq_false hc4 | replace hc4 := bnot_f hc4 | skip
        refine W_exit (exAt_hit (W_seq (W_region ?_)))
        refine Rg_run rfl (o_moveh (v := .slice _ _ _) rfl) ?_
        refine Rg_run rfl (o_moveh (v := .int _ _) rfl) ?_
        refine Rg_run rfl (o_sfromO (j := p.2.2) Tryz.underlying70 Tryz.sizeOf75 rfl rfl (by omega) (by omega)) ?_
        refine Rg_clear pz encP_ok el_perm rfl rfl hown (by simp; omega) (by simp; omega) ?_
        intro w78 x79 hown
        have z80 := Bel.size x79
        replace hX := Bel.out hX x79 (fun g h1 h2 => by first | exact h2 | omega)
        replace hXL1 := Bel.out hXL1 x79 (fun g h1 h2 => by first | exact h2 | omega)
        refine Rg_nil (W_seq (W_region ?_))
        refine Rg_run rfl (o_moveh (v := .slice _ _ _) rfl) ?_
        refine Rg_run rfl (o_moveh (v := .int _ _) rfl) ?_
        refine Rg_run rfl (o_slto Tryz.underlying70 Tryz.sizeOf75 rfl rfl (by first | omega | (unfold I64; omega) | (simp; done) | (simp; omega) | (simp at *; omega))) ?_
        refine Rg_run rfl (o_assignh (v := .slice _ _ _) rfl) ?_
        refine Rg_nil (W_ret ?_)
        refine ⟨_, res_tmp rfl rfl, ?_⟩
        have e : compL l = p.1 := by rw [hp3, show k + p.2.1 = l.length by omega, List.take_length]
        exact ⟨_, rfl, by rw [e]; exact hown.cutTo encP_ok hp4, hX⟩
      first | replace hc3 := of_decide_eq_false hc3 | replace hc3 := bnot_f hc3 | skip
      refine W_skip (W_region ?_)
      refine Rg_run rfl (o_moveh (v := .int _ _) rfl) ?_
      refine Rg_run rfl (o_add rfl rfl (by first | omega | (unfold I64; omega) | (simp; done) | (simp; omega) | (simp at *; omega))) ?_
      refine Rg_run rfl (o_assignh (v := .int _ _) rfl) ?_
      refine Rg_nil ?_
      refine ⟨k + 1, ⟨?_, trivial⟩, ?_, ⟨?_, hXL1, ?_⟩, ?_⟩
      · first | rfl | (go_num) | (exact congrArg _ (by omega))
      · repeat (first | exact off_refl _ _ | exact off_mix | refine off_put rfl ?_ | refine off_putN ?_ | refine off_setL rfl ?_ | refine off_mix' rfl ?_)
      · exact ⟨by omega, by omega, by rw [comp_ne (z := pz) (by omega) hk1 (by simpa using hc3), hall, List.take_succ_eq_append_getElem (by omega)]; simp [List.getD, show k < l.length by omega]⟩
      · exact ho
      · omega
  first | replace hc2 := of_decide_eq_false hc2 | replace hc2 := bnot_f hc2 | skip
  refine W_exit (exAt_hit (W_seq (W_region ?_)))
  refine Rg_run rfl (o_moveh (v := .slice _ _ _) rfl) ?_
  refine Rg_run rfl (o_assignh (v := .slice _ _ _) rfl) ?_
  refine Rg_nil (W_ret ?_)
  refine ⟨_, res_tmp rfl rfl, ?_⟩
  rw [List.take_of_length_le (by omega)] at hall
  exact ⟨_, rfl, by rw [hall]; exact ho, hX⟩

end Go.Proofs.YtncmjgmlnnenhaaGreatDoor
