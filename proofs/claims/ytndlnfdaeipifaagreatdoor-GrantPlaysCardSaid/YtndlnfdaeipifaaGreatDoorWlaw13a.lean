/- Walks, printed by program: each theorem says what a function of the translation returns. -/
import Derived.Test.YtndlnfdaeipifaaGreatDoorWawk13
namespace Go.Proofs.YtndlnfdaeipifaaGreatDoor
open Go Go.Lx Go.RowKit
set_option maxRecDepth 100000
set_option linter.unusedVariables false
set_option linter.unusedSimpArgs false
set_option linter.unnecessarySimpa false
theorem law_GrantPlays (w : World) (hT : Tb w) (v0 : Value) (l : List GOp) (hs : Rd encGo 5 (Lt w.heap.size) w v0 l) (dl : ∀ z ∈ l, Sl encB 1 (Lt w.heap.size) w z.p.a z.p.c z.p.names) (n : UInt8) : Ok Tryz.prog 4 #[v0, .int .u8 (n.toNat : Int)] w fun v w' => v = .bool true ∧ Ext False w w' := by
  obtain ⟨a, c, rfl, hs⟩ := hs
  have hlen := hs.len
  have hTl := hT.lt
  refine Ok_of_W 48 Tryz.func4 rfl rfl rfl ?_
  have hX : Ext False w w := Bel.refl _ _
  refine W_seq ?_
  refine W_region ?_
  refine Rg_run rfl o_assignc ?_
  refine Rg_nil ?_
  refine W_seq ?_
  refine W_seq ?_
  refine W_region ?_
  refine Rg_enter rfl (o_call0 Tryz.call12) (Ok.mono (awake_ok _ hT) ?_)
  rintro _ w1 ⟨rfl, x2⟩
  have z3 := Bel.size x2
  replace hX := Bel.ex hX x2
  replace hT := hT.ext x2
  replace hs := hs.ext x2
  replace dl := (fun z hz => (dl z hz).ext x2)
  refine Rg_run rfl (o_not rfl) ?_
  refine Rg_nil ?_
  refine W_cond_false rfl ?_
  refine W_skip ?_
  refine W_seq ?_
  refine W_region ?_
  refine Rg_run rfl (o_moveh (v := .slice _ _ _) rfl) ?_
  refine Rg_enter rfl (o_call1 Tryz.call13 rfl) (Ok.mono (lplay13_ok _ _ l hs.trd (fun z hz => (dl z hz).top)) ?_)
  rintro _ w4 ⟨⟨p14, q14, m14, rfl, hm14, hbk14, hrq14⟩, x5⟩
  have z6 := Bel.size x5
  replace hX := Bel.ex hX x5
  replace hT := hT.ext x5
  replace hs := hs.ext x5
  replace dl := (fun z hz => (dl z hz).ext x5)
  refine Rg_run rfl (o_moveh (v := .tuple _) rfl) ?_
  refine Rg_run rfl (o_extract rfl rfl) ?_
  refine Rg_run rfl (o_extract rfl rfl) ?_
  refine Rg_run rfl (o_assignh (v := .pointer (some ⟨p14, 0, none⟩)) rfl) ?_
  refine Rg_run rfl (o_assignh (v := q14) rfl) ?_
  refine Rg_nil ?_
  refine W_seq ?_
  refine W_seq ?_
  refine W_region ?_
  obtain ⟨am14, cm14, hme14, hms14⟩ := hrq14
  subst hme14
  have hlm14 := hm14.len
  refine Rg_run rfl (o_moveh (v := .pointer (some ⟨p14, 0, none⟩)) rfl) ?_
  refine Rg_run rfl (o_peq Tryz.underlying25 rfl rfl) ?_
  refine Rg_run rfl (o_moveh (v := .bool _) rfl) ?_
  refine Rg_on 2 19 rfl rfl ?_
  refine Rg_run rfl (o_moveh (v := .pointer (some ⟨p14, 0, none⟩)) rfl) ?_
  refine Rg_on 2 19 rfl rfl ?_
  refine Rg_run rfl (o_moveh (v := .slice _ _ _) rfl) ?_
  refine Rg_on 2 19 rfl rfl ?_
  refine Rg_enter rfl (o_call2 Tryz.call18 rfl rfl) (Ok.mono (lis13_ok _ _ _ hbk14.is hm14 _ hms14.trd) ?_)
  rintro _ w7 ⟨rfl, x8⟩
  have z9 := Bel.size x8
  replace hX := Bel.ex hX x8
  replace hT := hT.ext x8
  replace hbk14 := hbk14.ext x8
  replace hms14 := hms14.ext x8
  refine Rg_on 2 19 rfl rfl ?_
  refine Rg_run rfl (o_not rfl) ?_
  refine Rg_run rfl (o_pickF (v := .bool _) rfl rfl) ?_
  refine Rg_nil ?_
  refine W_cond_false rfl ?_
  refine W_skip ?_
  refine W_seq ?_
  refine W_region ?_
  refine Rg_run rfl o_assignc ?_
  refine Rg_nil ?_
  refine W_seq ?_
  refine W_seq ?_
  refine W_region ?_
  refine Rg_run rfl (o_moveh (v := .slice _ _ _) rfl) ?_
  refine Rg_run rfl (o_llen Tryz.underlying26 rfl) ?_
  refine Rg_run rfl o_movec ?_
  refine Rg_nil ?_
  refine W_block ?_
  refine W_for (α := Nat × Value) [(7, 7), (9, 9), (27, 41)] (fun q => [(27, .int .i64 (q.1 : Int)), (7, q.2)]) (fun q w' => (q.1 ≤ m14.length) ∧ Bel False (fun g => w7.heap.size ≤ g) w7 w' ∧ (Own encP 3 41 (fun g => w7.heap.size ≤ g) w' q.2 (ofG (m14.take q.1) (roleN n)))) (fun q => m14.length - q.1) (0, .slice none 0 0) ⟨rfl, rfl, trivial⟩ ⟨Nat.zero_le _, Bel.refl _ _, Own.nil _ _⟩ ?_
  rintro ⟨k, t⟩ fb12 w11 ⟨hk, hXL10, hown⟩
  dsimp only at *
  have z13 := Bel.size hXL10
  replace hX := Bel.out hX hXL10 (fun g h1 h2 => by first | exact h2 | omega)
  replace hT := hT.keep hXL10 (fun h => by omega)
  replace hbk14 := hbk14.keep hXL10 (fun g h1 h2 h3 => by omega)
  replace hms14 := hms14.keep hXL10 (fun g h1 h2 h3 => by omega)
  refine W_seq ?_
  refine W_region ?_
  refine Rg_run rfl (o_lss rfl rfl) ?_
  refine Rg_nil ?_
  refine W_seq ?_
  refine W_cond rfl (fun hc3 => ?_) (fun hc3 => ?_)
  · skip
    replace hc3 := of_decide_eq_true hc3
    refine W_skip ?_
    refine W_seq ?_
    refine W_block ?_
    refine W_seq ?_
    refine W_region ?_
    refine Rg_run rfl (o_iaR Tryz.underlying26 Tryz.sizeOf43 hms14 rfl rfl (by first | omega | (unfold I64; omega) | (simp; done) | (simp; omega) | (simp at *; omega))) ?_
    refine Rg_run rfl (o_ldRS Tryz.isAgg43 Tryz.sizeOf43 hms14 rfl (getE ez (by omega))) ?_
    refine Rg_alst rfl rfl Tryz.zeroValue43 rfl Tryz.sizeOf43 (fun _ => rfl) rfl rfl ?_
    intro b9 w14 x15 hge9 hb9
    have hlt9 := hb9.lt
    change Box _ _ _ (encE _) at hb9
    have z16 := Bel.size x15
    replace hX := Bel.ex hX x15
    replace hXL10 := Bel.ex hXL10 x15
    replace hown := hown.ext x15
    refine Rg_nil ?_
    refine W_seq ?_
    apply W_draw (β := False) [peq _, peq _, peq _, peq _, peq _] 5 mixed (by kernel_rfl) rfl ⟨peq_stable _, peq_stable _, peq_stable _, peq_stable _, peq_stable _, trivial⟩ ?ob10 ?fin10
    case ob10 =>
      refine OblL_cons (fun w17 x18 => ?_) ?_
      · skip
        have z19 := Bel.size x18
        refine bindP_nil ?_
        exact OpS_v rfl (o_fa Tryz.underlying43 rfl Tryz.sizeOf3 rfl)
      refine OblL_cons (fun w20 x21 => ?_) ?_
      · skip
        have z22 := Bel.size x21
        have hb9 := hb9.ext x21
        refine bindP_eq ?_
        refine bindP_nil ?_
        exact OpS_v rfl (o_load1 Tryz.isAgg3 rfl (hb9.at.get 0 rfl))
      refine OblL_cons (fun w23 x24 => ?_) ?_
      · skip
        have z25 := Bel.size x24
        refine bindP_nil ?_
        exact OpS_v rfl (o_moveh (v := .int _ _) rfl)
      refine OblL_cons (fun w26 x27 => ?_) ?_
      · skip
        have z28 := Bel.size x27
        refine bindP_eq ?_
        refine bindP_nil ?_
        exact OpS_call rfl (o_call1 Tryz.call19 rfl) (lrole_ok _ _)
      refine OblL_cons (fun w29 x30 => ?_) ?_
      · skip
        have z31 := Bel.size x30
        refine bindP_eq ?_
        refine bindP_eq ?_
        refine bindP_nil ?_
        exact OpS_v rfl (o_eql rfl rfl)
      exact OblL_nil
    case fin10 =>
      intro w32 x33
      have z34 := Bel.size x33
      replace hX := Bel.ex hX x33
      replace hXL10 := Bel.ex hXL10 x33
      replace hown := hown.ext x33
      replace hb9 := hb9.ext x33
      refine bindP_eq ?_
      refine bindP_eq ?_
      refine bindP_eq ?_
      refine bindP_eq ?_
      refine bindP_eq ?_
      refine bindP_nil ?_
      refine Rg_nil ?_
      refine W_cond rfl (fun hc4 => ?_) (fun hc4 => ?_)
      · skip
        refine W_region ?_
        refine Rg_run rfl (o_moveh (v := t) rfl) ?_
        refine Rg_run rfl (o_fa Tryz.underlying43 rfl Tryz.sizeOf41 rfl) ?_
        refine Rg_run rfl (o_loadS Tryz.isAgg41 Tryz.sizeOf41 rfl (hb9.at.sub 1 3) rfl) ?_
        refine Rg_bs (vs := [.agg _]) ([(m14.getD k ez).p]) rfl encP_ok el_rperm rfl rfl ⟨rfl, trivial⟩ rfl rfl rfl rfl ?_
        intro a39 w35 x36 hown39
        have z37 := Bel.size x36
        replace hX := Bel.ex hX x36
        replace hXL10 := Bel.ex hXL10 x36
        replace hown := hown.ext x36
        replace hown39 := hown39.mono (D' := fun g => w7.heap.size ≤ g) (fun g h1 h2 => by omega)
        refine Rg_app rfl encP_ok el_rperm rfl rfl hown (hown39.slA encP_ok) rfl (by have := ofG_len (m14.take k) (roleN n); rw [List.length_take] at this; simp; omega) (fun g h => by omega) ?_
        intro v40 w38 x39 hown
        have z40 := Bel.size x39
        replace hX := Bel.out hX x39 (fun g h1 h2 => by first | exact h2 | omega)
        replace hXL10 := Bel.out hXL10 x39 (fun g h1 h2 => by first | exact h2 | omega)
        refine Rg_run rfl (o_assignh (v := v40) rfl) ?_
        refine Rg_nil ?_
        refine W_region ?_
        refine Rg_run rfl (o_add rfl rfl (by first | omega | (unfold I64; omega) | (simp; done) | (simp; omega) | (simp at *; omega))) ?_
        refine Rg_run rfl (o_moveh (v := .int _ _) rfl) ?_
        refine Rg_nil ?_
        refine ⟨(k + 1, v40), ⟨?_, ?_, trivial⟩, ?_, ⟨?_, hXL10, ?_⟩, ?_⟩
        · first | rfl | (go_num) | (exact congrArg _ (by omega))
        · first | rfl | (go_num) | (exact congrArg _ (by omega))
        · repeat (first | exact off_refl _ _ | exact off_mix | refine off_put rfl ?_ | refine off_putN ?_ | refine off_setL rfl ?_ | refine off_mix' rfl ?_)
        · show k + 1 ≤ m14.length; omega
        · show Own _ _ _ _ _ _ (ofG (m14.take (k + 1)) (roleN n))
          rw [ofG_yes (by omega) hc4]; exact hown
        · show m14.length - (k + 1) < m14.length - k; omega
      · skip
        refine W_skip ?_
        refine W_region ?_
        refine Rg_run rfl (o_add rfl rfl (by first | omega | (unfold I64; omega) | (simp; done) | (simp; omega) | (simp at *; omega))) ?_
        refine Rg_run rfl (o_moveh (v := .int _ _) rfl) ?_
        refine Rg_nil ?_
        refine ⟨(k + 1, t), ⟨?_, ?_, trivial⟩, ?_, ⟨?_, hXL10, ?_⟩, ?_⟩
        · first | rfl | (go_num) | (exact congrArg _ (by omega))
        · first | rfl | (go_num) | (exact congrArg _ (by omega))
        · repeat (first | exact off_refl _ _ | exact off_mix | refine off_put rfl ?_ | refine off_putN ?_ | refine off_setL rfl ?_ | refine off_mix' rfl ?_)
        · show k + 1 ≤ m14.length; omega
        · show Own _ _ _ _ _ _ (ofG (m14.take (k + 1)) (roleN n))
          rw [ofG_no (by omega) hc4]; exact hown
        · show m14.length - (k + 1) < m14.length - k; omega
  · skip
    replace hc3 := of_decide_eq_false hc3
    refine W_exit ?_
    refine exAt_hit ?_
    refine W_seq ?_
    refine W_region ?_
    rw [List.take_of_length_le (by omega)] at hown
    refine Rg_run rfl (o_moveh (v := .pointer (some ⟨p14, 0, none⟩)) rfl) ?_
    refine Rg_run rfl (o_moveh (v := .int _ _) rfl) ?_
    refine Rg_enter rfl (o_call1 Tryz.call19 rfl) (Ok.mono (lrole_ok _ _) ?_)
    rintro _ w41 ⟨rfl, x42⟩
    have z43 := Bel.size x42
    replace hX := Bel.ex hX x42
    replace hT := hT.ext x42
    replace hbk14 := hbk14.ext x42
    replace hms14 := hms14.ext x42
    replace hown := hown.ext x42
    refine Rg_enter rfl (o_call2 Tryz.call21 rfl rfl) (Ok.mono (gof_ok _ _ _ hbk14.is hm14 (roleN n)) ?_)
    rintro v45 w44 ⟨hown45, x45⟩
    replace hown := hown.mono (D' := fun g => w7.heap.size ≤ g ∧ ¬ (w41.heap.size ≤ g ∧ g < w44.heap.size)) (fun g h1 h2 => by omega)
    have z46 := Bel.size x45
    replace hX := Bel.ex hX x45
    replace hT := hT.ext x45
    replace hbk14 := hbk14.ext x45
    replace hms14 := hms14.ext x45
    replace hown := hown.ext x45
    change Own _ _ _ _ _ _ (_) at hown45; obtain ⟨a45, c45, hv45, hs45⟩ := hown45.sl encP_ok; subst hv45
    refine Rg_run rfl (o_moveh (v := t) rfl) ?_
    refine Rg_enter rfl (o_call2 Tryz.call20 rfl rfl) (Ok.mono (lsame_ok (False) _ _ _ hs45.trd (by have := ofG_len2 hm14 (roleN n); omega) (ofG_ok hm14) _ _ (hown.trd encP_ok) (by have := ofG_len2 hm14 (roleN n); omega) (ofG_ok hm14)) ?_)
    rintro _ w47 ⟨rfl, x48⟩
    have z49 := Bel.size x48
    replace hX := Bel.ex hX x48
    replace hT := hT.ext x48
    replace hbk14 := hbk14.ext x48
    replace hms14 := hms14.ext x48
    replace hown := hown.ext x48
    replace hs45 := hs45.ext x48
    refine Rg_run rfl (o_assignh (v := .bool _) rfl) ?_
    refine Rg_nil ?_
    refine W_ret ?_
    refine ⟨_, res_tmp rfl rfl, ?_⟩
    refine ⟨congrArg Value.bool ?_, hX⟩
    all_goals (simp)

end Go.Proofs.YtndlnfdaeipifaaGreatDoor
