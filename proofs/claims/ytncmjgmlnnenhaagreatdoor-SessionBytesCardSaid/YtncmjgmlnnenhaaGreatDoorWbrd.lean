/- Walks, printed by program: each theorem says what a function of the translation returns. -/
import Derived.Test.YtncmjgmlnnenhaaGreatDoorWread
import Derived.Test.YtncmjgmlnnenhaaGreatDoorWref22
import Derived.Test.YtncmjgmlnnenhaaGreatDoorRe
namespace Go.Proofs.YtncmjgmlnnenhaaGreatDoor
open Go Go.Lx Go.RowKit
set_option maxRecDepth 100000
set_option linter.unusedVariables false
set_option linter.unusedSimpArgs false
set_option linter.unnecessarySimpa false
theorem bitsread_ok (v0 : Value) (G : Nat → Prop) (l : List UInt8) (w : World) (hl0 : Rd encB 1 G w v0 l) (hn : l.length ≤ 512) : Ok Tryz.prog 101 #[v0] w fun v w' => (∃ a c, v = .tuple #[.agg #[.slice a (if badB l = true then [] else rdW l).length c], .int .i64 (if badB l = true then 6 else 0)] ∧ Sl encU 1 (Fsh w w') w' a c (if badB l = true then [] else rdW l)) ∧ Ext False w w' := by
  obtain ⟨al, cl, rfl, hl⟩ := hl0
  replace hl := hl.mono (F' := fun g => g < w.heap.size) (fun g h1 h2 => h1)
  refine Ok_of_W 53 Tryz.func101 rfl rfl rfl ?_
  have hX : Ext False w w := Bel.refl _ _
  refine W_seq (W_region ?_)
  refine Rg_newB rfl (o_alloc Tryz.zeroValue36) ?_
  intro b2 w1 x2 hge2 hb2
  have hlt2 := hb2.lt
  change Box _ _ _ ([.slice _ _ _]) at hb2
  have z3 := Bel.size x2
  replace hX := Bel.ex hX x2
  replace hl := hl.ext x2
  refine Rg_run rfl o_assignc ?_
  refine Rg_nil (W_seq (W_seq (W_region ?_)))
  refine Rg_run rfl (o_moveh (v := .slice _ _ _) rfl) ?_
  refine Rg_run rfl (o_llen Tryz.underlying30 rfl) ?_
  refine Rg_run rfl (o_gtr rfl rfl) ?_
  refine Rg_run rfl (o_moveh (v := .bool _) rfl) ?_
  refine Rg_on 3 10 rfl (congrArg Value.bool (decide_eq_false (by omega))) ?_
  refine Rg_run rfl (o_moveh (v := .slice _ _ _) rfl) ?_
  refine Rg_on 3 10 rfl (congrArg Value.bool (decide_eq_false (by omega))) ?_
  refine Rg_run rfl (o_llen Tryz.underlying30 rfl) ?_
  refine Rg_on 3 10 rfl (congrArg Value.bool (decide_eq_false (by omega))) ?_
  refine Rg_run rfl (o_gtr rfl rfl) ?_
  refine (Decidable.em ((0 : Int) < (l.length : Int))).elim (fun hpos => ?_) (fun hpos => ?_)
  · skip
    refine Rg_on 3 10 rfl (congrArg Value.bool (decide_eq_false (by omega))) ?_
    refine Rg_run rfl (o_moveh (v := .bool _) rfl) ?_
    refine Rg_on 7 14 rfl (congrArg Value.bool (decide_eq_true hpos)) ?_
    refine Rg_run rfl (o_moveh (v := .slice _ _ _) rfl) ?_
    refine Rg_on 7 14 rfl (congrArg Value.bool (decide_eq_true hpos)) ?_
    refine Rg_run rfl (o_moveh (v := .slice _ _ _) rfl) ?_
    refine Rg_on 7 14 rfl (congrArg Value.bool (decide_eq_true hpos)) ?_
    refine Rg_run rfl (o_llen Tryz.underlying30 rfl) ?_
    refine Rg_on 7 14 rfl (congrArg Value.bool (decide_eq_true hpos)) ?_
    refine Rg_run rfl (o_subN (p := l.length) (b := 1) rfl rfl (by omega) (by omega)) ?_
    refine Rg_on 7 14 rfl (congrArg Value.bool (decide_eq_true hpos)) ?_
    refine Rg_run rfl (o_iaR Tryz.underlying30 Tryz.sizeOf5 hl rfl rfl (by first | omega | (unfold I64; omega) | (simp; done) | (simp; omega) | (simp at *; omega))) ?_
    refine Rg_on 7 14 rfl (congrArg Value.bool (decide_eq_true hpos)) ?_
    refine Rg_run rfl (o_ldR Tryz.isAgg5 hl rfl rfl (getE 0 (by omega)) rfl) ?_
    refine Rg_on 7 14 rfl (congrArg Value.bool (decide_eq_true hpos)) ?_
    refine Rg_run rfl (o_eql rfl rfl) ?_
    refine Rg_on 3 10 rfl (congrArg Value.bool (decide_eq_false (by omega))) ?_
    refine Rg_run rfl (o_pickT (v := .bool _) (congrArg Value.bool (decide_eq_true hpos)) rfl) ?_
    refine Rg_run rfl (o_pickF (v := .bool _) (congrArg Value.bool (decide_eq_false (by omega))) rfl) ?_
    refine Rg_nil ?_
    refine W_cond rfl (fun hc1 => ?_) (fun hc1 => ?_)
    · skip
      have hbad : badB l = true := by rw [badB, decide_eq_true (by omega), Bool.true_and, ← zeroB_eq]; exact hc1
      refine W_seq (W_region ?_)
      refine Rg_run rfl (o_build (cells := [.slice none 0 0]) (vs := []) rfl (by kernel_rfl)) ?_
      refine Rg_storeW (v := .agg _) rfl Tryz.sizeOf36 rfl rfl hb2 rfl rfl rfl ?_
      intro w4 c5 hb2
      change Box _ _ _ (wsC _ _ _) at hb2
      have z6 := Bel.size c5
      replace hX := Bel.out hX c5 (fun g h1 h2 => by first | exact h2 | omega)
      refine Rg_run rfl o_assignc ?_
      refine Rg_nil (W_ret ?_)
      refine ⟨_, res_T (vs := [.agg _, .int _ _]) rfl ⟨rv_cellS Tryz.isAgg36 Tryz.sizeOf36 rfl hb2.at rfl, rfl, trivial⟩ (by simp), ?_⟩
      rw [if_pos hbad, if_pos hbad]; exact ⟨⟨_, _, rfl, Sl.none⟩, hX⟩
    have hbad : badB l = false := by rw [badB, ← zeroB_eq, hc1, Bool.and_false]
    refine W_skip (W_seq (W_region ?_))
    obtain ⟨n0, hn0⟩ : ∃ n, n = w1.heap.size := ⟨_, rfl⟩
    refine Rg_run rfl (o_moveh (v := .slice _ _ _) rfl) ?_
    refine Rg_run rfl (o_llen Tryz.underlying30 rfl) ?_
    refine Rg_run rfl (o_addN (p := l.length) (b := 7) rfl rfl (by omega)) ?_
    refine Rg_run rfl (o_quoN (a := l.length + 7) (b := 8) rfl rfl (by decide) (by omega)) ?_
    refine Rg_make (m := ((l.length + 7) / 8)) (0 : W64) rfl encU_ok el_word rfl rfl rfl (by omega) ?_
    intro a29 w7 x8 hown29
    have z9 := Bel.size x8
    replace hX := Bel.ex hX x8
    replace hl := hl.ext x8
    replace hb2 := hb2.ext x8
    replace hown29 := hown29.mono (D' := fun g => n0 ≤ g) (fun g h1 h2 => by omega)
    refine Rg_run rfl (o_assignh (v := .slice _ _ _) rfl) ?_
    refine Rg_nil (W_seq (W_seq (W_region ?_)))
    refine Rg_run rfl (o_moveh (v := .slice _ _ _) rfl) ?_
    refine Rg_run rfl (o_llen Tryz.underlying30 rfl) ?_
    refine Rg_run rfl o_movec ?_
    refine Rg_nil (W_block ?_)
    refine W_for (α := Nat × List W64) [(5, 6), (32, 50)] (fun q => [(32, .int .i64 (q.1 : Int))]) (fun q w' => (q.1 ≤ l.length ∧ RdI l q.1 q.2) ∧ Bel False (fun g => n0 ≤ g) w7 w' ∧ (Own encU 1 50 (fun g => n0 ≤ g) w' (.slice a29 ((l.length + 7) / 8) ((l.length + 7) / 8)) q.2)) (fun q => l.length - q.1) (0, List.replicate ((l.length + 7) / 8) 0) ⟨rfl, trivial⟩ ⟨⟨Nat.zero_le _, RdI.start _⟩, Bel.refl _ _, hown29⟩ ?_
    rintro ⟨k, ws⟩ fb12 w11 ⟨⟨hk, hri⟩, hXL10, hown29⟩
    dsimp only at *
    have z13 := Bel.size hXL10
    replace hX := Bel.out hX hXL10 (fun g h1 h2 => by first | exact h2 | omega)
    replace hl := hl.keep hXL10 (fun g h1 h2 h3 => by omega)
    replace hb2 := hb2.keep hXL10 (fun h => by omega)
    have hwl := hri.len
    refine W_seq (W_region ?_)
    refine Rg_run rfl (o_lss rfl rfl) ?_
    refine Rg_nil (W_seq ?_)
    refine W_cond rfl (fun hc2 => ?_) (fun hc2 => ?_)
    · skip
      replace hc2 := of_decide_eq_true hc2
      refine W_skip (W_seq (W_block (W_seq (W_region ?_))))
      refine Rg_run rfl (o_moveh (v := .int _ _) rfl) ?_
      refine Rg_run rfl (o_iaR Tryz.underlying30 Tryz.sizeOf5 hl rfl rfl (by first | omega | (unfold I64; omega) | (simp; done) | (simp; omega) | (simp at *; omega))) ?_
      refine Rg_run rfl (o_ldR Tryz.isAgg5 hl rfl rfl (getE 0 (by omega)) rfl) ?_
      refine Rg_run rfl (o_assignh (v := .int _ _) rfl) ?_
      refine Rg_run rfl (o_assignh (v := .int _ _) rfl) ?_
      refine Rg_nil ?_
      apply W_draw (β := False) [peq _, peq _, peq _, peq _, peq _, peq _, peq _, peq _, peq _, peq _, peq _, peq _, peq _] 13 mixed (by kernel_rfl) rfl ⟨peq_stable _, peq_stable _, peq_stable _, peq_stable _, peq_stable _, peq_stable _, peq_stable _, peq_stable _, peq_stable _, peq_stable _, peq_stable _, peq_stable _, peq_stable _, trivial⟩ ?ob7 ?fin7
      case ob7 =>
        refine OblL_cons (fun w14 x15 => ?_) ?_
        · skip
          have z16 := Bel.size x15
          refine bindP_nil ?_
          exact OpS_v rfl (o_moveh (v := .slice _ _ _) rfl)
        refine OblL_cons (fun w17 x18 => ?_) ?_
        · skip
          have z19 := Bel.size x18
          refine bindP_nil ?_
          exact OpS_v rfl (o_moveh (v := .int _ _) rfl)
        refine OblL_cons (fun w20 x21 => ?_) ?_
        · skip
          have z22 := Bel.size x21
          refine bindP_eq (bindP_nil ?_)
          exact OpS_v rfl (o_quoN (a := k) (b := 8) rfl rfl (by decide) (by omega))
        refine OblL_cons (fun w23 x24 => ?_) ?_
        · skip
          have z25 := Bel.size x24
          have hown29 := hown29.ext x24
          refine bindP_eq (bindP_eq (bindP_nil ?_))
          exact OpS_v rfl (o_iaO (i := k / 8) Tryz.underlying34 Tryz.sizeOf50 hown29 rfl rfl (by omega))
        refine OblL_cons (fun w26 x27 => ?_) ?_
        · skip
          have z28 := Bel.size x27
          have hown29 := hown29.ext x27
          refine bindP_eq (bindP_nil ?_)
          exact OpS_v rfl (o_ldR Tryz.isAgg50 (hown29.slA encU_ok) rfl rfl (getE 0 (by omega)) rfl)
        refine OblL_cons (fun w29 x30 => ?_) ?_
        · skip
          have z31 := Bel.size x30
          refine bindP_nil ?_
          exact OpS_v rfl (o_moveh (v := .int _ _) rfl)
        refine OblL_cons (fun w32 x33 => ?_) ?_
        · skip
          have z34 := Bel.size x33
          refine bindP_eq (bindP_nil ?_)
          exact OpS_v rfl (o_convB8 Tryz.underlying5 Tryz.underlying50 rfl)
        refine OblL_cons (fun w35 x36 => ?_) ?_
        · skip
          have z37 := Bel.size x36
          refine bindP_nil ?_
          exact OpS_v rfl (o_moveh (v := .int _ _) rfl)
        refine OblL_cons (fun w38 x39 => ?_) ?_
        · skip
          have z40 := Bel.size x39
          refine bindP_eq (bindP_nil ?_)
          exact OpS_v rfl (o_remN (a := k) (b := 8) rfl rfl (by decide) (by omega))
        refine OblL_cons (fun w41 x42 => ?_) ?_
        · skip
          have z43 := Bel.size x42
          refine bindP_eq (bindP_nil ?_)
          exact OpS_v rfl (o_mulN (a := 8) (b := k % 8) rfl rfl (by omega))
        refine OblL_cons (fun w44 x45 => ?_) ?_
        · skip
          have z46 := Bel.size x45
          refine bindP_eq (bindP_eq (bindP_nil ?_))
          exact OpS_v rfl (o_shlU (a := BitVec.ofNat 64 (l.getD k 0).toNat) (n := 8 * (k % 8)) rfl rfl (by omega))
        refine OblL_cons (fun w47 x48 => ?_) ?_
        · skip
          have z49 := Bel.size x48
          refine bindP_eq (bindP_eq (bindP_nil ?_))
          exact OpS_v rfl (o_bor (a := ws.getD (k / 8) 0) (b := BitVec.ofNat 64 (l.getD k 0).toNat <<< (8 * (k % 8))) rfl rfl)
        refine OblL_cons (fun w50 x51 => ?_) ?_
        · skip
          have z52 := Bel.size x51
          have hown29 := hown29.ext x51
          refine bindP_eq (bindP_eq (bindP_eq (bindP_eq (bindP_eq (bindP_eq (bindP_eq (bindP_eq (bindP_eq ?_))))))))
          refine bindP_eq (bindP_eq (bindP_eq (bindP_eq (bindP_eq (bindP_nil ?_)))))
          exact OpS_v rfl (o_iaO (i := k / 8) Tryz.underlying34 Tryz.sizeOf50 hown29 rfl rfl (by omega))
        exact OblL_nil
      case fin7 =>
        intro w53 x54
        have z55 := Bel.size x54
        replace hX := Bel.ex hX x54
        replace hXL10 := Bel.ex hXL10 x54
        replace hown29 := hown29.ext x54
        refine bindP_eq (bindP_eq (bindP_eq (bindP_eq (bindP_eq (bindP_eq (bindP_eq (bindP_eq (bindP_eq ?_))))))))
        refine bindP_eq (bindP_eq (bindP_eq (bindP_eq (bindP_nil ?_))))
        refine Rg_elst (u := (ws.getD (k / 8) 0 ||| (BitVec.ofNat 64 (l.getD k 0).toNat <<< (8 * (k % 8))))) rfl encU_ok Tryz.sizeOf50 rfl rfl rfl hown29 (by omega) ?_
        intro w56 x57 hown29
        have z58 := Bel.size x57
        replace hX := Bel.out hX x57 (fun g h1 h2 => by first | exact h2 | omega)
        replace hXL10 := Bel.out hXL10 x57 (fun g h1 h2 => by first | exact h2 | omega)
        refine Rg_nil (W_region ?_)
        refine Rg_run rfl (o_add rfl rfl (by first | omega | (unfold I64; omega) | (simp; done) | (simp; omega) | (simp at *; omega))) ?_
        refine Rg_run rfl (o_moveh (v := .int _ _) rfl) ?_
        refine Rg_nil ?_
        refine ⟨(k + 1, ws.set (k / 8) (ws.getD (k / 8) 0 ||| (BitVec.ofNat 64 (l.getD k 0).toNat <<< (8 * (k % 8))))), ⟨?_, trivial⟩, ?_, ⟨?_, hXL10, ?_⟩, ?_⟩
        · first | rfl | (go_num) | (exact congrArg _ (by omega))
        · repeat (first | exact off_refl _ _ | exact off_mix | refine off_put rfl ?_ | refine off_putN ?_ | refine off_setL rfl ?_ | refine off_mix' rfl ?_)
        · exact ⟨by omega, hri.step (by omega)⟩
        · exact hown29
        · omega
    replace hc2 := of_decide_eq_false hc2
    refine W_exit (exAt_hit (W_seq (W_region ?_)))
    refine Rg_run rfl (o_moveh (v := .slice _ _ _) rfl) ?_
    refine Rg_run rfl (o_build (cells := [.slice a29 ((l.length + 7) / 8) ((l.length + 7) / 8)]) (vs := [(0, .slice _ _ _)]) rfl (by kernel_rfl)) ?_
    refine Rg_storeW (v := .agg _) rfl Tryz.sizeOf36 rfl rfl hb2 rfl rfl rfl ?_
    intro w59 c60 hb2
    change Box _ _ _ (wsC _ _ _) at hb2
    have z61 := Bel.size c60
    replace hX := Bel.out hX c60 (fun g h1 h2 => by first | exact h2 | omega)
    replace hown29 := hown29.keepD c60 (fun g h1 h2 h3 => by omega)
    refine Rg_run rfl o_assignc ?_
    refine Rg_nil (W_ret ?_)
    refine ⟨_, res_T (vs := [.agg _, .int _ _]) rfl ⟨rv_cellS Tryz.isAgg36 Tryz.sizeOf36 rfl hb2.at rfl, rfl, trivial⟩ (by simp), ?_⟩
    rw [hri.fin (by omega)] at hown29
    have hrl := rdW_len l
    rw [if_neg (by rw [hbad]; simp), if_neg (by rw [hbad]; simp)]
    rw [← hrl] at hown29
    exact ⟨⟨_, _, by rw [hrl], (hown29.slA encU_ok).mono (fun g h1 h2 => ⟨by omega, h1⟩)⟩, hX⟩
  refine Rg_on 3 10 rfl (congrArg Value.bool (decide_eq_false (by omega))) ?_
  refine Rg_run rfl (o_moveh (v := .bool _) rfl) ?_
  refine Rg_off 7 14 rfl rfl (congrArg Value.bool (decide_eq_false hpos)) rfl rfl ?_
  refine Rg_off 7 14 rfl rfl (congrArg Value.bool (decide_eq_false hpos)) rfl rfl ?_
  refine Rg_off 7 14 rfl rfl (congrArg Value.bool (decide_eq_false hpos)) rfl rfl ?_
  refine Rg_off 7 14 rfl rfl (congrArg Value.bool (decide_eq_false hpos)) rfl rfl ?_
  refine Rg_off 7 14 rfl rfl (congrArg Value.bool (decide_eq_false hpos)) rfl rfl ?_
  refine Rg_off 7 14 rfl rfl (congrArg Value.bool (decide_eq_false hpos)) rfl rfl ?_
  refine Rg_off 7 14 rfl rfl (congrArg Value.bool (decide_eq_false hpos)) rfl rfl ?_
  refine Rg_on 3 10 rfl (congrArg Value.bool (decide_eq_false (by omega))) ?_
  refine Rg_run rfl (o_pickF (v := .bool _) (congrArg Value.bool (decide_eq_false hpos)) rfl) ?_
  refine Rg_run rfl (o_pickF (v := .bool _) (congrArg Value.bool (decide_eq_false (by omega))) rfl) ?_
  refine Rg_nil ?_
  refine W_cond_false rfl ?_
  refine W_skip (W_seq (W_region ?_))
  obtain ⟨n0, hn0⟩ : ∃ n, n = w1.heap.size := ⟨_, rfl⟩
  have hbad : badB l = false := by rw [badB, decide_eq_false (by omega), Bool.false_and]
  refine Rg_run rfl (o_moveh (v := .slice _ _ _) rfl) ?_
  refine Rg_run rfl (o_llen Tryz.underlying30 rfl) ?_
  refine Rg_run rfl (o_addN (p := l.length) (b := 7) rfl rfl (by omega)) ?_
  refine Rg_run rfl (o_quoN (a := l.length + 7) (b := 8) rfl rfl (by decide) (by omega)) ?_
  refine Rg_make (m := ((l.length + 7) / 8)) (0 : W64) rfl encU_ok el_word rfl rfl rfl (by omega) ?_
  intro a29 w62 x63 hown29
  have z64 := Bel.size x63
  replace hX := Bel.ex hX x63
  replace hl := hl.ext x63
  replace hb2 := hb2.ext x63
  replace hown29 := hown29.mono (D' := fun g => n0 ≤ g) (fun g h1 h2 => by omega)
  refine Rg_run rfl (o_assignh (v := .slice _ _ _) rfl) ?_
  refine Rg_nil (W_seq (W_seq (W_region ?_)))
  refine Rg_run rfl (o_moveh (v := .slice _ _ _) rfl) ?_
  refine Rg_run rfl (o_llen Tryz.underlying30 rfl) ?_
  refine Rg_run rfl o_movec ?_
  refine Rg_nil (W_block ?_)
  refine W_for (α := Nat × List W64) [(5, 6), (32, 50)] (fun q => [(32, .int .i64 (q.1 : Int))]) (fun q w' => (q.1 ≤ l.length ∧ RdI l q.1 q.2) ∧ Bel False (fun g => n0 ≤ g) w62 w' ∧ (Own encU 1 50 (fun g => n0 ≤ g) w' (.slice a29 ((l.length + 7) / 8) ((l.length + 7) / 8)) q.2)) (fun q => l.length - q.1) (0, List.replicate ((l.length + 7) / 8) 0) ⟨rfl, trivial⟩ ⟨⟨Nat.zero_le _, RdI.start _⟩, Bel.refl _ _, hown29⟩ ?_
  rintro ⟨k, ws⟩ fb67 w66 ⟨⟨hk, hri⟩, hXL65, hown29⟩
  dsimp only at *
  have z68 := Bel.size hXL65
  replace hX := Bel.out hX hXL65 (fun g h1 h2 => by first | exact h2 | omega)
  replace hl := hl.keep hXL65 (fun g h1 h2 h3 => by omega)
  replace hb2 := hb2.keep hXL65 (fun h => by omega)
  have hwl := hri.len
  refine W_seq (W_region ?_)
  refine Rg_run rfl (o_lss rfl rfl) ?_
  refine Rg_nil (W_seq ?_)
  refine W_cond rfl (fun hc4 => ?_) (fun hc4 => ?_)
  · skip
    replace hc4 := of_decide_eq_true hc4
    refine W_skip (W_seq (W_block (W_seq (W_region ?_))))
    refine Rg_run rfl (o_moveh (v := .int _ _) rfl) ?_
    refine Rg_run rfl (o_iaR Tryz.underlying30 Tryz.sizeOf5 hl rfl rfl (by first | omega | (unfold I64; omega) | (simp; done) | (simp; omega) | (simp at *; omega))) ?_
    refine Rg_run rfl (o_ldR Tryz.isAgg5 hl rfl rfl (getE 0 (by omega)) rfl) ?_
    refine Rg_run rfl (o_assignh (v := .int _ _) rfl) ?_
    refine Rg_run rfl (o_assignh (v := .int _ _) rfl) ?_
    refine Rg_nil ?_
    apply W_draw (β := False) [peq _, peq _, peq _, peq _, peq _, peq _, peq _, peq _, peq _, peq _, peq _, peq _, peq _] 13 mixed (by kernel_rfl) rfl ⟨peq_stable _, peq_stable _, peq_stable _, peq_stable _, peq_stable _, peq_stable _, peq_stable _, peq_stable _, peq_stable _, peq_stable _, peq_stable _, peq_stable _, peq_stable _, trivial⟩ ?ob7 ?fin7
    case ob7 =>
      refine OblL_cons (fun w69 x70 => ?_) ?_
      · skip
        have z71 := Bel.size x70
        refine bindP_nil ?_
        exact OpS_v rfl (o_moveh (v := .slice _ _ _) rfl)
      refine OblL_cons (fun w72 x73 => ?_) ?_
      · skip
        have z74 := Bel.size x73
        refine bindP_nil ?_
        exact OpS_v rfl (o_moveh (v := .int _ _) rfl)
      refine OblL_cons (fun w75 x76 => ?_) ?_
      · skip
        have z77 := Bel.size x76
        refine bindP_eq (bindP_nil ?_)
        exact OpS_v rfl (o_quoN (a := k) (b := 8) rfl rfl (by decide) (by omega))
      refine OblL_cons (fun w78 x79 => ?_) ?_
      · skip
        have z80 := Bel.size x79
        have hown29 := hown29.ext x79
        refine bindP_eq (bindP_eq (bindP_nil ?_))
        exact OpS_v rfl (o_iaO (i := k / 8) Tryz.underlying34 Tryz.sizeOf50 hown29 rfl rfl (by omega))
      refine OblL_cons (fun w81 x82 => ?_) ?_
      · skip
        have z83 := Bel.size x82
        have hown29 := hown29.ext x82
        refine bindP_eq (bindP_nil ?_)
        exact OpS_v rfl (o_ldR Tryz.isAgg50 (hown29.slA encU_ok) rfl rfl (getE 0 (by omega)) rfl)
      refine OblL_cons (fun w84 x85 => ?_) ?_
      · skip
        have z86 := Bel.size x85
        refine bindP_nil ?_
        exact OpS_v rfl (o_moveh (v := .int _ _) rfl)
      refine OblL_cons (fun w87 x88 => ?_) ?_
      · skip
        have z89 := Bel.size x88
        refine bindP_eq (bindP_nil ?_)
        exact OpS_v rfl (o_convB8 Tryz.underlying5 Tryz.underlying50 rfl)
      refine OblL_cons (fun w90 x91 => ?_) ?_
      · skip
        have z92 := Bel.size x91
        refine bindP_nil ?_
        exact OpS_v rfl (o_moveh (v := .int _ _) rfl)
      refine OblL_cons (fun w93 x94 => ?_) ?_
      · skip
        have z95 := Bel.size x94
        refine bindP_eq (bindP_nil ?_)
        exact OpS_v rfl (o_remN (a := k) (b := 8) rfl rfl (by decide) (by omega))
      refine OblL_cons (fun w96 x97 => ?_) ?_
      · skip
        have z98 := Bel.size x97
        refine bindP_eq (bindP_nil ?_)
        exact OpS_v rfl (o_mulN (a := 8) (b := k % 8) rfl rfl (by omega))
      refine OblL_cons (fun w99 x100 => ?_) ?_
      · skip
        have z101 := Bel.size x100
        refine bindP_eq (bindP_eq (bindP_nil ?_))
        exact OpS_v rfl (o_shlU (a := BitVec.ofNat 64 (l.getD k 0).toNat) (n := 8 * (k % 8)) rfl rfl (by omega))
      refine OblL_cons (fun w102 x103 => ?_) ?_
      · skip
        have z104 := Bel.size x103
        refine bindP_eq (bindP_eq (bindP_nil ?_))
        exact OpS_v rfl (o_bor (a := ws.getD (k / 8) 0) (b := BitVec.ofNat 64 (l.getD k 0).toNat <<< (8 * (k % 8))) rfl rfl)
      refine OblL_cons (fun w105 x106 => ?_) ?_
      · skip
        have z107 := Bel.size x106
        have hown29 := hown29.ext x106
        refine bindP_eq (bindP_eq (bindP_eq (bindP_eq (bindP_eq (bindP_eq (bindP_eq (bindP_eq (bindP_eq ?_))))))))
        refine bindP_eq (bindP_eq (bindP_eq (bindP_eq (bindP_eq (bindP_nil ?_)))))
        exact OpS_v rfl (o_iaO (i := k / 8) Tryz.underlying34 Tryz.sizeOf50 hown29 rfl rfl (by omega))
      exact OblL_nil
    case fin7 =>
      intro w108 x109
      have z110 := Bel.size x109
      replace hX := Bel.ex hX x109
      replace hXL65 := Bel.ex hXL65 x109
      replace hown29 := hown29.ext x109
      refine bindP_eq (bindP_eq (bindP_eq (bindP_eq (bindP_eq (bindP_eq (bindP_eq (bindP_eq (bindP_eq ?_))))))))
      refine bindP_eq (bindP_eq (bindP_eq (bindP_eq (bindP_nil ?_))))
      refine Rg_elst (u := (ws.getD (k / 8) 0 ||| (BitVec.ofNat 64 (l.getD k 0).toNat <<< (8 * (k % 8))))) rfl encU_ok Tryz.sizeOf50 rfl rfl rfl hown29 (by omega) ?_
      intro w111 x112 hown29
      have z113 := Bel.size x112
      replace hX := Bel.out hX x112 (fun g h1 h2 => by first | exact h2 | omega)
      replace hXL65 := Bel.out hXL65 x112 (fun g h1 h2 => by first | exact h2 | omega)
      refine Rg_nil (W_region ?_)
      refine Rg_run rfl (o_add rfl rfl (by first | omega | (unfold I64; omega) | (simp; done) | (simp; omega) | (simp at *; omega))) ?_
      refine Rg_run rfl (o_moveh (v := .int _ _) rfl) ?_
      refine Rg_nil ?_
      refine ⟨(k + 1, ws.set (k / 8) (ws.getD (k / 8) 0 ||| (BitVec.ofNat 64 (l.getD k 0).toNat <<< (8 * (k % 8))))), ⟨?_, trivial⟩, ?_, ⟨?_, hXL65, ?_⟩, ?_⟩
      · first | rfl | (go_num) | (exact congrArg _ (by omega))
      · repeat (first | exact off_refl _ _ | exact off_mix | refine off_put rfl ?_ | refine off_putN ?_ | refine off_setL rfl ?_ | refine off_mix' rfl ?_)
      · exact ⟨by omega, hri.step (by omega)⟩
      · exact hown29
      · omega
  replace hc4 := of_decide_eq_false hc4
  refine W_exit (exAt_hit (W_seq (W_region ?_)))
  refine Rg_run rfl (o_moveh (v := .slice _ _ _) rfl) ?_
  refine Rg_run rfl (o_build (cells := [.slice a29 ((l.length + 7) / 8) ((l.length + 7) / 8)]) (vs := [(0, .slice _ _ _)]) rfl (by kernel_rfl)) ?_
  refine Rg_storeW (v := .agg _) rfl Tryz.sizeOf36 rfl rfl hb2 rfl rfl rfl ?_
  intro w114 c115 hb2
  change Box _ _ _ (wsC _ _ _) at hb2
  have z116 := Bel.size c115
  replace hX := Bel.out hX c115 (fun g h1 h2 => by first | exact h2 | omega)
  replace hown29 := hown29.keepD c115 (fun g h1 h2 h3 => by omega)
  refine Rg_run rfl o_assignc ?_
  refine Rg_nil (W_ret ?_)
  refine ⟨_, res_T (vs := [.agg _, .int _ _]) rfl ⟨rv_cellS Tryz.isAgg36 Tryz.sizeOf36 rfl hb2.at rfl, rfl, trivial⟩ (by simp), ?_⟩
  rw [hri.fin (by omega)] at hown29
  have hrl := rdW_len l
  rw [if_neg (by rw [hbad]; simp), if_neg (by rw [hbad]; simp)]
  rw [← hrl] at hown29
  exact ⟨⟨_, _, by rw [hrl], (hown29.slA encU_ok).mono (fun g h1 h2 => ⟨by omega, h1⟩)⟩, hX⟩

theorem bemptyM_ok (a : Option Addr) (c : Nat) (G : Nat → Prop) (ws : List W64) (w : World) (hs : Sl encU 1 G w a c ws) (hw9 : ws.length ≤ 1000) : Ok Tryz.prog 35 #[.agg #[.slice a ws.length c]] w fun v w' => v = .bool ((ws.length : Int) == 0) ∧ Ext False w w' := by
  refine Ok_of_W 7 Tryz.func35 rfl rfl rfl ?_
  have hX : Ext False w w := Bel.refl _ _
  refine W_seq (W_region ?_)
  refine Rg_newB rfl (o_box (v := .agg _) rfl) ?_
  intro b1 w1 x2 hge1 hb1
  change Box _ _ _ (wsC _ _ _) at hb1
  replace hX := Bel.ex hX x2
  replace hs := hs.ext x2
  refine Rg_run rfl o_assignc ?_
  refine Rg_nil (W_seq (W_region ?_))
  refine Rg_run rfl (o_fa Tryz.underlying36 rfl Tryz.sizeOf34 rfl) ?_
  refine Rg_run rfl (o_load1 Tryz.isAgg34 rfl (hb1.at.get 0 rfl)) ?_
  refine Rg_run rfl (o_llen Tryz.underlying34 rfl) ?_
  refine Rg_run rfl (o_eql rfl rfl) ?_
  refine Rg_run rfl (o_assignh (v := .bool _) rfl) ?_
  refine Rg_nil (W_ret ?_)
  refine ⟨_, res_tmp rfl rfl, ?_⟩
  refine ⟨congrArg Value.bool ?_, hX⟩
  all_goals (rfl)

theorem bgreatM_ok (a : Option Addr) (c : Nat) (G : Nat → Prop) (ws : List W64) (w : World) (hs : Sl encU 1 G w a c ws) (hw9 : ws.length ≤ 1000) : Ok Tryz.prog 103 #[.agg #[.slice a ws.length c]] w fun v w' => v = .tuple #[.int .i64 (gM ws), .bool (decide (ws ≠ []))] ∧ Ext False w w' := by
  replace hs := hs.mono (F' := fun g => g < w.heap.size) (fun g h1 h2 => h1)
  refine Ok_of_W 21 Tryz.func103 rfl rfl rfl ?_
  have hX : Ext False w w := Bel.refl _ _
  refine W_seq (W_region ?_)
  refine Rg_newB rfl (o_box (v := .agg _) rfl) ?_
  intro b1 w1 x2 hge1 hb1
  have hlt1 := hb1.lt
  change Box _ _ _ (wsC _ _ _) at hb1
  have z3 := Bel.size x2
  replace hX := Bel.ex hX x2
  replace hs := hs.ext x2
  refine Rg_run rfl o_assignc ?_
  refine Rg_run rfl o_assignc ?_
  refine Rg_nil (W_seq (W_seq (W_region ?_)))
  refine Rg_run rfl (o_loadS Tryz.isAgg36 Tryz.sizeOf36 rfl hb1.at rfl) ?_
  refine Rg_enter rfl (o_call1 Tryz.call35 rfl) (Ok.mono (bemptyM_ok a c _ ws _ hs hw9) ?_)
  rintro _ w4 ⟨rfl, x5⟩
  have z6 := Bel.size x5
  replace hX := Bel.ex hX x5
  replace hs := hs.ext x5
  replace hb1 := hb1.ext x5
  refine Rg_nil ?_
  refine W_cond rfl (fun hc1 => ?_) (fun hc1 => ?_)
  · skip
    have hz : ws = [] := List.eq_nil_of_length_eq_zero (by have := eq_of_beq hc1; omega)
    refine W_seq (W_region ?_)
    refine Rg_run rfl o_assignc ?_
    refine Rg_run rfl o_assignc ?_
    refine Rg_nil (W_ret ?_)
    refine ⟨_, res_tmp2 rfl rfl rfl, ?_⟩
    rw [hz]; exact ⟨rfl, hX⟩
  have hz : ws ≠ [] := fun e => by rw [e] at hc1; simp at hc1
  have hz2 : 1 ≤ ws.length := Nat.pos_of_ne_zero (fun h => hz (List.eq_nil_of_length_eq_zero h))
  have hbl := Lib.bitLen_le (ws.getD (ws.length - 1) 0).toNat 64 (by decide) (ws.getD (ws.length - 1) 0).isLt
  refine W_skip (W_seq (W_region ?_))
  refine Rg_run rfl (o_fa Tryz.underlying36 rfl Tryz.sizeOf34 rfl) ?_
  refine Rg_run rfl (o_load1 Tryz.isAgg34 rfl (hb1.at.get 0 rfl)) ?_
  refine Rg_run rfl (o_llen Tryz.underlying34 rfl) ?_
  refine Rg_run rfl (o_subN (p := ws.length) (b := 1) rfl rfl (by omega) (by omega)) ?_
  refine Rg_run rfl (o_assignh (v := .int _ _) rfl) ?_
  refine Rg_nil (W_seq (W_region ?_))
  refine Rg_run rfl (o_moveh (v := .int _ _) rfl) ?_
  refine Rg_run rfl (o_mulN (a := 64) (b := ws.length - 1) rfl rfl (by omega)) ?_
  refine Rg_run rfl (o_fa Tryz.underlying36 rfl Tryz.sizeOf34 rfl) ?_
  refine Rg_run rfl (o_load1 Tryz.isAgg34 rfl (hb1.at.get 0 rfl)) ?_
  refine Rg_run rfl (o_moveh (v := .int _ _) rfl) ?_
  refine Rg_run rfl (o_iaR Tryz.underlying34 Tryz.sizeOf50 hs rfl rfl (by first | omega | (unfold I64; omega) | (simp; done) | (simp; omega) | (simp at *; omega))) ?_
  refine Rg_run rfl (o_ldR Tryz.isAgg50 hs rfl rfl (getE 0 (by omega)) rfl) ?_
  refine Rg_enter rfl (o_call1 Tryz.call146 rfl) (Ok.mono (len_ok (ws.getD (ws.length - 1) 0) _) ?_)
  rintro _ w7 ⟨rfl, x8⟩
  have z9 := Bel.size x8
  replace hX := Bel.ex hX x8
  refine Rg_run rfl (o_add rfl rfl (by unfold I64; omega)) ?_
  refine Rg_run rfl (o_sub rfl rfl (by unfold I64; omega)) ?_
  refine Rg_run rfl (o_assignh (v := .int _ _) rfl) ?_
  refine Rg_run rfl o_assignc ?_
  refine Rg_nil (W_ret ?_)
  refine ⟨_, res_tmp2 rfl rfl rfl, ?_⟩
  rw [decide_eq_true hz, gM, if_neg hz]; exact ⟨rfl, hX⟩

end Go.Proofs.YtncmjgmlnnenhaaGreatDoor
