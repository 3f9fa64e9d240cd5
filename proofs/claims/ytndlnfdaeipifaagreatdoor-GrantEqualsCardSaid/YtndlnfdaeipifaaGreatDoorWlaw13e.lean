/- Walks, printed by program: each theorem says what a function of the translation returns. -/
import Derived.Test.YtndlnfdaeipifaaGreatDoorWawk13
namespace Go.Proofs.YtndlnfdaeipifaaGreatDoor
open Go Go.Lx Go.RowKit
set_option maxRecDepth 100000
set_option linter.unusedVariables false
set_option linter.unusedSimpArgs false
set_option linter.unnecessarySimpa false
theorem eqF_len {x y : List Ent} (h : ¬ x.length = y.length) : (x == y) = false := by
  rw [Bool.eq_false_iff]
  intro e
  exact h (by rw [eq_of_beq e])
theorem eqF_ne {x y : List Ent} {j : Nat} (h : (x.getD j ez == y.getD j ez) = false) : (x == y) = false := by
  rw [Bool.eq_false_iff]
  intro e
  rw [eq_of_beq e] at h
  simp at h
theorem eqF_end {x y : List Ent} {j : Nat} {b : Bool} (hj : j ≤ x.length) (h2 : b = true → x.length = y.length ∧ x.take j = y.take j) (h3 : b = false → (x == y) = false) (hc : (b && decide ((j : Int) < (x.length : Int))) = false) : b = (x == y) := by
  cases b with
  | false => exact (h3 rfl).symm
  | true =>
    obtain ⟨h4, h5⟩ := h2 rfl
    have h6 : ¬ (j : Int) < (x.length : Int) := by simpa using hc
    rw [List.take_of_length_le (by omega), List.take_of_length_le (by omega)] at h5
    rw [h5]; exact (beq_self_eq_true _).symm
theorem beq_swL (x y : List Ent) : (x == y) = (y == x) := by
  rw [Bool.eq_iff_iff, beq_iff_eq, beq_iff_eq]; exact ⟨Eq.symm, Eq.symm⟩
theorem law_GrantEquals (w : World) (hT : Tb w) (v0 : Value) (l : List GOp) (hs : Rd encGo 5 (Lt w.heap.size) w v0 l) (dl : ∀ z ∈ l, Sl encB 1 (Lt w.heap.size) w z.p.a z.p.c z.p.names) (v1 : Value) (k : List GOp) (hk : Rd encGo 5 (Lt w.heap.size) w v1 k) (dk : ∀ z ∈ k, Sl encB 1 (Lt w.heap.size) w z.p.a z.p.c z.p.names) (s3 : UInt8) : Ok Tryz.prog 6 #[v0, v1, .int .u8 (s3.toNat : Int)] w fun v w' => v = .bool true ∧ Ext False w w' := by
  obtain ⟨a, c, rfl, hs⟩ := hs
  have hlen := hs.len
  have hTl := hT.lt
  obtain ⟨a1, c1, rfl, hk⟩ := hk
  have hlenk := hk.len
  refine Ok_of_W 82 Tryz.func6 rfl rfl rfl ?_
  have hX : Ext False w w := Bel.refl _ _
  refine W_seq ?_
  refine W_region ?_
  refine Rg_run rfl o_assignc ?_
  refine Rg_nil ?_
  refine W_seq ?_
  refine W_seq ?_
  refine W_region ?_
  refine Rg_enter rfl (o_call0 Tryz.call12) (Ok.mono (awake_ok _ hT) ?_)
  rintro _ w1 ⟨rfl, x2⟩
  have z3 := Bel.size x2
  replace hX := Bel.ex hX x2
  replace hT := hT.ext x2
  replace hs := hs.ext x2
  replace dl := (fun z hz => (dl z hz).ext x2)
  replace hk := hk.ext x2
  replace dk := (fun z hz => (dk z hz).ext x2)
  refine Rg_run rfl (o_not rfl) ?_
  refine Rg_nil ?_
  refine W_cond_false rfl ?_
  refine W_skip ?_
  refine W_seq ?_
  refine W_seq ?_
  refine W_region ?_
  refine Rg_run rfl (o_moveh (v := .int _ _) rfl) ?_
  refine Rg_run rfl (o_remU (a := s3.toNat) (b := 3) rfl rfl (by decide)) ?_
  refine Rg_run rfl (o_eql rfl rfl) ?_
  refine Rg_nil ?_
  refine W_cond rfl (fun hc2 => ?_) (fun hc2 => ?_)
  · skip
    skip
    apply W_drawC (β := False) (fun _ => 0) [(fun v w c => ∃ a, v = .slice a 0 0 ∧ postOwn encGo 5 68 1 [] v w c), peqC _, peqC _, peqC _, peqC _, peqC _, (postOwn encGo 5 68 1 (l.take (min l.length 13))), peqC _, peqC _, peqC _, peqC _, peqC _, (postOwn encGo 5 68 1 ((l.take (min l.length 13)) ++ (k.take (min k.length 1))))] [1, 0, 0, 0, 0, 0, 1, 0, 0, 0, 0, 0, 1] 13 mixed (by kernel_rfl) (by kernel_rfl) rfl ⟨(postBs_stable), peqC_stable _ _, peqC_stable _ _, peqC_stable _ _, peqC_stable _ _, peqC_stable _ _, (postOwn_stable), peqC_stable _ _, peqC_stable _ _, peqC_stable _ _, peqC_stable _ _, peqC_stable _ _, (postOwn_stable), trivial⟩ ?ob4 ?fin4
    case ob4 =>
      refine OblC_cons (fun w4 c6 x5 hc07 hk8 => ?_) ?_
      · skip
        replace x5 := RelG.ext0 x5
        have z9 := Bel.size x5
        have dl := (fun z hz => (dl z hz).ext x5)
        have dk := (fun z hz => (dk z hz).ext x5)
        refine bindC_nil ?_
        exact OpC_bs (vs := []) [] encGo_ok el_gop rfl rfl trivial rfl rfl rfl rfl
      refine OblC_cons (fun w10 c12 x11 hc013 hk14 => ?_) ?_
      · skip
        replace x11 := RelG.ext0 x11
        have z15 := Bel.size x11
        have dl := (fun z hz => (dl z hz).ext x11)
        have dk := (fun z hz => (dk z hz).ext x11)
        refine bindC_nil ?_
        exact OpC_v rfl (o_moveh (v := .slice _ _ _) rfl)
      refine OblC_cons (fun w16 c18 x17 hc019 hk20 => ?_) ?_
      · skip
        replace x17 := RelG.ext0 x17
        have z21 := Bel.size x17
        have dl := (fun z hz => (dl z hz).ext x17)
        have dk := (fun z hz => (dk z hz).ext x17)
        refine bindC_nil ?_
        exact OpC_v rfl (o_moveh (v := .slice _ _ _) rfl)
      refine OblC_cons (fun w22 c24 x23 hc025 hk26 => ?_) ?_
      · skip
        replace x23 := RelG.ext0 x23
        have z27 := Bel.size x23
        have dl := (fun z hz => (dl z hz).ext x23)
        have dk := (fun z hz => (dk z hz).ext x23)
        refine bindC_eq ?_
        refine bindC_nil ?_
        exact OpC_v rfl (o_llen Tryz.underlying22 rfl)
      refine OblC_cons (fun w28 c30 x29 hc031 hk32 => ?_) ?_
      · skip
        replace x29 := RelG.ext0 x29
        have z33 := Bel.size x29
        have dl := (fun z hz => (dl z hz).ext x29)
        have dk := (fun z hz => (dk z hz).ext x29)
        refine bindC_eq ?_
        refine bindC_nil ?_
        exact OpC_v rfl (o_minN (a := l.length) (b := 13) rfl rfl)
      refine OblC_cons (fun w34 c36 x35 hc037 hk38 => ?_) ?_
      · skip
        replace x35 := RelG.ext0 x35
        have z39 := Bel.size x35
        have hs := hs.ext x35
        have dl := (fun z hz => (dl z hz).ext x35)
        have dk := (fun z hz => (dk z hz).ext x35)
        refine bindC_eq ?_
        refine bindC_eq ?_
        refine bindC_nil ?_
        exact OpC_v rfl (o_slto (j := min l.length 13) Tryz.underlying22 Tryz.sizeOf68 rfl rfl (by have := hs.le; omega))
      refine OblC_cons (fun w40 c42 x41 hc043 hk44 => ?_) ?_
      · skip
        replace x41 := RelG.ext0 x41
        have z45 := Bel.size x41
        have hs := hs.ext x41
        have dl := (fun z hz => (dl z hz).ext x41)
        have dk := (fun z hz => (dk z hz).ext x41)
        refine bindC_mem (fun v18 hv18 => ?_)
        refine bindC_eq ?_
        refine bindC_nil ?_
        obtain ⟨a18, rfl, ho18⟩ := hv18
        exact OpC_app (l := []) (news := (l.take (min l.length 13))) (by decide) encGo_ok el_gop rfl rfl ho18 (hs.take _) (by rw [List.length_take]; omega) (by simp; omega)
      refine OblC_cons (fun w46 c48 x47 hc049 hk50 => ?_) ?_
      · skip
        replace x47 := RelG.ext0 x47
        have z51 := Bel.size x47
        have dl := (fun z hz => (dl z hz).ext x47)
        have dk := (fun z hz => (dk z hz).ext x47)
        refine bindC_nil ?_
        exact OpC_v rfl (o_moveh (v := .slice _ _ _) rfl)
      refine OblC_cons (fun w52 c54 x53 hc055 hk56 => ?_) ?_
      · skip
        replace x53 := RelG.ext0 x53
        have z57 := Bel.size x53
        have dl := (fun z hz => (dl z hz).ext x53)
        have dk := (fun z hz => (dk z hz).ext x53)
        refine bindC_nil ?_
        exact OpC_v rfl (o_moveh (v := .slice _ _ _) rfl)
      refine OblC_cons (fun w58 c60 x59 hc061 hk62 => ?_) ?_
      · skip
        replace x59 := RelG.ext0 x59
        have z63 := Bel.size x59
        have dl := (fun z hz => (dl z hz).ext x59)
        have dk := (fun z hz => (dk z hz).ext x59)
        refine bindC_eq ?_
        refine bindC_nil ?_
        exact OpC_v rfl (o_llen Tryz.underlying22 rfl)
      refine OblC_cons (fun w64 c66 x65 hc067 hk68 => ?_) ?_
      · skip
        replace x65 := RelG.ext0 x65
        have z69 := Bel.size x65
        have dl := (fun z hz => (dl z hz).ext x65)
        have dk := (fun z hz => (dk z hz).ext x65)
        refine bindC_eq ?_
        refine bindC_nil ?_
        exact OpC_v rfl (o_minN (a := k.length) (b := 1) rfl rfl)
      refine OblC_cons (fun w70 c72 x71 hc073 hk74 => ?_) ?_
      · skip
        replace x71 := RelG.ext0 x71
        have z75 := Bel.size x71
        have dl := (fun z hz => (dl z hz).ext x71)
        have hk := hk.ext x71
        have dk := (fun z hz => (dk z hz).ext x71)
        refine bindC_eq ?_
        refine bindC_eq ?_
        refine bindC_nil ?_
        exact OpC_v rfl (o_slto (j := min k.length 1) Tryz.underlying22 Tryz.sizeOf68 rfl rfl (by have := hk.le; omega))
      refine OblC_cons (fun w76 c78 x77 hc079 hk80 => ?_) ?_
      · skip
        replace x77 := RelG.ext0 x77
        have z81 := Bel.size x77
        have dl := (fun z hz => (dl z hz).ext x77)
        have hk := hk.ext x77
        have dk := (fun z hz => (dk z hz).ext x77)
        refine bindC_mem (fun v24 hv24 => ?_)
        refine bindC_eq ?_
        refine bindC_mem (fun v24 hv24 => ?_)
        refine bindC_nil ?_
        exact OpC_app (l := (l.take (min l.length 13))) (news := (k.take (min k.length 1))) (by decide) encGo_ok el_gop rfl rfl hv24 (hk.take _) (by rw [List.length_take]; omega) (by simp; omega)
      exact OblC_nil
    case fin4 =>
      intro w82 c84 x83 hc085
      replace x83 := RelG.ext0 x83
      have z86 := Bel.size x83
      replace hX := Bel.ex hX x83
      replace hT := hT.ext x83
      replace hs := hs.ext x83
      replace dl := (fun z hz => (dl z hz).ext x83)
      replace hk := hk.ext x83
      replace dk := (fun z hz => (dk z hz).ext x83)
      refine bindC_mem (fun v18 _ => ?_)
      refine bindC_eq ?_
      refine bindC_eq ?_
      refine bindC_eq ?_
      refine bindC_eq ?_
      refine bindC_eq ?_
      refine bindC_mem (fun v24 _ => ?_)
      refine bindC_eq ?_
      refine bindC_eq ?_
      refine bindC_eq ?_
      refine bindC_eq ?_
      refine bindC_eq ?_
      refine bindC_mem (fun v30 hv30 => ?_)
      refine bindC_nil ?_
      change Own _ _ _ _ _ _ _ at hv30
      refine Rg_run rfl (o_assignh (v := v30) rfl) ?_
      refine Rg_nil ?_
      refine W_seq ?_
      refine W_region ?_
      refine Rg_run rfl (o_moveh (v := .slice _ _ _) rfl) ?_
      refine Rg_enter rfl (o_call1 Tryz.call13 rfl) (Ok.mono (lplay13_ok _ _ l hs.trd (fun z hz => (dl z hz).top)) ?_)
      rintro _ w87 ⟨⟨p33, q33, m33, rfl, hm33, hbk33, hrq33⟩, x88⟩
      have z89 := Bel.size x88
      replace hX := Bel.ex hX x88
      replace hT := hT.ext x88
      replace hs := hs.ext x88
      replace dl := (fun z hz => (dl z hz).ext x88)
      replace hk := hk.ext x88
      replace dk := (fun z hz => (dk z hz).ext x88)
      replace hv30 := hv30.ext x88
      refine Rg_run rfl (o_moveh (v := .tuple _) rfl) ?_
      refine Rg_run rfl (o_extract rfl rfl) ?_
      refine Rg_run rfl (o_extract rfl rfl) ?_
      refine Rg_run rfl (o_assignh (v := .pointer (some ⟨p33, 0, none⟩)) rfl) ?_
      refine Rg_run rfl (o_assignh (v := q33) rfl) ?_
      refine Rg_nil ?_
      refine W_seq ?_
      refine W_region ?_
      obtain ⟨am33, cm33, hme33, hms33⟩ := hrq33
      subst hme33
      have hlm33 := hm33.len
      refine Rg_run rfl (o_moveh (v := v30) rfl) ?_
      refine Rg_enter rfl (o_call1 Tryz.call13 rfl) (Ok.mono (lplay13_ok _ _ ((l.take (min l.length 13)) ++ (k.take (min k.length 1))) (hv30.trd encGo_ok) (fun z hz => ((List.mem_append.1 hz).elim (fun h => dl z (List.mem_of_mem_take h)) (fun h => dk z (List.mem_of_mem_take h))).top)) ?_)
      rintro _ w90 ⟨⟨p38, q38, m38, rfl, hm38, hbk38, hrq38⟩, x91⟩
      have z92 := Bel.size x91
      replace hX := Bel.ex hX x91
      replace hT := hT.ext x91
      replace dl := (fun z hz => (dl z hz).ext x91)
      replace hk := hk.ext x91
      replace dk := (fun z hz => (dk z hz).ext x91)
      replace hv30 := hv30.ext x91
      replace hbk33 := hbk33.ext x91
      replace hms33 := hms33.ext x91
      refine Rg_run rfl (o_moveh (v := .tuple _) rfl) ?_
      refine Rg_run rfl (o_extract rfl rfl) ?_
      refine Rg_run rfl (o_extract rfl rfl) ?_
      refine Rg_run rfl (o_assignh (v := .pointer (some ⟨p38, 0, none⟩)) rfl) ?_
      refine Rg_run rfl (o_assignh (v := q38) rfl) ?_
      refine Rg_nil ?_
      refine W_seq ?_
      refine W_seq ?_
      refine W_region ?_
      obtain ⟨am38, cm38, hme38, hms38⟩ := hrq38
      subst hme38
      have hlm38 := hm38.len
      refine Rg_run rfl (o_moveh (v := .pointer (some ⟨p33, 0, none⟩)) rfl) ?_
      refine Rg_run rfl (o_peq Tryz.underlying25 rfl rfl) ?_
      refine Rg_run rfl (o_moveh (v := .bool _) rfl) ?_
      refine Rg_on 2 43 rfl rfl ?_
      refine Rg_run rfl (o_moveh (v := .pointer (some ⟨p38, 0, none⟩)) rfl) ?_
      refine Rg_on 2 43 rfl rfl ?_
      refine Rg_run rfl (o_peq Tryz.underlying25 rfl rfl) ?_
      refine Rg_run rfl (o_pickF (v := .bool _) rfl rfl) ?_
      refine Rg_nil ?_
      refine W_cond_false rfl ?_
      refine W_skip ?_
      refine W_seq ?_
      refine W_region ?_
      refine Rg_run rfl (o_moveh (v := .slice _ _ _) rfl) ?_
      refine Rg_run rfl (o_llen Tryz.underlying26 rfl) ?_
      refine Rg_run rfl (o_moveh (v := .slice _ _ _) rfl) ?_
      refine Rg_run rfl (o_llen Tryz.underlying26 rfl) ?_
      refine Rg_run rfl (o_eql rfl rfl) ?_
      refine Rg_run rfl (o_assignh (v := .bool _) rfl) ?_
      refine Rg_nil ?_
      refine W_seq ?_
      refine W_seq ?_
      refine W_region ?_
      refine Rg_run rfl o_assignc ?_
      refine Rg_nil ?_
      refine W_block ?_
      refine W_for (α := Nat × Bool) [(11, 12), (52, 69)] (fun q => [(12, .int .i64 (q.1 : Int)), (11, .bool q.2)]) (fun q w' => (q.1 ≤ m33.length ∧ (q.2 = true → m33.length = m38.length ∧ m33.take q.1 = m38.take q.1) ∧ (q.2 = false → (m33 == m38) = false)) ∧ Ext False w90 w') (fun q => m33.length - q.1) (0, decide (m33.length = m38.length)) ⟨rfl, (congrArg Value.bool (by rw [Bool.eq_iff_iff, beq_iff_eq, decide_eq_true_iff]; omega)), trivial⟩ ⟨⟨Nat.zero_le _, fun h => ⟨of_decide_eq_true h, by simp⟩, fun h => eqF_len (of_decide_eq_false h)⟩, Bel.refl _ _⟩ ?_
      rintro ⟨j, bb⟩ fb95 w94 ⟨⟨hj, hj2, hj3⟩, hXL93⟩
      dsimp only at *
      have z96 := Bel.size hXL93
      replace hX := Bel.ex hX hXL93
      replace hT := hT.ext hXL93
      replace hbk33 := hbk33.ext hXL93
      replace hms33 := hms33.ext hXL93
      replace hbk38 := hbk38.ext hXL93
      replace hms38 := hms38.ext hXL93
      refine W_seq ?_
      refine W_seq ?_
      refine W_region ?_
      refine Rg_run rfl (o_moveh (v := .bool _) rfl) ?_
      refine Rg_run rfl (o_moveh (v := .bool _) rfl) ?_
      refine Rg_may 1 53 rfl rfl rfl (fun hg => (o_moveh (v := .int _ _) rfl)) ?_
      refine Rg_may 1 53 rfl rfl rfl (fun hg => (o_moveh (v := .slice _ _ _) rfl)) ?_
      refine Rg_may 1 53 rfl rfl rfl (fun hg => (o_llen Tryz.underlying26 (gsel (u := undef) hg))) ?_
      refine Rg_may 1 53 rfl rfl rfl (fun hg => (o_lss (gsel (u := undef) hg) (gsel (u := undef) hg))) ?_
      refine Rg_run rfl (o_and (u := undef) rfl rfl) ?_
      refine Rg_nil ?_
      refine W_cond rfl (fun hc4 => ?_) (fun hc4 => ?_)
      · skip
        have hb4 : bb = true ∧ j < m33.length := by simpa using hc4
        obtain ⟨hb5, hb6⟩ := hb4
        have hI2 := hj2 hb5
        refine W_skip ?_
        refine W_seq ?_
        refine W_block ?_
        apply W_draw (β := False) [peq _, peq _, peq _, peq _, peq _, peq _, peq _, peq _, peq _, peq _] 10 mixed (by kernel_rfl) rfl ⟨peq_stable _, peq_stable _, peq_stable _, peq_stable _, peq_stable _, peq_stable _, peq_stable _, peq_stable _, peq_stable _, peq_stable _, trivial⟩ ?ob13 ?fin13
        case ob13 =>
          refine OblL_cons (fun w97 x98 => ?_) ?_
          · skip
            have z99 := Bel.size x98
            refine bindP_nil ?_
            exact OpS_v rfl (o_moveh (v := .slice _ _ _) rfl)
          refine OblL_cons (fun w100 x101 => ?_) ?_
          · skip
            have z102 := Bel.size x101
            refine bindP_nil ?_
            exact OpS_v rfl (o_moveh (v := .int _ _) rfl)
          refine OblL_cons (fun w103 x104 => ?_) ?_
          · skip
            have z105 := Bel.size x104
            have hms33 := hms33.ext x104
            refine bindP_eq ?_
            refine bindP_eq ?_
            refine bindP_nil ?_
            exact OpS_v rfl (o_iaR Tryz.underlying26 Tryz.sizeOf43 hms33 rfl rfl (by first | omega | (unfold I64; omega) | (simp; done) | (simp; omega) | (simp at *; omega)))
          refine OblL_cons (fun w106 x107 => ?_) ?_
          · skip
            have z108 := Bel.size x107
            have hms33 := hms33.ext x107
            refine bindP_eq ?_
            refine bindP_nil ?_
            exact OpS_v rfl (o_ldRS Tryz.isAgg43 Tryz.sizeOf43 hms33 rfl (getE ez hb6))
          refine OblL_cons (fun w109 x110 => ?_) ?_
          · skip
            have z111 := Bel.size x110
            refine bindP_nil ?_
            exact OpS_v rfl (o_moveh (v := .slice _ _ _) rfl)
          refine OblL_cons (fun w112 x113 => ?_) ?_
          · skip
            have z114 := Bel.size x113
            refine bindP_nil ?_
            exact OpS_v rfl (o_moveh (v := .int _ _) rfl)
          refine OblL_cons (fun w115 x116 => ?_) ?_
          · skip
            have z117 := Bel.size x116
            have hms38 := hms38.ext x116
            refine bindP_eq ?_
            refine bindP_eq ?_
            refine bindP_nil ?_
            exact OpS_v rfl (o_iaR Tryz.underlying26 Tryz.sizeOf43 hms38 rfl rfl (by first | omega | (unfold I64; omega) | (simp; done) | (simp; omega) | (simp at *; omega)))
          refine OblL_cons (fun w118 x119 => ?_) ?_
          · skip
            have z120 := Bel.size x119
            have hms38 := hms38.ext x119
            refine bindP_eq ?_
            refine bindP_nil ?_
            exact OpS_v rfl (o_ldRS Tryz.isAgg43 Tryz.sizeOf43 hms38 rfl (getE ez (by omega)))
          refine OblL_cons (fun w121 x122 => ?_) ?_
          · skip
            have z123 := Bel.size x122
            refine bindP_eq ?_
            refine bindP_eq ?_
            refine bindP_nil ?_
            exact OpS_v rfl (o_teql eq_rent rfl rfl)
          refine OblL_cons (fun w124 x125 => ?_) ?_
          · skip
            have z126 := Bel.size x125
            refine bindP_eq ?_
            refine bindP_eq ?_
            refine bindP_eq ?_
            refine bindP_eq ?_
            refine bindP_eq ?_
            refine bindP_eq ?_
            refine bindP_eq ?_
            refine bindP_eq ?_
            refine bindP_eq ?_
            refine bindP_eq ?_
            refine bindP_nil ?_
            exact OpS_v rfl (o_assignh (v := .bool _) rfl)
          exact OblL_nil
        case fin13 =>
          intro w127 x128
          have z129 := Bel.size x128
          replace hX := Bel.ex hX x128
          replace hXL93 := Bel.ex hXL93 x128
          refine bindP_eq ?_
          refine bindP_eq ?_
          refine bindP_eq ?_
          refine bindP_eq ?_
          refine bindP_eq ?_
          refine bindP_eq ?_
          refine bindP_eq ?_
          refine bindP_eq ?_
          refine bindP_eq ?_
          refine bindP_eq ?_
          refine bindP_nil ?_
          refine Rg_nil ?_
          refine W_region ?_
          refine Rg_run rfl (o_moveh (v := .int _ _) rfl) ?_
          refine Rg_run rfl (o_add rfl rfl (by unfold I64; omega)) ?_
          refine Rg_run rfl (o_assignh (v := .int _ _) rfl) ?_
          refine Rg_nil ?_
          refine ⟨(j + 1, (m33.getD j ez == m38.getD j ez)), ⟨?_, ?_, trivial⟩, ?_, ⟨?_, hXL93⟩, ?_⟩
          · first | rfl | (go_num) | (exact congrArg _ (by omega))
          · first | rfl | (go_num) | (exact congrArg _ (by omega))
          · repeat (first | exact off_refl _ _ | exact off_mix | refine off_put rfl ?_ | refine off_putN ?_ | refine off_setL rfl ?_ | refine off_mix' rfl ?_)
          · exact ⟨by show j + 1 ≤ m33.length; omega, fun h => ⟨hI2.1, eqE_succ hb6 (by omega) hI2.2 h⟩, fun h => eqF_ne h⟩
          · show m33.length - (j + 1) < m33.length - j; omega
      · skip
        have hbe : bb = (m33 == m38) := eqF_end hj hj2 hj3 hc4
        refine W_exit ?_
        refine exAt_hit ?_
        refine W_seq ?_
        refine W_region ?_
        refine Rg_run rfl (o_moveh (v := .pointer (some ⟨p33, 0, none⟩)) rfl) ?_
        refine Rg_run rfl (o_moveh (v := .pointer (some ⟨p38, 0, none⟩)) rfl) ?_
        refine Rg_enter rfl (o_call2 Tryz.call28 rfl rfl) (Ok.mono (geq_ok _ _ _ _ _ hbk33.is hbk38.is) ?_)
        rintro _ w130 ⟨rfl, x131⟩
        have z132 := Bel.size x131
        replace hX := Bel.ex hX x131
        replace hT := hT.ext x131
        replace hbk33 := hbk33.ext x131
        replace hms33 := hms33.ext x131
        replace hbk38 := hbk38.ext x131
        replace hms38 := hms38.ext x131
        refine Rg_run rfl (o_moveh (v := .bool _) rfl) ?_
        refine Rg_run rfl (o_beql Tryz.underlying4 rfl rfl) ?_
        refine Rg_run rfl (o_moveh (v := .bool _) rfl) ?_
        refine Rg_on 5 75 rfl (congrArg Value.bool (by rw [hbe]; exact beq_self_eq_true _)) ?_
        refine Rg_run rfl (o_moveh (v := .pointer (some ⟨p38, 0, none⟩)) rfl) ?_
        refine Rg_on 5 75 rfl (congrArg Value.bool (by rw [hbe]; exact beq_self_eq_true _)) ?_
        refine Rg_run rfl (o_moveh (v := .pointer (some ⟨p33, 0, none⟩)) rfl) ?_
        refine Rg_on 5 75 rfl (congrArg Value.bool (by rw [hbe]; exact beq_self_eq_true _)) ?_
        refine Rg_enter rfl (o_call2 Tryz.call28 rfl rfl) (Ok.mono (geq_ok _ _ _ _ _ hbk38.is hbk33.is) ?_)
        rintro _ w133 ⟨rfl, x134⟩
        have z135 := Bel.size x134
        replace hX := Bel.ex hX x134
        replace hT := hT.ext x134
        replace hbk33 := hbk33.ext x134
        replace hms33 := hms33.ext x134
        replace hbk38 := hbk38.ext x134
        replace hms38 := hms38.ext x134
        refine Rg_on 5 75 rfl (congrArg Value.bool (by rw [hbe]; exact beq_self_eq_true _)) ?_
        refine Rg_run rfl (o_moveh (v := .bool _) rfl) ?_
        refine Rg_on 5 75 rfl (congrArg Value.bool (by rw [hbe]; exact beq_self_eq_true _)) ?_
        refine Rg_run rfl (o_beql Tryz.underlying4 rfl rfl) ?_
        refine Rg_run rfl (o_pickT (v := .bool _) (congrArg Value.bool (by rw [hbe]; exact beq_self_eq_true _)) rfl) ?_
        refine Rg_run rfl (o_assignh (v := .bool _) rfl) ?_
        refine Rg_nil ?_
        refine W_ret ?_
        refine ⟨_, res_tmp rfl rfl, ?_⟩
        refine ⟨congrArg Value.bool ?_, hX⟩
        all_goals (rw [hbe, beq_swL]; exact beq_self_eq_true _)
  · skip
    skip
    refine W_skip ?_
    refine W_seq ?_
    refine W_region ?_
    refine Rg_run rfl (o_moveh (v := .slice _ _ _) rfl) ?_
    refine Rg_enter rfl (o_call1 Tryz.call13 rfl) (Ok.mono (lplay13_ok _ _ l hs.trd (fun z hz => (dl z hz).top)) ?_)
    rintro _ w136 ⟨⟨p33, q33, m33, rfl, hm33, hbk33, hrq33⟩, x137⟩
    have z138 := Bel.size x137
    replace hX := Bel.ex hX x137
    replace hT := hT.ext x137
    replace hs := hs.ext x137
    replace dl := (fun z hz => (dl z hz).ext x137)
    replace hk := hk.ext x137
    replace dk := (fun z hz => (dk z hz).ext x137)
    refine Rg_run rfl (o_moveh (v := .tuple _) rfl) ?_
    refine Rg_run rfl (o_extract rfl rfl) ?_
    refine Rg_run rfl (o_extract rfl rfl) ?_
    refine Rg_run rfl (o_assignh (v := .pointer (some ⟨p33, 0, none⟩)) rfl) ?_
    refine Rg_run rfl (o_assignh (v := q33) rfl) ?_
    refine Rg_nil ?_
    refine W_seq ?_
    refine W_region ?_
    obtain ⟨am33, cm33, hme33, hms33⟩ := hrq33
    subst hme33
    have hlm33 := hm33.len
    refine Rg_run rfl (o_moveh (v := .slice _ _ _) rfl) ?_
    refine Rg_enter rfl (o_call1 Tryz.call13 rfl) (Ok.mono (lplay13_ok _ _ k hk.trd (fun z hz => (dk z hz).top)) ?_)
    rintro _ w139 ⟨⟨p38, q38, m38, rfl, hm38, hbk38, hrq38⟩, x140⟩
    have z141 := Bel.size x140
    replace hX := Bel.ex hX x140
    replace hT := hT.ext x140
    replace dl := (fun z hz => (dl z hz).ext x140)
    replace hk := hk.ext x140
    replace dk := (fun z hz => (dk z hz).ext x140)
    replace hbk33 := hbk33.ext x140
    replace hms33 := hms33.ext x140
    refine Rg_run rfl (o_moveh (v := .tuple _) rfl) ?_
    refine Rg_run rfl (o_extract rfl rfl) ?_
    refine Rg_run rfl (o_extract rfl rfl) ?_
    refine Rg_run rfl (o_assignh (v := .pointer (some ⟨p38, 0, none⟩)) rfl) ?_
    refine Rg_run rfl (o_assignh (v := q38) rfl) ?_
    refine Rg_nil ?_
    refine W_seq ?_
    refine W_seq ?_
    refine W_region ?_
    obtain ⟨am38, cm38, hme38, hms38⟩ := hrq38
    subst hme38
    have hlm38 := hm38.len
    refine Rg_run rfl (o_moveh (v := .pointer (some ⟨p33, 0, none⟩)) rfl) ?_
    refine Rg_run rfl (o_peq Tryz.underlying25 rfl rfl) ?_
    refine Rg_run rfl (o_moveh (v := .bool _) rfl) ?_
    refine Rg_on 2 43 rfl rfl ?_
    refine Rg_run rfl (o_moveh (v := .pointer (some ⟨p38, 0, none⟩)) rfl) ?_
    refine Rg_on 2 43 rfl rfl ?_
    refine Rg_run rfl (o_peq Tryz.underlying25 rfl rfl) ?_
    refine Rg_run rfl (o_pickF (v := .bool _) rfl rfl) ?_
    refine Rg_nil ?_
    refine W_cond_false rfl ?_
    refine W_skip ?_
    refine W_seq ?_
    refine W_region ?_
    refine Rg_run rfl (o_moveh (v := .slice _ _ _) rfl) ?_
    refine Rg_run rfl (o_llen Tryz.underlying26 rfl) ?_
    refine Rg_run rfl (o_moveh (v := .slice _ _ _) rfl) ?_
    refine Rg_run rfl (o_llen Tryz.underlying26 rfl) ?_
    refine Rg_run rfl (o_eql rfl rfl) ?_
    refine Rg_run rfl (o_assignh (v := .bool _) rfl) ?_
    refine Rg_nil ?_
    refine W_seq ?_
    refine W_seq ?_
    refine W_region ?_
    refine Rg_run rfl o_assignc ?_
    refine Rg_nil ?_
    refine W_block ?_
    refine W_for (α := Nat × Bool) [(11, 12), (52, 69)] (fun q => [(12, .int .i64 (q.1 : Int)), (11, .bool q.2)]) (fun q w' => (q.1 ≤ m33.length ∧ (q.2 = true → m33.length = m38.length ∧ m33.take q.1 = m38.take q.1) ∧ (q.2 = false → (m33 == m38) = false)) ∧ Ext False w139 w') (fun q => m33.length - q.1) (0, decide (m33.length = m38.length)) ⟨rfl, (congrArg Value.bool (by rw [Bool.eq_iff_iff, beq_iff_eq, decide_eq_true_iff]; omega)), trivial⟩ ⟨⟨Nat.zero_le _, fun h => ⟨of_decide_eq_true h, by simp⟩, fun h => eqF_len (of_decide_eq_false h)⟩, Bel.refl _ _⟩ ?_
    rintro ⟨j, bb⟩ fb144 w143 ⟨⟨hj, hj2, hj3⟩, hXL142⟩
    dsimp only at *
    have z145 := Bel.size hXL142
    replace hX := Bel.ex hX hXL142
    replace hT := hT.ext hXL142
    replace hbk33 := hbk33.ext hXL142
    replace hms33 := hms33.ext hXL142
    replace hbk38 := hbk38.ext hXL142
    replace hms38 := hms38.ext hXL142
    refine W_seq ?_
    refine W_seq ?_
    refine W_region ?_
    refine Rg_run rfl (o_moveh (v := .bool _) rfl) ?_
    refine Rg_run rfl (o_moveh (v := .bool _) rfl) ?_
    refine Rg_may 1 53 rfl rfl rfl (fun hg => (o_moveh (v := .int _ _) rfl)) ?_
    refine Rg_may 1 53 rfl rfl rfl (fun hg => (o_moveh (v := .slice _ _ _) rfl)) ?_
    refine Rg_may 1 53 rfl rfl rfl (fun hg => (o_llen Tryz.underlying26 (gsel (u := undef) hg))) ?_
    refine Rg_may 1 53 rfl rfl rfl (fun hg => (o_lss (gsel (u := undef) hg) (gsel (u := undef) hg))) ?_
    refine Rg_run rfl (o_and (u := undef) rfl rfl) ?_
    refine Rg_nil ?_
    refine W_cond rfl (fun hc6 => ?_) (fun hc6 => ?_)
    · skip
      have hb4 : bb = true ∧ j < m33.length := by simpa using hc6
      obtain ⟨hb5, hb6⟩ := hb4
      have hI2 := hj2 hb5
      refine W_skip ?_
      refine W_seq ?_
      refine W_block ?_
      apply W_draw (β := False) [peq _, peq _, peq _, peq _, peq _, peq _, peq _, peq _, peq _, peq _] 10 mixed (by kernel_rfl) rfl ⟨peq_stable _, peq_stable _, peq_stable _, peq_stable _, peq_stable _, peq_stable _, peq_stable _, peq_stable _, peq_stable _, peq_stable _, trivial⟩ ?ob13 ?fin13
      case ob13 =>
        refine OblL_cons (fun w146 x147 => ?_) ?_
        · skip
          have z148 := Bel.size x147
          refine bindP_nil ?_
          exact OpS_v rfl (o_moveh (v := .slice _ _ _) rfl)
        refine OblL_cons (fun w149 x150 => ?_) ?_
        · skip
          have z151 := Bel.size x150
          refine bindP_nil ?_
          exact OpS_v rfl (o_moveh (v := .int _ _) rfl)
        refine OblL_cons (fun w152 x153 => ?_) ?_
        · skip
          have z154 := Bel.size x153
          have hms33 := hms33.ext x153
          refine bindP_eq ?_
          refine bindP_eq ?_
          refine bindP_nil ?_
          exact OpS_v rfl (o_iaR Tryz.underlying26 Tryz.sizeOf43 hms33 rfl rfl (by first | omega | (unfold I64; omega) | (simp; done) | (simp; omega) | (simp at *; omega)))
        refine OblL_cons (fun w155 x156 => ?_) ?_
        · skip
          have z157 := Bel.size x156
          have hms33 := hms33.ext x156
          refine bindP_eq ?_
          refine bindP_nil ?_
          exact OpS_v rfl (o_ldRS Tryz.isAgg43 Tryz.sizeOf43 hms33 rfl (getE ez hb6))
        refine OblL_cons (fun w158 x159 => ?_) ?_
        · skip
          have z160 := Bel.size x159
          refine bindP_nil ?_
          exact OpS_v rfl (o_moveh (v := .slice _ _ _) rfl)
        refine OblL_cons (fun w161 x162 => ?_) ?_
        · skip
          have z163 := Bel.size x162
          refine bindP_nil ?_
          exact OpS_v rfl (o_moveh (v := .int _ _) rfl)
        refine OblL_cons (fun w164 x165 => ?_) ?_
        · skip
          have z166 := Bel.size x165
          have hms38 := hms38.ext x165
          refine bindP_eq ?_
          refine bindP_eq ?_
          refine bindP_nil ?_
          exact OpS_v rfl (o_iaR Tryz.underlying26 Tryz.sizeOf43 hms38 rfl rfl (by first | omega | (unfold I64; omega) | (simp; done) | (simp; omega) | (simp at *; omega)))
        refine OblL_cons (fun w167 x168 => ?_) ?_
        · skip
          have z169 := Bel.size x168
          have hms38 := hms38.ext x168
          refine bindP_eq ?_
          refine bindP_nil ?_
          exact OpS_v rfl (o_ldRS Tryz.isAgg43 Tryz.sizeOf43 hms38 rfl (getE ez (by omega)))
        refine OblL_cons (fun w170 x171 => ?_) ?_
        · skip
          have z172 := Bel.size x171
          refine bindP_eq ?_
          refine bindP_eq ?_
          refine bindP_nil ?_
          exact OpS_v rfl (o_teql eq_rent rfl rfl)
        refine OblL_cons (fun w173 x174 => ?_) ?_
        · skip
          have z175 := Bel.size x174
          refine bindP_eq ?_
          refine bindP_eq ?_
          refine bindP_eq ?_
          refine bindP_eq ?_
          refine bindP_eq ?_
          refine bindP_eq ?_
          refine bindP_eq ?_
          refine bindP_eq ?_
          refine bindP_eq ?_
          refine bindP_eq ?_
          refine bindP_nil ?_
          exact OpS_v rfl (o_assignh (v := .bool _) rfl)
        exact OblL_nil
      case fin13 =>
        intro w176 x177
        have z178 := Bel.size x177
        replace hX := Bel.ex hX x177
        replace hXL142 := Bel.ex hXL142 x177
        refine bindP_eq ?_
        refine bindP_eq ?_
        refine bindP_eq ?_
        refine bindP_eq ?_
        refine bindP_eq ?_
        refine bindP_eq ?_
        refine bindP_eq ?_
        refine bindP_eq ?_
        refine bindP_eq ?_
        refine bindP_eq ?_
        refine bindP_nil ?_
        refine Rg_nil ?_
        refine W_region ?_
        refine Rg_run rfl (o_moveh (v := .int _ _) rfl) ?_
        refine Rg_run rfl (o_add rfl rfl (by unfold I64; omega)) ?_
        refine Rg_run rfl (o_assignh (v := .int _ _) rfl) ?_
        refine Rg_nil ?_
        refine ⟨(j + 1, (m33.getD j ez == m38.getD j ez)), ⟨?_, ?_, trivial⟩, ?_, ⟨?_, hXL142⟩, ?_⟩
        · first | rfl | (go_num) | (exact congrArg _ (by omega))
        · first | rfl | (go_num) | (exact congrArg _ (by omega))
        · repeat (first | exact off_refl _ _ | exact off_mix | refine off_put rfl ?_ | refine off_putN ?_ | refine off_setL rfl ?_ | refine off_mix' rfl ?_)
        · exact ⟨by show j + 1 ≤ m33.length; omega, fun h => ⟨hI2.1, eqE_succ hb6 (by omega) hI2.2 h⟩, fun h => eqF_ne h⟩
        · show m33.length - (j + 1) < m33.length - j; omega
    · skip
      have hbe : bb = (m33 == m38) := eqF_end hj hj2 hj3 hc6
      refine W_exit ?_
      refine exAt_hit ?_
      refine W_seq ?_
      refine W_region ?_
      refine Rg_run rfl (o_moveh (v := .pointer (some ⟨p33, 0, none⟩)) rfl) ?_
      refine Rg_run rfl (o_moveh (v := .pointer (some ⟨p38, 0, none⟩)) rfl) ?_
      refine Rg_enter rfl (o_call2 Tryz.call28 rfl rfl) (Ok.mono (geq_ok _ _ _ _ _ hbk33.is hbk38.is) ?_)
      rintro _ w179 ⟨rfl, x180⟩
      have z181 := Bel.size x180
      replace hX := Bel.ex hX x180
      replace hT := hT.ext x180
      replace hbk33 := hbk33.ext x180
      replace hms33 := hms33.ext x180
      replace hbk38 := hbk38.ext x180
      replace hms38 := hms38.ext x180
      refine Rg_run rfl (o_moveh (v := .bool _) rfl) ?_
      refine Rg_run rfl (o_beql Tryz.underlying4 rfl rfl) ?_
      refine Rg_run rfl (o_moveh (v := .bool _) rfl) ?_
      refine Rg_on 5 75 rfl (congrArg Value.bool (by rw [hbe]; exact beq_self_eq_true _)) ?_
      refine Rg_run rfl (o_moveh (v := .pointer (some ⟨p38, 0, none⟩)) rfl) ?_
      refine Rg_on 5 75 rfl (congrArg Value.bool (by rw [hbe]; exact beq_self_eq_true _)) ?_
      refine Rg_run rfl (o_moveh (v := .pointer (some ⟨p33, 0, none⟩)) rfl) ?_
      refine Rg_on 5 75 rfl (congrArg Value.bool (by rw [hbe]; exact beq_self_eq_true _)) ?_
      refine Rg_enter rfl (o_call2 Tryz.call28 rfl rfl) (Ok.mono (geq_ok _ _ _ _ _ hbk38.is hbk33.is) ?_)
      rintro _ w182 ⟨rfl, x183⟩
      have z184 := Bel.size x183
      replace hX := Bel.ex hX x183
      replace hT := hT.ext x183
      replace hbk33 := hbk33.ext x183
      replace hms33 := hms33.ext x183
      replace hbk38 := hbk38.ext x183
      replace hms38 := hms38.ext x183
      refine Rg_on 5 75 rfl (congrArg Value.bool (by rw [hbe]; exact beq_self_eq_true _)) ?_
      refine Rg_run rfl (o_moveh (v := .bool _) rfl) ?_
      refine Rg_on 5 75 rfl (congrArg Value.bool (by rw [hbe]; exact beq_self_eq_true _)) ?_
      refine Rg_run rfl (o_beql Tryz.underlying4 rfl rfl) ?_
      refine Rg_run rfl (o_pickT (v := .bool _) (congrArg Value.bool (by rw [hbe]; exact beq_self_eq_true _)) rfl) ?_
      refine Rg_run rfl (o_assignh (v := .bool _) rfl) ?_
      refine Rg_nil ?_
      refine W_ret ?_
      refine ⟨_, res_tmp rfl rfl, ?_⟩
      refine ⟨congrArg Value.bool ?_, hX⟩
      all_goals (rw [hbe, beq_swL]; exact beq_self_eq_true _)

end Go.Proofs.YtndlnfdaeipifaaGreatDoor
