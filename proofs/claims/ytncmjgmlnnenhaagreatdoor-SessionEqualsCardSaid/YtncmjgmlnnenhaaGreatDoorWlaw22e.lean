/- Walks, printed by program: each theorem says what a function of the translation returns. -/
import Derived.Test.YtncmjgmlnnenhaaGreatDoorWsb
namespace Go.Proofs.YtncmjgmlnnenhaaGreatDoor
open Go Go.Lx Go.RowKit
set_option maxRecDepth 100000
set_option linter.unusedVariables false
set_option linter.unusedSimpArgs false
set_option linter.unnecessarySimpa false
theorem law_SessionEquals (w : World) (hT : Tb w) (v0 : Value) (l : List SOp) (hs : Rd encOp 4 (Lt w.heap.size) w v0 l) (hol : ∀ o ∈ l, I64 o.r) (v1 : Value) (k : List SOp) (hk : Rd encOp 4 (Lt w.heap.size) w v1 k) (hok : ∀ o ∈ k, I64 o.r) (s3 : UInt8) : Ok Tryz.prog 4 #[v0, v1, .int .u8 (s3.toNat : Int)] w fun v w' => v = .bool true ∧ Ext False w w' := by
  obtain ⟨a, c, rfl, hs⟩ := hs
  have hlen := hs.len
  obtain ⟨a1, c1, rfl, hk⟩ := hk
  have hlenk := hk.len
  refine Ok_of_W 70 Tryz.func4 rfl rfl rfl ?_
  have hX : Ext False w w := Bel.refl _ _
  refine W_seq ?_
  refine W_region ?_
  refine Rg_run rfl o_assignc ?_
  refine Rg_nil ?_
  refine W_seq ?_
  refine W_seq ?_
  refine W_region ?_
  refine Rg_enter rfl (o_call0 Tryz.call7) (Ok.mono (awake_ok _ hT) ?_)
  rintro _ w1 ⟨rfl, x2⟩
  have z3 := Bel.size x2
  replace hX := Bel.ex hX x2
  replace hT := hT.ext x2
  replace hs := hs.ext x2
  replace hk := hk.ext x2
  refine Rg_run rfl (o_not rfl) ?_
  refine Rg_nil ?_
  refine W_cond_false rfl ?_
  refine W_skip ?_
  refine W_seq ?_
  refine W_seq ?_
  refine W_region ?_
  refine Rg_run rfl (o_moveh (v := .int _ _) rfl) ?_
  refine Rg_run rfl (o_remU (a := s3.toNat) (b := 3) rfl rfl (by decide)) ?_
  refine Rg_run rfl (o_eql rfl rfl) ?_
  refine Rg_nil ?_
  refine W_cond rfl (fun hc2 => ?_) (fun hc2 => ?_)
  · skip
    skip
    apply W_drawC (β := False) (fun _ => 0) [(fun v w c => ∃ a, v = .slice a 0 0 ∧ postOwn encOp 4 24 1 [] v w c), peqC _, peqC _, peqC _, peqC _, peqC _, (postOwn encOp 4 24 1 (l.take (min l.length 29))), peqC _, peqC _, peqC _, peqC _, peqC _, (postOwn encOp 4 24 1 ((l.take (min l.length 29)) ++ (k.take (min k.length 1))))] [1, 0, 0, 0, 0, 0, 1, 0, 0, 0, 0, 0, 1] 13 mixed (by kernel_rfl) (by kernel_rfl) rfl ⟨(postBs_stable), peqC_stable _ _, peqC_stable _ _, peqC_stable _ _, peqC_stable _ _, peqC_stable _ _, (postOwn_stable), peqC_stable _ _, peqC_stable _ _, peqC_stable _ _, peqC_stable _ _, peqC_stable _ _, (postOwn_stable), trivial⟩ ?ob4 ?fin4
    case ob4 =>
      refine OblC_cons (fun w4 c6 x5 hc07 hk8 => ?_) ?_
      · skip
        replace x5 := RelG.ext0 x5
        have z9 := Bel.size x5
        refine bindC_nil ?_
        exact OpC_bs (vs := []) [] encOp_ok el_op rfl rfl trivial rfl rfl rfl rfl
      refine OblC_cons (fun w10 c12 x11 hc013 hk14 => ?_) ?_
      · skip
        replace x11 := RelG.ext0 x11
        have z15 := Bel.size x11
        refine bindC_nil ?_
        exact OpC_v rfl (o_moveh (v := .slice _ _ _) rfl)
      refine OblC_cons (fun w16 c18 x17 hc019 hk20 => ?_) ?_
      · skip
        replace x17 := RelG.ext0 x17
        have z21 := Bel.size x17
        refine bindC_nil ?_
        exact OpC_v rfl (o_moveh (v := .slice _ _ _) rfl)
      refine OblC_cons (fun w22 c24 x23 hc025 hk26 => ?_) ?_
      · skip
        replace x23 := RelG.ext0 x23
        have z27 := Bel.size x23
        refine bindC_eq ?_
        refine bindC_nil ?_
        exact OpC_v rfl (o_llen Tryz.underlying22 rfl)
      refine OblC_cons (fun w28 c30 x29 hc031 hk32 => ?_) ?_
      · skip
        replace x29 := RelG.ext0 x29
        have z33 := Bel.size x29
        refine bindC_eq ?_
        refine bindC_nil ?_
        exact OpC_v rfl (o_minN (a := l.length) (b := 29) rfl rfl)
      refine OblC_cons (fun w34 c36 x35 hc037 hk38 => ?_) ?_
      · skip
        replace x35 := RelG.ext0 x35
        have z39 := Bel.size x35
        have hs := hs.ext x35
        refine bindC_eq ?_
        refine bindC_eq ?_
        refine bindC_nil ?_
        exact OpC_v rfl (o_slto (j := min l.length 29) Tryz.underlying22 Tryz.sizeOf24 rfl rfl (by have := hs.le; omega))
      refine OblC_cons (fun w40 c42 x41 hc043 hk44 => ?_) ?_
      · skip
        replace x41 := RelG.ext0 x41
        have z45 := Bel.size x41
        have hs := hs.ext x41
        refine bindC_mem (fun v17 hv17 => ?_)
        refine bindC_eq ?_
        refine bindC_nil ?_
        obtain ⟨a17, rfl, ho17⟩ := hv17
        exact OpC_app (l := []) (news := (l.take (min l.length 29))) (by decide) encOp_ok el_op rfl rfl ho17 (hs.take _) (by rw [List.length_take]; omega) (by simp; omega)
      refine OblC_cons (fun w46 c48 x47 hc049 hk50 => ?_) ?_
      · skip
        replace x47 := RelG.ext0 x47
        have z51 := Bel.size x47
        refine bindC_nil ?_
        exact OpC_v rfl (o_moveh (v := .slice _ _ _) rfl)
      refine OblC_cons (fun w52 c54 x53 hc055 hk56 => ?_) ?_
      · skip
        replace x53 := RelG.ext0 x53
        have z57 := Bel.size x53
        refine bindC_nil ?_
        exact OpC_v rfl (o_moveh (v := .slice _ _ _) rfl)
      refine OblC_cons (fun w58 c60 x59 hc061 hk62 => ?_) ?_
      · skip
        replace x59 := RelG.ext0 x59
        have z63 := Bel.size x59
        refine bindC_eq ?_
        refine bindC_nil ?_
        exact OpC_v rfl (o_llen Tryz.underlying22 rfl)
      refine OblC_cons (fun w64 c66 x65 hc067 hk68 => ?_) ?_
      · skip
        replace x65 := RelG.ext0 x65
        have z69 := Bel.size x65
        refine bindC_eq ?_
        refine bindC_nil ?_
        exact OpC_v rfl (o_minN (a := k.length) (b := 1) rfl rfl)
      refine OblC_cons (fun w70 c72 x71 hc073 hk74 => ?_) ?_
      · skip
        replace x71 := RelG.ext0 x71
        have z75 := Bel.size x71
        have hk := hk.ext x71
        refine bindC_eq ?_
        refine bindC_eq ?_
        refine bindC_nil ?_
        exact OpC_v rfl (o_slto (j := min k.length 1) Tryz.underlying22 Tryz.sizeOf24 rfl rfl (by have := hk.le; omega))
      refine OblC_cons (fun w76 c78 x77 hc079 hk80 => ?_) ?_
      · skip
        replace x77 := RelG.ext0 x77
        have z81 := Bel.size x77
        have hk := hk.ext x77
        refine bindC_mem (fun v23 hv23 => ?_)
        refine bindC_eq ?_
        refine bindC_mem (fun v23 hv23 => ?_)
        refine bindC_nil ?_
        exact OpC_app (l := (l.take (min l.length 29))) (news := (k.take (min k.length 1))) (by decide) encOp_ok el_op rfl rfl hv23 (hk.take _) (by rw [List.length_take]; omega) (by simp; omega)
      exact OblC_nil
    case fin4 =>
      intro w82 c84 x83 hc085
      replace x83 := RelG.ext0 x83
      have z86 := Bel.size x83
      replace hX := Bel.ex hX x83
      replace hT := hT.ext x83
      replace hs := hs.ext x83
      replace hk := hk.ext x83
      refine bindC_mem (fun v17 _ => ?_)
      refine bindC_eq ?_
      refine bindC_eq ?_
      refine bindC_eq ?_
      refine bindC_eq ?_
      refine bindC_eq ?_
      refine bindC_mem (fun v23 _ => ?_)
      refine bindC_eq ?_
      refine bindC_eq ?_
      refine bindC_eq ?_
      refine bindC_eq ?_
      refine bindC_eq ?_
      refine bindC_mem (fun v29 hv29 => ?_)
      refine bindC_nil ?_
      change Own _ _ _ _ _ _ _ at hv29
      refine Rg_run rfl (o_assignh (v := v29) rfl) ?_
      refine Rg_nil ?_
      refine W_seq ?_
      refine W_region ?_
      refine Rg_run rfl (o_moveh (v := .slice _ _ _) rfl) ?_
      refine Rg_enter rfl (o_call1 Tryz.call8 rfl) (Ok.mono (lplay_ok _ _ _ _ _ hs hol) ?_)
      rintro _ w87 ⟨⟨p32, q32, m32, rfl, hm32, hbk32, hrq32⟩, x88⟩
      have z89 := Bel.size x88
      replace hX := Bel.ex hX x88
      replace hT := hT.ext x88
      replace hs := hs.ext x88
      replace hk := hk.ext x88
      replace hv29 := hv29.ext x88
      refine Rg_run rfl (o_moveh (v := .tuple _) rfl) ?_
      refine Rg_run rfl (o_extract rfl rfl) ?_
      refine Rg_run rfl (o_extract rfl rfl) ?_
      refine Rg_run rfl (o_assignh (v := p32) rfl) ?_
      refine Rg_run rfl (o_assignh (v := q32) rfl) ?_
      refine Rg_nil ?_
      refine W_seq ?_
      refine W_region ?_
      obtain ⟨a29, c29, hv29, -⟩ := hv29.sl encOp_ok
      subst hv29
      refine Rg_run rfl (o_moveh (v := .slice a29 ((l.take (min l.length 29)) ++ (k.take (min k.length 1))).length c29) rfl) ?_
      refine Rg_enter rfl (o_call1 Tryz.call8 rfl) (Ok.mono (lplay_ok _ _ _ ((l.take (min l.length 29)) ++ (k.take (min k.length 1))) _ (hv29.slA encOp_ok) (fun z hz => (List.mem_append.1 hz).elim (fun h => hol z (List.mem_of_mem_take h)) (fun h => hok z (List.mem_of_mem_take h)))) ?_)
      rintro _ w90 ⟨⟨p37, q37, m37, rfl, hm37, hbk37, hrq37⟩, x91⟩
      have z92 := Bel.size x91
      replace hX := Bel.ex hX x91
      replace hT := hT.ext x91
      replace hs := hs.ext x91
      replace hk := hk.ext x91
      replace hv29 := hv29.ext x91
      replace hbk32 := hbk32.ext x91
      replace hrq32 := (hrq32.ext x91).top
      refine Rg_run rfl (o_moveh (v := .tuple _) rfl) ?_
      refine Rg_run rfl (o_extract rfl rfl) ?_
      refine Rg_run rfl (o_extract rfl rfl) ?_
      refine Rg_run rfl (o_assignh (v := p37) rfl) ?_
      refine Rg_run rfl (o_assignh (v := q37) rfl) ?_
      refine Rg_nil ?_
      refine W_seq ?_
      refine W_seq ?_
      refine W_region ?_
      obtain ⟨pb, _, hpe, _, _⟩ := id hbk32
      subst hpe
      obtain ⟨pc, _, hpe, _, _⟩ := id hbk37
      subst hpe
      refine Rg_run rfl (o_moveh (v := .pointer (some ⟨pb, 0, none⟩)) rfl) ?_
      refine Rg_run rfl (o_peq Tryz.underlying26 rfl rfl) ?_
      refine Rg_run rfl (o_moveh (v := .bool _) rfl) ?_
      refine Rg_on 2 42 rfl rfl ?_
      refine Rg_run rfl (o_moveh (v := .pointer (some ⟨pc, 0, none⟩)) rfl) ?_
      refine Rg_on 2 42 rfl rfl ?_
      refine Rg_run rfl (o_peq Tryz.underlying26 rfl rfl) ?_
      refine Rg_run rfl (o_pickF (v := .bool _) rfl rfl) ?_
      refine Rg_nil ?_
      refine W_cond_false rfl ?_
      refine W_skip ?_
      refine W_seq ?_
      refine W_region ?_
      refine Rg_run rfl (o_moveh (v := q32) rfl) ?_
      refine Rg_run rfl (o_moveh (v := q37) rfl) ?_
      refine Rg_enter rfl (o_call2 Tryz.call18 rfl rfl) (Ok.mono (req_ok _ _ _ _ _ _ _ hrq32 hrq37) ?_)
      rintro _ w93 ⟨rfl, x94⟩
      have z95 := Bel.size x94
      replace hX := Bel.ex hX x94
      replace hT := hT.ext x94
      replace hs := hs.ext x94
      replace hk := hk.ext x94
      replace hv29 := hv29.ext x94
      replace hbk32 := hbk32.ext x94
      replace hrq32 := (hrq32.ext x94).top
      replace hbk37 := hbk37.ext x94
      replace hrq37 := (hrq37.ext x94).top
      refine Rg_run rfl (o_assignh (v := .bool _) rfl) ?_
      refine Rg_nil ?_
      refine W_seq ?_
      refine W_region ?_
      refine Rg_run rfl (o_moveh (v := .pointer (some ⟨pb, 0, none⟩)) rfl) ?_
      refine Rg_run rfl (o_moveh (v := .pointer (some ⟨pc, 0, none⟩)) rfl) ?_
      refine Rg_enter rfl (o_call2 Tryz.call16 rfl rfl) (Ok.mono (seqB_ok _ _ _ _ _ hbk32 hbk37) ?_)
      rintro _ w96 ⟨rfl, x97⟩
      have z98 := Bel.size x97
      replace hX := Bel.ex hX x97
      replace hT := hT.ext x97
      replace hs := hs.ext x97
      replace hk := hk.ext x97
      replace hv29 := hv29.ext x97
      replace hbk32 := hbk32.ext x97
      replace hrq32 := (hrq32.ext x97).top
      replace hbk37 := hbk37.ext x97
      replace hrq37 := (hrq37.ext x97).top
      refine Rg_run rfl (o_moveh (v := .bool _) rfl) ?_
      refine Rg_run rfl (o_beql Tryz.underlying4 rfl rfl) ?_
      refine Rg_run rfl (o_moveh (v := .bool _) rfl) ?_
      refine Rg_on 5 54 rfl (congrArg Value.bool (beq_self_eq_true _)) ?_
      refine Rg_run rfl (o_moveh (v := .pointer (some ⟨pc, 0, none⟩)) rfl) ?_
      refine Rg_on 5 54 rfl (congrArg Value.bool (beq_self_eq_true _)) ?_
      refine Rg_run rfl (o_moveh (v := .pointer (some ⟨pb, 0, none⟩)) rfl) ?_
      refine Rg_on 5 54 rfl (congrArg Value.bool (beq_self_eq_true _)) ?_
      refine Rg_enter rfl (o_call2 Tryz.call16 rfl rfl) (Ok.mono (seqB_ok _ _ _ _ _ hbk37 hbk32) ?_)
      rintro _ w99 ⟨rfl, x100⟩
      have z101 := Bel.size x100
      replace hX := Bel.ex hX x100
      replace hT := hT.ext x100
      replace hs := hs.ext x100
      replace hk := hk.ext x100
      replace hv29 := hv29.ext x100
      replace hbk32 := hbk32.ext x100
      replace hrq32 := (hrq32.ext x100).top
      replace hbk37 := hbk37.ext x100
      replace hrq37 := (hrq37.ext x100).top
      refine Rg_on 5 54 rfl (congrArg Value.bool (beq_self_eq_true _)) ?_
      refine Rg_run rfl (o_moveh (v := .bool _) rfl) ?_
      refine Rg_on 5 54 rfl (congrArg Value.bool (beq_self_eq_true _)) ?_
      refine Rg_run rfl (o_beql Tryz.underlying4 rfl rfl) ?_
      refine Rg_run rfl (o_pickT (v := .bool _) (congrArg Value.bool (beq_self_eq_true _)) rfl) ?_
      refine Rg_run rfl (o_moveh (v := .bool _) rfl) ?_
      refine Rg_on 12 61 rfl (congrArg Value.bool (by rw [beq_swR]; exact beq_self_eq_true _)) ?_
      refine Rg_run rfl (o_moveh (v := .pointer (some ⟨pb, 0, none⟩)) rfl) ?_
      refine Rg_on 12 61 rfl (congrArg Value.bool (by rw [beq_swR]; exact beq_self_eq_true _)) ?_
      refine Rg_enter rfl (o_call1 Tryz.call9 rfl) (Ok.mono (sbytes_ok _ _ _ hbk32 hm32) ?_)
      rintro v63 w102 ⟨hown63, x103⟩
      have z104 := Bel.size x103
      replace hX := Bel.ex hX x103
      replace hT := hT.ext x103
      replace hs := hs.ext x103
      replace hk := hk.ext x103
      replace hv29 := hv29.ext x103
      replace hbk32 := hbk32.ext x103
      replace hrq32 := (hrq32.ext x103).top
      replace hbk37 := hbk37.ext x103
      replace hrq37 := (hrq37.ext x103).top
      replace hown63 := hown63.mono (D' := fun g => w.heap.size ≤ g) (fun g h1 h2 => by omega)
      refine Rg_on 12 61 rfl (congrArg Value.bool (by rw [beq_swR]; exact beq_self_eq_true _)) ?_
      refine Rg_run rfl (o_moveh (v := .pointer (some ⟨pc, 0, none⟩)) rfl) ?_
      refine Rg_on 12 61 rfl (congrArg Value.bool (by rw [beq_swR]; exact beq_self_eq_true _)) ?_
      refine Rg_enter rfl (o_call1 Tryz.call9 rfl) (Ok.mono (sbytes_ok _ _ _ hbk37 hm37) ?_)
      rintro v65 w105 ⟨hown65, x106⟩
      have z107 := Bel.size x106
      replace hX := Bel.ex hX x106
      replace hT := hT.ext x106
      replace hs := hs.ext x106
      replace hk := hk.ext x106
      replace hv29 := hv29.ext x106
      replace hbk32 := hbk32.ext x106
      replace hrq32 := (hrq32.ext x106).top
      replace hbk37 := hbk37.ext x106
      replace hrq37 := (hrq37.ext x106).top
      replace hown63 := hown63.ext x106
      replace hown65 := hown65.mono (D' := fun g => w.heap.size ≤ g) (fun g h1 h2 => by omega)
      refine Rg_on 12 61 rfl (congrArg Value.bool (by rw [beq_swR]; exact beq_self_eq_true _)) ?_
      refine Rg_enter rfl (o_call2 Tryz.call17 rfl rfl) (Ok.mono (r2same_ok _ _ _ _ _ _ _ (hown63.trd encB_ok) (hown65.trd encB_ok)) ?_)
      rintro _ w108 ⟨rfl, x109⟩
      have z110 := Bel.size x109
      replace hX := Bel.ex hX x109
      replace hT := hT.ext x109
      replace hs := hs.ext x109
      replace hk := hk.ext x109
      replace hv29 := hv29.ext x109
      replace hbk32 := hbk32.ext x109
      replace hrq32 := (hrq32.ext x109).top
      replace hbk37 := hbk37.ext x109
      replace hrq37 := (hrq37.ext x109).top
      replace hown63 := hown63.ext x109
      replace hown65 := hown65.ext x109
      refine Rg_on 12 61 rfl (congrArg Value.bool (by rw [beq_swR]; exact beq_self_eq_true _)) ?_
      refine Rg_run rfl (o_moveh (v := .bool _) rfl) ?_
      refine Rg_on 12 61 rfl (congrArg Value.bool (by rw [beq_swR]; exact beq_self_eq_true _)) ?_
      refine Rg_run rfl (o_beql Tryz.underlying4 rfl rfl) ?_
      refine Rg_run rfl (o_pickT (v := .bool _) (congrArg Value.bool (by rw [beq_swR]; exact beq_self_eq_true _)) rfl) ?_
      refine Rg_run rfl (o_assignh (v := .bool _) rfl) ?_
      refine Rg_nil ?_
      refine W_ret ?_
      refine ⟨_, res_tmp rfl rfl, ?_⟩
      refine ⟨congrArg Value.bool ?_, hX⟩
      all_goals (rw [bytesM_beq hm32 hm37]; exact beq_self_eq_true _)
  · skip
    skip
    refine W_skip ?_
    refine W_seq ?_
    refine W_region ?_
    refine Rg_run rfl (o_moveh (v := .slice _ _ _) rfl) ?_
    refine Rg_enter rfl (o_call1 Tryz.call8 rfl) (Ok.mono (lplay_ok _ _ _ _ _ hs hol) ?_)
    rintro _ w111 ⟨⟨p32, q32, m32, rfl, hm32, hbk32, hrq32⟩, x112⟩
    have z113 := Bel.size x112
    replace hX := Bel.ex hX x112
    replace hT := hT.ext x112
    replace hs := hs.ext x112
    replace hk := hk.ext x112
    refine Rg_run rfl (o_moveh (v := .tuple _) rfl) ?_
    refine Rg_run rfl (o_extract rfl rfl) ?_
    refine Rg_run rfl (o_extract rfl rfl) ?_
    refine Rg_run rfl (o_assignh (v := p32) rfl) ?_
    refine Rg_run rfl (o_assignh (v := q32) rfl) ?_
    refine Rg_nil ?_
    refine W_seq ?_
    refine W_region ?_
    refine Rg_run rfl (o_moveh (v := .slice _ _ _) rfl) ?_
    refine Rg_enter rfl (o_call1 Tryz.call8 rfl) (Ok.mono (lplay_ok _ _ _ k _ hk hok) ?_)
    rintro _ w114 ⟨⟨p37, q37, m37, rfl, hm37, hbk37, hrq37⟩, x115⟩
    have z116 := Bel.size x115
    replace hX := Bel.ex hX x115
    replace hT := hT.ext x115
    replace hs := hs.ext x115
    replace hk := hk.ext x115
    replace hbk32 := hbk32.ext x115
    replace hrq32 := (hrq32.ext x115).top
    refine Rg_run rfl (o_moveh (v := .tuple _) rfl) ?_
    refine Rg_run rfl (o_extract rfl rfl) ?_
    refine Rg_run rfl (o_extract rfl rfl) ?_
    refine Rg_run rfl (o_assignh (v := p37) rfl) ?_
    refine Rg_run rfl (o_assignh (v := q37) rfl) ?_
    refine Rg_nil ?_
    refine W_seq ?_
    refine W_seq ?_
    refine W_region ?_
    obtain ⟨pb, _, hpe, _, _⟩ := id hbk32
    subst hpe
    obtain ⟨pc, _, hpe, _, _⟩ := id hbk37
    subst hpe
    refine Rg_run rfl (o_moveh (v := .pointer (some ⟨pb, 0, none⟩)) rfl) ?_
    refine Rg_run rfl (o_peq Tryz.underlying26 rfl rfl) ?_
    refine Rg_run rfl (o_moveh (v := .bool _) rfl) ?_
    refine Rg_on 2 42 rfl rfl ?_
    refine Rg_run rfl (o_moveh (v := .pointer (some ⟨pc, 0, none⟩)) rfl) ?_
    refine Rg_on 2 42 rfl rfl ?_
    refine Rg_run rfl (o_peq Tryz.underlying26 rfl rfl) ?_
    refine Rg_run rfl (o_pickF (v := .bool _) rfl rfl) ?_
    refine Rg_nil ?_
    refine W_cond_false rfl ?_
    refine W_skip ?_
    refine W_seq ?_
    refine W_region ?_
    refine Rg_run rfl (o_moveh (v := q32) rfl) ?_
    refine Rg_run rfl (o_moveh (v := q37) rfl) ?_
    refine Rg_enter rfl (o_call2 Tryz.call18 rfl rfl) (Ok.mono (req_ok _ _ _ _ _ _ _ hrq32 hrq37) ?_)
    rintro _ w117 ⟨rfl, x118⟩
    have z119 := Bel.size x118
    replace hX := Bel.ex hX x118
    replace hT := hT.ext x118
    replace hs := hs.ext x118
    replace hk := hk.ext x118
    replace hbk32 := hbk32.ext x118
    replace hrq32 := (hrq32.ext x118).top
    replace hbk37 := hbk37.ext x118
    replace hrq37 := (hrq37.ext x118).top
    refine Rg_run rfl (o_assignh (v := .bool _) rfl) ?_
    refine Rg_nil ?_
    refine W_seq ?_
    refine W_region ?_
    refine Rg_run rfl (o_moveh (v := .pointer (some ⟨pb, 0, none⟩)) rfl) ?_
    refine Rg_run rfl (o_moveh (v := .pointer (some ⟨pc, 0, none⟩)) rfl) ?_
    refine Rg_enter rfl (o_call2 Tryz.call16 rfl rfl) (Ok.mono (seqB_ok _ _ _ _ _ hbk32 hbk37) ?_)
    rintro _ w120 ⟨rfl, x121⟩
    have z122 := Bel.size x121
    replace hX := Bel.ex hX x121
    replace hT := hT.ext x121
    replace hs := hs.ext x121
    replace hk := hk.ext x121
    replace hbk32 := hbk32.ext x121
    replace hrq32 := (hrq32.ext x121).top
    replace hbk37 := hbk37.ext x121
    replace hrq37 := (hrq37.ext x121).top
    refine Rg_run rfl (o_moveh (v := .bool _) rfl) ?_
    refine Rg_run rfl (o_beql Tryz.underlying4 rfl rfl) ?_
    refine Rg_run rfl (o_moveh (v := .bool _) rfl) ?_
    refine Rg_on 5 54 rfl (congrArg Value.bool (beq_self_eq_true _)) ?_
    refine Rg_run rfl (o_moveh (v := .pointer (some ⟨pc, 0, none⟩)) rfl) ?_
    refine Rg_on 5 54 rfl (congrArg Value.bool (beq_self_eq_true _)) ?_
    refine Rg_run rfl (o_moveh (v := .pointer (some ⟨pb, 0, none⟩)) rfl) ?_
    refine Rg_on 5 54 rfl (congrArg Value.bool (beq_self_eq_true _)) ?_
    refine Rg_enter rfl (o_call2 Tryz.call16 rfl rfl) (Ok.mono (seqB_ok _ _ _ _ _ hbk37 hbk32) ?_)
    rintro _ w123 ⟨rfl, x124⟩
    have z125 := Bel.size x124
    replace hX := Bel.ex hX x124
    replace hT := hT.ext x124
    replace hs := hs.ext x124
    replace hk := hk.ext x124
    replace hbk32 := hbk32.ext x124
    replace hrq32 := (hrq32.ext x124).top
    replace hbk37 := hbk37.ext x124
    replace hrq37 := (hrq37.ext x124).top
    refine Rg_on 5 54 rfl (congrArg Value.bool (beq_self_eq_true _)) ?_
    refine Rg_run rfl (o_moveh (v := .bool _) rfl) ?_
    refine Rg_on 5 54 rfl (congrArg Value.bool (beq_self_eq_true _)) ?_
    refine Rg_run rfl (o_beql Tryz.underlying4 rfl rfl) ?_
    refine Rg_run rfl (o_pickT (v := .bool _) (congrArg Value.bool (beq_self_eq_true _)) rfl) ?_
    refine Rg_run rfl (o_moveh (v := .bool _) rfl) ?_
    refine Rg_on 12 61 rfl (congrArg Value.bool (by rw [beq_swR]; exact beq_self_eq_true _)) ?_
    refine Rg_run rfl (o_moveh (v := .pointer (some ⟨pb, 0, none⟩)) rfl) ?_
    refine Rg_on 12 61 rfl (congrArg Value.bool (by rw [beq_swR]; exact beq_self_eq_true _)) ?_
    refine Rg_enter rfl (o_call1 Tryz.call9 rfl) (Ok.mono (sbytes_ok _ _ _ hbk32 hm32) ?_)
    rintro v63 w126 ⟨hown63, x127⟩
    have z128 := Bel.size x127
    replace hX := Bel.ex hX x127
    replace hT := hT.ext x127
    replace hs := hs.ext x127
    replace hk := hk.ext x127
    replace hbk32 := hbk32.ext x127
    replace hrq32 := (hrq32.ext x127).top
    replace hbk37 := hbk37.ext x127
    replace hrq37 := (hrq37.ext x127).top
    replace hown63 := hown63.mono (D' := fun g => w.heap.size ≤ g) (fun g h1 h2 => by omega)
    refine Rg_on 12 61 rfl (congrArg Value.bool (by rw [beq_swR]; exact beq_self_eq_true _)) ?_
    refine Rg_run rfl (o_moveh (v := .pointer (some ⟨pc, 0, none⟩)) rfl) ?_
    refine Rg_on 12 61 rfl (congrArg Value.bool (by rw [beq_swR]; exact beq_self_eq_true _)) ?_
    refine Rg_enter rfl (o_call1 Tryz.call9 rfl) (Ok.mono (sbytes_ok _ _ _ hbk37 hm37) ?_)
    rintro v65 w129 ⟨hown65, x130⟩
    have z131 := Bel.size x130
    replace hX := Bel.ex hX x130
    replace hT := hT.ext x130
    replace hs := hs.ext x130
    replace hk := hk.ext x130
    replace hbk32 := hbk32.ext x130
    replace hrq32 := (hrq32.ext x130).top
    replace hbk37 := hbk37.ext x130
    replace hrq37 := (hrq37.ext x130).top
    replace hown63 := hown63.ext x130
    replace hown65 := hown65.mono (D' := fun g => w.heap.size ≤ g) (fun g h1 h2 => by omega)
    refine Rg_on 12 61 rfl (congrArg Value.bool (by rw [beq_swR]; exact beq_self_eq_true _)) ?_
    refine Rg_enter rfl (o_call2 Tryz.call17 rfl rfl) (Ok.mono (r2same_ok _ _ _ _ _ _ _ (hown63.trd encB_ok) (hown65.trd encB_ok)) ?_)
    rintro _ w132 ⟨rfl, x133⟩
    have z134 := Bel.size x133
    replace hX := Bel.ex hX x133
    replace hT := hT.ext x133
    replace hs := hs.ext x133
    replace hk := hk.ext x133
    replace hbk32 := hbk32.ext x133
    replace hrq32 := (hrq32.ext x133).top
    replace hbk37 := hbk37.ext x133
    replace hrq37 := (hrq37.ext x133).top
    replace hown63 := hown63.ext x133
    replace hown65 := hown65.ext x133
    refine Rg_on 12 61 rfl (congrArg Value.bool (by rw [beq_swR]; exact beq_self_eq_true _)) ?_
    refine Rg_run rfl (o_moveh (v := .bool _) rfl) ?_
    refine Rg_on 12 61 rfl (congrArg Value.bool (by rw [beq_swR]; exact beq_self_eq_true _)) ?_
    refine Rg_run rfl (o_beql Tryz.underlying4 rfl rfl) ?_
    refine Rg_run rfl (o_pickT (v := .bool _) (congrArg Value.bool (by rw [beq_swR]; exact beq_self_eq_true _)) rfl) ?_
    refine Rg_run rfl (o_assignh (v := .bool _) rfl) ?_
    refine Rg_nil ?_
    refine W_ret ?_
    refine ⟨_, res_tmp rfl rfl, ?_⟩
    refine ⟨congrArg Value.bool ?_, hX⟩
    all_goals (rw [bytesM_beq hm32 hm37]; exact beq_self_eq_true _)

end Go.Proofs.YtncmjgmlnnenhaaGreatDoor
