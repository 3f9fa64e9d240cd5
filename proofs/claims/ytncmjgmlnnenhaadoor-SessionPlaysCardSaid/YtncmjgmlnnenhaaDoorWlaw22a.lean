/- Walks, printed by program: each theorem says what a function of the translation returns. -/
import Derived.Test.YtncmjgmlnnenhaaDoorWref22
namespace Go.Proofs.YtncmjgmlnnenhaaDoor
open Go Go.Lx Go.RowKit
set_option maxRecDepth 100000
set_option linter.unusedVariables false
set_option linter.unusedSimpArgs false
set_option linter.unnecessarySimpa false
theorem law_SessionFills (w : World) (hT : Tb w) (v0 : Value) (l : List UInt8) (hs : Rd encB 1 (Lt w.heap.size) w v0 l) (n : UInt8) : Ok Tryd.prog 3 #[v0, .int .u8 (n.toNat : Int)] w fun v w' => v = .bool true ∧ Ext False w w' := by
  obtain ⟨a, c, rfl, hs⟩ := hs
  have hlen := hs.len
  refine Ok_of_W 116 Tryd.func3 rfl rfl rfl ?_
  have hX : Ext False w w := Bel.refl _ _
  refine W_seq ?_
  refine W_region ?_
  refine Rg_run rfl o_assignc ?_
  refine Rg_nil ?_
  refine W_seq ?_
  refine W_seq ?_
  refine W_region ?_
  refine Rg_enter rfl (o_call0 Tryd.call8) (Ok.mono (awake_ok _ hT) ?_)
  rintro _ w1 ⟨rfl, x2⟩
  have z3 := Bel.size x2
  replace hX := Bel.ex hX x2
  replace hT := hT.ext x2
  replace hs := hs.ext x2
  refine Rg_run rfl (o_not rfl) ?_
  refine Rg_nil ?_
  refine W_cond_false rfl ?_
  refine W_skip ?_
  refine W_seq ?_
  refine W_region ?_
  refine Rg_enter rfl (o_call0 Tryd.call9) (Ok.mono (snew_ok _) ?_)
  rintro v25 w4 ⟨hbk25, x5⟩
  have z6 := Bel.size x5
  replace hX := Bel.ex hX x5
  replace hT := hT.ext x5
  replace hs := hs.ext x5
  refine Rg_run rfl (o_assignh (v := v25) rfl) ?_
  refine Rg_nil ?_
  refine W_seq ?_
  refine W_seq ?_
  refine W_region ?_
  refine Rg_run rfl o_movec ?_
  refine Rg_nil ?_
  refine W_block ?_
  refine W_for (α := Nat × List RS × Value) [(4, 10), (26, 55)] (fun q => [(26, .int .i64 (q.1 : Int)), (5, q.2.2)]) (fun q w' => (q.1 ≤ 64 ∧ FullTo q.2.1 q.1) ∧ Ext False w4 w' ∧ (BkIs w' q.2.2 q.2.1)) (fun q => 64 - q.1) (0, [], v25) ⟨rfl, rfl, trivial⟩ ⟨⟨Nat.zero_le _, FullTo.start⟩, Bel.refl _ _, hbk25⟩ ?_
  rintro ⟨k, m, vb⟩ fb9 w8 ⟨⟨hk, hf⟩, hXL7, hbk⟩
  dsimp only at *
  have z10 := Bel.size hXL7
  replace hX := Bel.ex hX hXL7
  replace hT := hT.ext hXL7
  replace hs := hs.ext hXL7
  refine W_seq ?_
  refine W_region ?_
  refine Rg_run rfl (o_lss rfl rfl) ?_
  refine Rg_nil ?_
  refine W_seq ?_
  refine W_cond rfl (fun hc2 => ?_) (fun hc2 => ?_)
  · skip
    replace hc2 := of_decide_eq_true hc2
    refine W_skip ?_
    refine W_seq ?_
    refine W_block ?_
    refine W_seq ?_
    refine W_region ?_
    refine Rg_run rfl (o_moveh (v := .int _ _) rfl) ?_
    refine Rg_run rfl (o_assignh (v := .int _ _) rfl) ?_
    refine Rg_nil ?_
    refine W_seq ?_
    refine W_region ?_
    refine Rg_run rfl o_assignc ?_
    refine Rg_nil ?_
    refine W_seq ?_
    refine W_seq ?_
    refine W_region ?_
    refine Rg_run rfl (o_moveh (v := .int _ _) rfl) ?_
    refine Rg_run rfl (o_moveh (v := .slice _ _ _) rfl) ?_
    refine Rg_run rfl (o_llen Tryd.underlying22 rfl) ?_
    refine Rg_run rfl (o_lss rfl rfl) ?_
    refine Rg_nil ?_
    refine W_cond rfl (fun hc3 => ?_) (fun hc3 => ?_)
    · skip
      replace hc3 := of_decide_eq_true hc3
      refine W_region ?_
      refine Rg_run rfl (o_moveh (v := .slice _ _ _) rfl) ?_
      refine Rg_run rfl (o_moveh (v := .int _ _) rfl) ?_
      refine Rg_run rfl (o_iaR Tryd.underlying22 Tryd.sizeOf5 hs rfl rfl (by first | omega | (unfold I64; omega) | (simp; done) | (simp; omega) | (simp at *; omega))) ?_
      refine Rg_run rfl (o_ldR Tryd.isAgg5 hs rfl rfl (getE 0 (by omega)) rfl) ?_
      refine Rg_run rfl (o_convS Tryd.underlying5 Tryd.underlying3 rfl (wrapB _)) ?_
      refine Rg_run rfl (o_add rfl rfl (by have := (l.getD k 0).toNat_lt; unfold I64; omega)) ?_
      refine Rg_run rfl (o_assignh (v := .int _ _) rfl) ?_
      refine Rg_nil ?_
      refine W_seq ?_
      refine W_region ?_
      refine Rg_run rfl (o_moveh (v := vb) rfl) ?_
      refine Rg_run rfl (o_moveh (v := .int _ _) rfl) ?_
      refine Rg_enter rfl (o_call2 Tryd.call10 rfl rfl) (Ok.mono (sopenC_ok _ m _ hbk hf.ok (1 + ((l.getD k 0).toNat : Int)) (hf.open (by omega) (by have := (l.getD k 0).toNat_lt; omega)).1) ?_)
      rintro _ w11 ⟨⟨p42, rfl, hbk42⟩, x12⟩
      have z13 := Bel.size x12
      replace hX := Bel.ex hX x12
      replace hXL7 := Bel.ex hXL7 x12
      replace hT := hT.ext x12
      replace hs := hs.ext x12
      replace hbk := hbk.ext x12
      refine Rg_run rfl (o_moveh (v := .tuple _) rfl) ?_
      refine Rg_run rfl (o_extract rfl rfl) ?_
      refine Rg_run rfl (o_extract rfl rfl) ?_
      refine Rg_run rfl (o_extract rfl rfl) ?_
      refine Rg_run rfl (o_assignh (v := p42) rfl) ?_
      refine Rg_run rfl (o_assignh (v := .int _ _) rfl) ?_
      refine Rg_run rfl (o_assignh (v := .int _ _) rfl) ?_
      refine Rg_nil ?_
      refine W_seq ?_
      refine W_seq ?_
      refine W_region ?_
      refine Rg_run rfl (o_moveh (v := .int _ _) rfl) ?_
      refine Rg_run rfl (o_neq rfl rfl) ?_
      refine Rg_run rfl (o_moveh (v := .bool _) rfl) ?_
      refine Rg_on 2 48 rfl (congrArg Value.bool (by decide)) ?_
      refine Rg_run rfl (o_moveh (v := .int _ _) rfl) ?_
      refine Rg_on 2 48 rfl (congrArg Value.bool (by decide)) ?_
      refine Rg_run rfl (o_moveh (v := .int _ _) rfl) ?_
      refine Rg_on 2 48 rfl (congrArg Value.bool (by decide)) ?_
      refine Rg_run rfl (o_add rfl rfl (by unfold I64; omega)) ?_
      refine Rg_on 2 48 rfl (congrArg Value.bool (by decide)) ?_
      refine Rg_run rfl (o_neq rfl rfl) ?_
      refine Rg_run rfl (o_pickF (v := .bool _) (congrArg Value.bool (by decide)) rfl) ?_
      refine Rg_nil ?_
      refine W_cond_false (congrArg Value.bool (by simp)) ?_
      refine W_skip ?_
      refine W_region ?_
      refine Rg_run rfl (o_moveh (v := p42) rfl) ?_
      refine Rg_run rfl (o_assignh (v := p42) rfl) ?_
      refine Rg_nil ?_
      refine W_region ?_
      refine Rg_run rfl (o_add rfl rfl (by first | omega | (unfold I64; omega) | (simp; done) | (simp; omega) | (simp at *; omega))) ?_
      refine Rg_run rfl (o_moveh (v := .int _ _) rfl) ?_
      refine Rg_nil ?_
      refine ⟨(k + 1, openM m (1 + ((l.getD k 0).toNat : Int)), p42), ⟨?_, ?_, trivial⟩, ?_, ⟨?_, hXL7, ?_⟩, ?_⟩
      · first | rfl | (go_num) | (exact congrArg _ (by omega))
      · first | rfl | (go_num) | (exact congrArg _ (by omega))
      · repeat (first | exact off_refl _ _ | exact off_mix | refine off_put rfl ?_ | refine off_putN ?_ | refine off_setL rfl ?_ | refine off_mix' rfl ?_)
      · exact ⟨by show k + 1 ≤ 64; omega, (hf.open (by omega) (by have := (l.getD k 0).toNat_lt; omega)).2⟩
      · exact hbk42
      · show 64 - (k + 1) < 64 - k; omega
    · skip
      replace hc3 := of_decide_eq_false hc3
      refine W_skip ?_
      refine W_seq ?_
      refine W_region ?_
      refine Rg_run rfl (o_moveh (v := vb) rfl) ?_
      refine Rg_run rfl (o_moveh (v := .int _ _) rfl) ?_
      refine Rg_enter rfl (o_call2 Tryd.call10 rfl rfl) (Ok.mono (sopenC_ok _ m _ hbk hf.ok 1 (hf.open (by omega) (by decide)).1) ?_)
      rintro _ w14 ⟨⟨p42, rfl, hbk42⟩, x15⟩
      have z16 := Bel.size x15
      replace hX := Bel.ex hX x15
      replace hXL7 := Bel.ex hXL7 x15
      replace hT := hT.ext x15
      replace hs := hs.ext x15
      replace hbk := hbk.ext x15
      refine Rg_run rfl (o_moveh (v := .tuple _) rfl) ?_
      refine Rg_run rfl (o_extract rfl rfl) ?_
      refine Rg_run rfl (o_extract rfl rfl) ?_
      refine Rg_run rfl (o_extract rfl rfl) ?_
      refine Rg_run rfl (o_assignh (v := p42) rfl) ?_
      refine Rg_run rfl (o_assignh (v := .int _ _) rfl) ?_
      refine Rg_run rfl (o_assignh (v := .int _ _) rfl) ?_
      refine Rg_nil ?_
      refine W_seq ?_
      refine W_seq ?_
      refine W_region ?_
      refine Rg_run rfl (o_moveh (v := .int _ _) rfl) ?_
      refine Rg_run rfl (o_neq rfl rfl) ?_
      refine Rg_run rfl (o_moveh (v := .bool _) rfl) ?_
      refine Rg_on 2 48 rfl (congrArg Value.bool (by decide)) ?_
      refine Rg_run rfl (o_moveh (v := .int _ _) rfl) ?_
      refine Rg_on 2 48 rfl (congrArg Value.bool (by decide)) ?_
      refine Rg_run rfl (o_moveh (v := .int _ _) rfl) ?_
      refine Rg_on 2 48 rfl (congrArg Value.bool (by decide)) ?_
      refine Rg_run rfl (o_add rfl rfl (by unfold I64; omega)) ?_
      refine Rg_on 2 48 rfl (congrArg Value.bool (by decide)) ?_
      refine Rg_run rfl (o_neq rfl rfl) ?_
      refine Rg_run rfl (o_pickF (v := .bool _) (congrArg Value.bool (by decide)) rfl) ?_
      refine Rg_nil ?_
      refine W_cond_false (congrArg Value.bool (by simp)) ?_
      refine W_skip ?_
      refine W_region ?_
      refine Rg_run rfl (o_moveh (v := p42) rfl) ?_
      refine Rg_run rfl (o_assignh (v := p42) rfl) ?_
      refine Rg_nil ?_
      refine W_region ?_
      refine Rg_run rfl (o_add rfl rfl (by first | omega | (unfold I64; omega) | (simp; done) | (simp; omega) | (simp at *; omega))) ?_
      refine Rg_run rfl (o_moveh (v := .int _ _) rfl) ?_
      refine Rg_nil ?_
      refine ⟨(k + 1, openM m 1, p42), ⟨?_, ?_, trivial⟩, ?_, ⟨?_, hXL7, ?_⟩, ?_⟩
      · first | rfl | (go_num) | (exact congrArg _ (by omega))
      · first | rfl | (go_num) | (exact congrArg _ (by omega))
      · repeat (first | exact off_refl _ _ | exact off_mix | refine off_put rfl ?_ | refine off_putN ?_ | refine off_setL rfl ?_ | refine off_mix' rfl ?_)
      · exact ⟨by show k + 1 ≤ 64; omega, (hf.open (by omega) (by decide)).2⟩
      · exact hbk42
      · show 64 - (k + 1) < 64 - k; omega
  · skip
    replace hc2 := of_decide_eq_false hc2
    refine W_exit ?_
    refine exAt_hit ?_
    refine W_seq ?_
    refine W_region ?_
    obtain rfl : k = 64 := by omega
    refine Rg_run rfl (o_moveh (v := vb) rfl) ?_
    refine Rg_enter rfl (o_call2 Tryd.call10 rfl rfl) (Ok.mono (sfull_ok _ m _ hbk hf.ok 1 (hf.full (by decide)) (by decide)) ?_)
    rintro _ w17 ⟨rfl, x18⟩
    have z19 := Bel.size x18
    replace hX := Bel.ex hX x18
    replace hT := hT.ext x18
    replace hs := hs.ext x18
    replace hbk := hbk.ext x18
    refine Rg_run rfl (o_moveh (v := .tuple _) rfl) ?_
    refine Rg_run rfl (o_extract rfl rfl) ?_
    refine Rg_run rfl (o_extract rfl rfl) ?_
    refine Rg_run rfl (o_extract rfl rfl) ?_
    refine Rg_run rfl (o_assignh (v := .pointer _) rfl) ?_
    refine Rg_run rfl (o_assignh (v := .int _ _) rfl) ?_
    refine Rg_run rfl (o_assignh (v := .int _ _) rfl) ?_
    refine Rg_nil ?_
    refine W_seq ?_
    refine W_region ?_
    refine Rg_run rfl (o_moveh (v := .int _ _) rfl) ?_
    refine Rg_run rfl (o_convS Tryd.underlying5 Tryd.underlying3 rfl (wrapB _)) ?_
    refine Rg_run rfl (o_remN (a := n.toNat) (b := 64) rfl rfl (by decide) (by have := n.toNat_lt; omega)) ?_
    refine Rg_run rfl ((o_add rfl rfl (by unfold I64; omega)).trans (by rw [Int.add_comm])) ?_
    refine Rg_run rfl (o_assignh (v := .int _ _) rfl) ?_
    refine Rg_nil ?_
    refine W_seq ?_
    refine W_region ?_
    have hc := hf.close (x := n.toNat % 64) (by omega)
    have hr := reopen hc.2.1 hc.2.2.1 (u := 256) (v := 1) (by decide) (by decide)
    refine Rg_run rfl (o_moveh (v := vb) rfl) ?_
    refine Rg_run rfl (o_moveh (v := .int _ _) rfl) ?_
    refine Rg_enter rfl (o_call2 Tryd.call11 rfl rfl) (Ok.mono (scloseC_ok _ m _ hbk hf.ok _ (by omega) hc.1) ?_)
    rintro _ w20 ⟨⟨p69, rfl, hbk69⟩, x21⟩
    have z22 := Bel.size x21
    replace hX := Bel.ex hX x21
    replace hT := hT.ext x21
    replace hs := hs.ext x21
    replace hbk := hbk.ext x21
    refine Rg_run rfl (o_moveh (v := .tuple _) rfl) ?_
    refine Rg_run rfl (o_extract rfl rfl) ?_
    refine Rg_run rfl (o_extract rfl rfl) ?_
    refine Rg_run rfl (o_assignh (v := p69) rfl) ?_
    refine Rg_run rfl (o_assignh (v := .int _ _) rfl) ?_
    refine Rg_nil ?_
    refine W_seq ?_
    refine W_region ?_
    refine Rg_run rfl (o_moveh (v := p69) rfl) ?_
    refine Rg_enter rfl (o_call2 Tryd.call10 rfl rfl) (Ok.mono (sopenC_ok _ _ _ hbk69 hc.2.1 256 hr.1) ?_)
    rintro _ w23 ⟨⟨p74, rfl, hbk74⟩, x24⟩
    have z25 := Bel.size x24
    replace hX := Bel.ex hX x24
    replace hT := hT.ext x24
    replace hs := hs.ext x24
    replace hbk := hbk.ext x24
    replace hbk69 := hbk69.ext x24
    refine Rg_run rfl (o_moveh (v := .tuple _) rfl) ?_
    refine Rg_run rfl (o_extract rfl rfl) ?_
    refine Rg_run rfl (o_extract rfl rfl) ?_
    refine Rg_run rfl (o_extract rfl rfl) ?_
    refine Rg_run rfl (o_assignh (v := p74) rfl) ?_
    refine Rg_run rfl (o_assignh (v := .int _ _) rfl) ?_
    refine Rg_run rfl (o_assignh (v := .int _ _) rfl) ?_
    refine Rg_nil ?_
    refine W_seq ?_
    refine W_region ?_
    refine Rg_run rfl (o_moveh (v := p74) rfl) ?_
    refine Rg_enter rfl (o_call2 Tryd.call10 rfl rfl) (Ok.mono (sfull_ok _ _ _ hbk74 hr.2.1 1 hr.2.2 (by decide)) ?_)
    rintro _ w26 ⟨rfl, x27⟩
    have z28 := Bel.size x27
    replace hX := Bel.ex hX x27
    replace hT := hT.ext x27
    replace hs := hs.ext x27
    replace hbk := hbk.ext x27
    replace hbk69 := hbk69.ext x27
    replace hbk74 := hbk74.ext x27
    refine Rg_run rfl (o_moveh (v := .tuple _) rfl) ?_
    refine Rg_run rfl (o_extract rfl rfl) ?_
    refine Rg_run rfl (o_extract rfl rfl) ?_
    refine Rg_run rfl (o_extract rfl rfl) ?_
    refine Rg_run rfl (o_assignh (v := .pointer _) rfl) ?_
    refine Rg_run rfl (o_assignh (v := .int _ _) rfl) ?_
    refine Rg_run rfl (o_assignh (v := .int _ _) rfl) ?_
    refine Rg_nil ?_
    refine W_seq ?_
    refine W_region ?_
    refine Rg_run rfl (o_moveh (v := .int _ _) rfl) ?_
    refine Rg_run rfl (o_eql rfl rfl) ?_
    refine Rg_run rfl (o_moveh (v := .bool _) rfl) ?_
    refine Rg_on 2 86 rfl (congrArg Value.bool (by decide)) ?_
    refine Rg_run rfl (o_moveh (v := .int _ _) rfl) ?_
    refine Rg_on 2 86 rfl (congrArg Value.bool (by decide)) ?_
    refine Rg_run rfl (o_eql rfl rfl) ?_
    refine Rg_run rfl (o_pickT (v := .bool _) (congrArg Value.bool (by decide)) rfl) ?_
    refine Rg_run rfl (o_moveh (v := .bool _) rfl) ?_
    refine Rg_on 6 90 rfl (congrArg Value.bool (by decide)) ?_
    refine Rg_run rfl (o_moveh (v := .int _ _) rfl) ?_
    refine Rg_on 6 90 rfl (congrArg Value.bool (by decide)) ?_
    refine Rg_run rfl (o_eql rfl rfl) ?_
    refine Rg_run rfl (o_pickT (v := .bool _) (congrArg Value.bool (by decide)) rfl) ?_
    refine Rg_run rfl (o_moveh (v := .bool _) rfl) ?_
    refine Rg_on 10 94 rfl (congrArg Value.bool (by decide)) ?_
    refine Rg_run rfl (o_moveh (v := p69) rfl) ?_
    refine Rg_on 10 94 rfl (congrArg Value.bool (by decide)) ?_
    refine Rg_enter rfl (o_call1 Tryd.call12 rfl) (Ok.mono (slen_ok _ _ _ hbk69 hc.2.1) ?_)
    rintro _ w29 ⟨rfl, x30⟩
    have z31 := Bel.size x30
    replace hX := Bel.ex hX x30
    replace hT := hT.ext x30
    replace hs := hs.ext x30
    replace hbk := hbk.ext x30
    replace hbk69 := hbk69.ext x30
    replace hbk74 := hbk74.ext x30
    refine Rg_on 10 94 rfl (congrArg Value.bool (by decide)) ?_
    refine Rg_run rfl (o_eql rfl rfl) ?_
    refine Rg_run rfl (o_pickT (v := .bool _) (congrArg Value.bool (by decide)) rfl) ?_
    refine Rg_run rfl (o_moveh (v := .bool _) rfl) ?_
    refine Rg_on 15 99 rfl (congrArg Value.bool (by rw [hc.2.2.1]; rfl)) ?_
    refine Rg_run rfl (o_moveh (v := .int _ _) rfl) ?_
    refine Rg_on 15 99 rfl (congrArg Value.bool (by rw [hc.2.2.1]; rfl)) ?_
    refine Rg_run rfl (o_eql rfl rfl) ?_
    refine Rg_run rfl (o_pickT (v := .bool _) (congrArg Value.bool (by rw [hc.2.2.1]; rfl)) rfl) ?_
    refine Rg_run rfl (o_moveh (v := .bool _) rfl) ?_
    refine Rg_on 19 103 rfl (congrArg Value.bool (by decide)) ?_
    refine Rg_run rfl (o_moveh (v := .int _ _) rfl) ?_
    refine Rg_on 19 103 rfl (congrArg Value.bool (by decide)) ?_
    refine Rg_run rfl (o_moveh (v := .int _ _) rfl) ?_
    refine Rg_on 19 103 rfl (congrArg Value.bool (by decide)) ?_
    refine Rg_run rfl (o_eql rfl rfl) ?_
    refine Rg_run rfl (o_pickT (v := .bool _) (congrArg Value.bool (by decide)) rfl) ?_
    refine Rg_run rfl (o_moveh (v := .bool _) rfl) ?_
    refine Rg_on 24 108 rfl (congrArg Value.bool (by rw [hc.2.2.2]; simp)) ?_
    refine Rg_run rfl (o_moveh (v := .int _ _) rfl) ?_
    refine Rg_on 24 108 rfl (congrArg Value.bool (by rw [hc.2.2.2]; simp)) ?_
    refine Rg_run rfl (o_eql rfl rfl) ?_
    refine Rg_run rfl (o_pickT (v := .bool _) (congrArg Value.bool (by rw [hc.2.2.2]; simp)) rfl) ?_
    refine Rg_run rfl (o_moveh (v := .bool _) rfl) ?_
    refine Rg_on 28 112 rfl (congrArg Value.bool (by decide)) ?_
    refine Rg_run rfl (o_moveh (v := .int _ _) rfl) ?_
    refine Rg_on 28 112 rfl (congrArg Value.bool (by decide)) ?_
    refine Rg_run rfl (o_eql rfl rfl) ?_
    refine Rg_run rfl (o_pickT (v := .bool _) (congrArg Value.bool (by decide)) rfl) ?_
    refine Rg_run rfl (o_assignh (v := .bool _) rfl) ?_
    refine Rg_nil ?_
    refine W_ret ?_
    refine ⟨_, res_tmp rfl rfl, ?_⟩
    refine ⟨congrArg Value.bool ?_, hX⟩
    all_goals (rfl)

theorem effN (m : List RS) (n : Int) (x : W64) : effW (fun y => closH none (memW y 64)) m n x = 0 := by
  unfold effW
  split
  · exact closN _
  · rfl
theorem law_SessionEffective (w : World) (hT : Tb w) (v0 : Value) (l : List SOp) (hs : Rd encOp 4 (Lt w.heap.size) w v0 l) (hol : ∀ o ∈ l, I64 o.r) (mb lk : W64) : Ok Tryd.prog 4 #[v0, u64 mb, u64 lk] w fun v w' => v = .bool true ∧ Ext False w w' := by
  obtain ⟨a, c, rfl, hs⟩ := hs
  have hlen := hs.len
  refine Ok_of_W 59 Tryd.func4 rfl rfl rfl ?_
  have hX : Ext False w w := Bel.refl _ _
  refine W_seq ?_
  refine W_region ?_
  refine Rg_run rfl o_assignc ?_
  refine Rg_nil ?_
  refine W_seq ?_
  refine W_seq ?_
  refine W_region ?_
  refine Rg_enter rfl (o_call0 Tryd.call8) (Ok.mono (awake_ok _ hT) ?_)
  rintro _ w1 ⟨rfl, x2⟩
  have z3 := Bel.size x2
  replace hX := Bel.ex hX x2
  replace hT := hT.ext x2
  replace hs := hs.ext x2
  refine Rg_run rfl (o_not rfl) ?_
  refine Rg_nil ?_
  refine W_cond_false rfl ?_
  refine W_skip ?_
  refine W_seq ?_
  refine W_region ?_
  refine Rg_run rfl (o_moveh (v := .slice _ _ _) rfl) ?_
  refine Rg_enter rfl (o_call1 Tryd.call13 rfl) (Ok.mono (lplay_ok _ _ _ _ _ hs hol) ?_)
  rintro _ w4 ⟨⟨p16, q16, m16, rfl, hm16, hbk16, hrq16⟩, x5⟩
  have z6 := Bel.size x5
  replace hX := Bel.ex hX x5
  replace hT := hT.ext x5
  replace hs := hs.ext x5
  refine Rg_run rfl (o_moveh (v := .tuple _) rfl) ?_
  refine Rg_run rfl (o_extract rfl rfl) ?_
  refine Rg_run rfl (o_extract rfl rfl) ?_
  refine Rg_run rfl (o_assignh (v := p16) rfl) ?_
  refine Rg_run rfl (o_assignh (v := q16) rfl) ?_
  refine Rg_nil ?_
  refine W_seq ?_
  refine W_region ?_
  refine Rg_run rfl (o_moveh (v := .int _ _) rfl) ?_
  refine Rg_enter rfl (o_call1 Tryd.call14 rfl) (Ok.mono (make_ok _ _ hT) ?_)
  rintro _ w7 ⟨⟨h21, l21, L21, ρ21, rfl, hh21, hrl21, hlk21⟩, x8⟩
  have z9 := Bel.size x8
  replace hX := Bel.ex hX x8
  replace hT := hT.ext x8
  replace hs := hs.ext x8
  replace hbk16 := hbk16.ext x8
  replace hrq16 := (hrq16.ext x8).top
  refine Rg_run rfl (o_moveh (v := .tuple _) rfl) ?_
  refine Rg_run rfl (o_extract rfl rfl) ?_
  refine Rg_run rfl (o_extract rfl rfl) ?_
  refine Rg_run rfl (o_assignh (v := h21) rfl) ?_
  refine Rg_run rfl (o_assignh (v := l21) rfl) ?_
  refine Rg_nil ?_
  refine W_seq ?_
  refine W_seq ?_
  refine W_region ?_
  obtain ⟨pb, _, hpe, _, _⟩ := id hbk16
  subst hpe
  obtain ⟨ph, po, oo, hhe, hh1, hh2, hh3⟩ := hh21
  subst hhe
  refine Rg_run rfl (o_moveh (v := .pointer (some ⟨pb, 0, none⟩)) rfl) ?_
  refine Rg_run rfl (o_peq Tryd.underlying24 rfl rfl) ?_
  refine Rg_run rfl (o_moveh (v := .bool _) rfl) ?_
  refine Rg_on 2 26 rfl rfl ?_
  refine Rg_run rfl (o_moveh (v := .pointer (some ⟨ph, 0, none⟩)) rfl) ?_
  refine Rg_on 2 26 rfl rfl ?_
  refine Rg_run rfl (o_peq Tryd.underlying38 rfl rfl) ?_
  refine Rg_run rfl (o_pickF (v := .bool _) rfl rfl) ?_
  refine Rg_nil ?_
  refine W_cond_false rfl ?_
  refine W_skip ?_
  refine W_seq ?_
  refine W_region ?_
  refine Rg_run rfl (o_moveh (v := .int _ _) rfl) ?_
  refine Rg_run rfl (o_band (b := BitVec.ofNat 64 254) rfl rfl) ?_
  refine Rg_run rfl (o_assignh (v := .int _ _) rfl) ?_
  refine Rg_nil ?_
  refine W_seq ?_
  refine W_seq ?_
  refine W_region ?_
  refine Rg_run rfl o_movec ?_
  refine Rg_nil ?_
  refine W_block ?_
  refine W_for (α := Nat) [(6, 6), (11, 11), (32, 58)] (fun k => [(32, .int .i64 (k : Int))]) (fun k w' => (k ≤ 10) ∧ Ext False w7 w') (fun k => 10 - k) 0 ⟨rfl, trivial⟩ ⟨Nat.zero_le _, Bel.refl _ _⟩ ?_
  rintro k fb12 w11 ⟨hk, hXL10⟩
  have z13 := Bel.size hXL10
  replace hX := Bel.ex hX hXL10
  replace hT := hT.ext hXL10
  replace hs := hs.ext hXL10
  replace hbk16 := hbk16.ext hXL10
  replace hrq16 := (hrq16.ext hXL10).top
  replace hrl21 := (hrl21.ext hXL10).top
  replace hh1 := hh1.ext hXL10
  replace hh2 := hh2.ext hXL10
  refine W_seq ?_
  refine W_region ?_
  refine Rg_run rfl (o_lss rfl rfl) ?_
  refine Rg_nil ?_
  refine W_seq ?_
  refine W_cond rfl (fun hc3 => ?_) (fun hc3 => ?_)
  · skip
    replace hc3 := of_decide_eq_true hc3
    refine W_skip ?_
    refine W_seq ?_
    refine W_block ?_
    refine W_seq ?_
    refine W_region ?_
    refine Rg_run rfl (o_moveh (v := .int _ _) rfl) ?_
    refine Rg_run rfl (o_assignh (v := .int _ _) rfl) ?_
    refine Rg_nil ?_
    refine W_seq ?_
    refine W_region ?_
    refine Rg_run rfl (o_moveh (v := .pointer (some ⟨pb, 0, none⟩)) rfl) ?_
    refine Rg_run rfl (o_moveh (v := .int _ _) rfl) ?_
    refine Rg_run rfl (o_moveh (v := .int _ _) rfl) ?_
    refine Rg_enter rfl (o_call1 Tryd.call16 rfl) (Ok.mono (roles_ok _ _) ?_)
    rintro _ w14 ⟨a38, c38, rfl, hq38, x15⟩
    have z16 := Bel.size x15
    replace hX := Bel.ex hX x15
    replace hXL10 := Bel.ex hXL10 x15
    replace hT := hT.ext x15
    replace hs := hs.ext x15
    replace hbk16 := hbk16.ext x15
    replace hrq16 := (hrq16.ext x15).top
    replace hrl21 := (hrl21.ext x15).top
    replace hh1 := hh1.ext x15
    replace hh2 := hh2.ext x15
    refine Rg_run rfl (o_moveh (v := .pointer (some ⟨ph, 0, none⟩)) rfl) ?_
    refine Rg_enter rfl (o_call4 Tryd.call15 rfl rfl rfl rfl) (Ok.mono (seff_ok _ m16 _ hbk16 hm16 (k : Int) (by omega) ⟨a38, c38, mb &&& 254#64⟩ _ hq38 (some ⟨ph, 0, none⟩) (some oo) (fun _ => True) ⟨ph, po, rfl, trivial, hh1, hh2.mono (fun _ _ _ => trivial)⟩ hT) ?_)
    rintro _ w17 ⟨⟨a40, c40, rfl, hq40⟩, x18⟩
    have z19 := Bel.size x18
    replace hX := Bel.ex hX x18
    replace hXL10 := Bel.ex hXL10 x18
    replace hT := hT.ext x18
    replace hs := hs.ext x18
    replace hbk16 := hbk16.ext x18
    replace hrq16 := (hrq16.ext x18).top
    replace hrl21 := (hrl21.ext x18).top
    replace hh1 := hh1.ext x18
    replace hh2 := hh2.ext x18
    replace hq38 := hq38.ext x18
    refine Rg_run rfl (o_moveh (v := q16) rfl) ?_
    refine Rg_run rfl (o_moveh (v := .int _ _) rfl) ?_
    refine Rg_run rfl (o_moveh (v := .int _ _) rfl) ?_
    refine Rg_run rfl (o_moveh (v := l21) rfl) ?_
    refine Rg_enter rfl (o_call4 Tryd.call18 rfl rfl rfl rfl) (Ok.mono (r22eff_ok _ _ m16 _ _ _ _ L21 (closW oo) _ hrq16 hrl21 (fun s => hh3.clos s)) ?_)
    rintro _ w20 ⟨rfl, x21⟩
    have z22 := Bel.size x21
    replace hX := Bel.ex hX x21
    replace hXL10 := Bel.ex hXL10 x21
    replace hT := hT.ext x21
    replace hs := hs.ext x21
    replace hbk16 := hbk16.ext x21
    replace hrq16 := (hrq16.ext x21).top
    replace hrl21 := (hrl21.ext x21).top
    replace hh1 := hh1.ext x21
    replace hh2 := hh2.ext x21
    replace hq38 := hq38.ext x21
    replace hq40 := hq40.ext x21
    refine Rg_enter rfl (o_call1 Tryd.call16 rfl) (Ok.mono (roles_ok _ _) ?_)
    rintro _ w23 ⟨a46, c46, rfl, hq46, x24⟩
    have z25 := Bel.size x24
    replace hX := Bel.ex hX x24
    replace hXL10 := Bel.ex hXL10 x24
    replace hT := hT.ext x24
    replace hs := hs.ext x24
    replace hbk16 := hbk16.ext x24
    replace hrq16 := (hrq16.ext x24).top
    replace hrl21 := (hrl21.ext x24).top
    replace hh1 := hh1.ext x24
    replace hh2 := hh2.ext x24
    replace hq38 := hq38.ext x24
    replace hq40 := hq40.ext x24
    refine Rg_enter rfl (o_call2 Tryd.call17 rfl rfl) (Ok.mono (beq_ok _ ⟨a40, c40, _⟩ _ hq40 ⟨a46, c46, _⟩ _ hq46) ?_)
    rintro _ w26 ⟨rfl, x27⟩
    have z28 := Bel.size x27
    replace hX := Bel.ex hX x27
    replace hXL10 := Bel.ex hXL10 x27
    replace hT := hT.ext x27
    replace hs := hs.ext x27
    replace hbk16 := hbk16.ext x27
    replace hrq16 := (hrq16.ext x27).top
    replace hrl21 := (hrl21.ext x27).top
    replace hh1 := hh1.ext x27
    replace hh2 := hh2.ext x27
    replace hq38 := hq38.ext x27
    replace hq40 := hq40.ext x27
    replace hq46 := hq46.ext x27
    refine Rg_run rfl (o_not rfl) ?_
    refine Rg_run rfl (o_moveh (v := .bool _) rfl) ?_
    refine Rg_on 14 49 rfl (congrArg Value.bool (beq_f rfl)) ?_
    refine Rg_run rfl (o_moveh (v := .pointer (some ⟨pb, 0, none⟩)) rfl) ?_
    refine Rg_on 14 49 rfl (congrArg Value.bool (beq_f rfl)) ?_
    refine Rg_run rfl (o_moveh (v := .int _ _) rfl) ?_
    refine Rg_on 14 49 rfl (congrArg Value.bool (beq_f rfl)) ?_
    refine Rg_run rfl (o_moveh (v := .int _ _) rfl) ?_
    refine Rg_on 14 49 rfl (congrArg Value.bool (beq_f rfl)) ?_
    refine Rg_enter rfl (o_call1 Tryd.call16 rfl) (Ok.mono (roles_ok _ _) ?_)
    rintro _ w29 ⟨a53, c53, rfl, hq53, x30⟩
    have z31 := Bel.size x30
    replace hX := Bel.ex hX x30
    replace hXL10 := Bel.ex hXL10 x30
    replace hT := hT.ext x30
    replace hs := hs.ext x30
    replace hbk16 := hbk16.ext x30
    replace hrq16 := (hrq16.ext x30).top
    replace hrl21 := (hrl21.ext x30).top
    replace hh1 := hh1.ext x30
    replace hh2 := hh2.ext x30
    replace hq38 := hq38.ext x30
    replace hq40 := hq40.ext x30
    replace hq46 := hq46.ext x30
    refine Rg_on 14 49 rfl (congrArg Value.bool (beq_f rfl)) ?_
    refine Rg_enter rfl (o_call4 Tryd.call15 rfl rfl rfl rfl) (Ok.mono (seff_ok _ m16 _ hbk16 hm16 (k : Int) (by omega) ⟨a53, c53, mb &&& 254#64⟩ _ hq53 none none (fun _ => True) rfl hT) ?_)
    rintro _ w32 ⟨⟨a54, c54, rfl, hq54⟩, x33⟩
    have z34 := Bel.size x33
    replace hX := Bel.ex hX x33
    replace hXL10 := Bel.ex hXL10 x33
    replace hT := hT.ext x33
    replace hs := hs.ext x33
    replace hbk16 := hbk16.ext x33
    replace hrq16 := (hrq16.ext x33).top
    replace hrl21 := (hrl21.ext x33).top
    replace hh1 := hh1.ext x33
    replace hh2 := hh2.ext x33
    replace hq38 := hq38.ext x33
    replace hq40 := hq40.ext x33
    replace hq46 := hq46.ext x33
    replace hq53 := hq53.ext x33
    refine Rg_on 14 49 rfl (congrArg Value.bool (beq_f rfl)) ?_
    refine Rg_enter rfl (o_call1 Tryd.call19 rfl) (Ok.mono (bempty_ok _ ⟨a54, c54, _⟩ _ hq54) ?_)
    rintro _ w35 ⟨rfl, x36⟩
    have z37 := Bel.size x36
    replace hX := Bel.ex hX x36
    replace hXL10 := Bel.ex hXL10 x36
    replace hT := hT.ext x36
    replace hs := hs.ext x36
    replace hbk16 := hbk16.ext x36
    replace hrq16 := (hrq16.ext x36).top
    replace hrl21 := (hrl21.ext x36).top
    replace hh1 := hh1.ext x36
    replace hh2 := hh2.ext x36
    replace hq38 := hq38.ext x36
    replace hq40 := hq40.ext x36
    replace hq46 := hq46.ext x36
    replace hq53 := hq53.ext x36
    replace hq54 := hq54.ext x36
    refine Rg_on 14 49 rfl (congrArg Value.bool (beq_f rfl)) ?_
    refine Rg_run rfl (o_not rfl) ?_
    refine Rg_run rfl (o_pickF (v := .bool _) (congrArg Value.bool (beq_f rfl)) rfl) ?_
    refine Rg_nil ?_
    refine W_cond_false (congrArg Value.bool (by rw [effN]; rfl)) ?_
    refine W_skip ?_
    refine W_region ?_
    refine Rg_run rfl (o_add rfl rfl (by first | omega | (unfold I64; omega) | (simp; done) | (simp; omega) | (simp at *; omega))) ?_
    refine Rg_run rfl (o_moveh (v := .int _ _) rfl) ?_
    refine Rg_nil ?_
    refine ⟨k + 1, ⟨?_, trivial⟩, ?_, ⟨?_, hXL10⟩, ?_⟩
    · first | rfl | (go_num) | (exact congrArg _ (by omega))
    · repeat (first | exact off_refl _ _ | exact off_mix | refine off_put rfl ?_ | refine off_putN ?_ | refine off_setL rfl ?_ | refine off_mix' rfl ?_)
    · show k + 1 ≤ 10; omega
    · omega
  · skip
    replace hc3 := of_decide_eq_false hc3
    refine W_exit ?_
    refine exAt_hit ?_
    refine W_seq ?_
    refine W_region ?_
    refine Rg_run rfl o_assignc ?_
    refine Rg_nil ?_
    refine W_ret ?_
    refine ⟨_, res_tmp rfl rfl, ?_⟩
    refine ⟨congrArg Value.bool ?_, hX⟩
    all_goals (rfl)

end Go.Proofs.YtncmjgmlnnenhaaDoor
