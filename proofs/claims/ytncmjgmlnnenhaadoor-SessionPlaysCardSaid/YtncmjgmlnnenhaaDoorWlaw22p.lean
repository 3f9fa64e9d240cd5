/- Walks, printed by program: each theorem says what a function of the translation returns. -/
import Derived.Test.YtncmjgmlnnenhaaDoorWlaw22a
namespace Go.Proofs.YtncmjgmlnnenhaaDoor
open Go Go.Lx Go.RowKit
set_option maxRecDepth 100000
set_option linter.unusedVariables false
set_option linter.unusedSimpArgs false
set_option linter.unnecessarySimpa false
theorem iequal_ok (a : Option Addr) (c : Nat) (G : Nat → Prop) (x : List Int) (a2 : Option Addr) (c2 : Nat) (G2 : Nat → Prop) (y : List Int) (w : World) (hx : Sl encJ 1 G w a c x) (hy : Sl encJ 1 G2 w a2 c2 y) : Ok Tryd.prog 27 #[.slice a x.length c, .slice a2 y.length c2] w fun v w' => v = .bool (x == y) ∧ Ext False w w' := by
  have hlx := hx.len
  have hly := hy.len
  refine Ok_of_W 26 Tryd.func27 rfl rfl rfl ?_
  have hX : Ext False w w := Bel.refl _ _
  refine W_seq ?_
  refine W_region ?_
  refine Rg_run rfl o_assignc ?_
  refine Rg_nil ?_
  refine W_seq ?_
  refine W_seq ?_
  refine W_region ?_
  refine Rg_run rfl (o_moveh (v := .slice _ _ _) rfl) ?_
  refine Rg_run rfl (o_llen Tryd.underlying58 rfl) ?_
  refine Rg_run rfl (o_moveh (v := .slice _ _ _) rfl) ?_
  refine Rg_run rfl (o_llen Tryd.underlying58 rfl) ?_
  refine Rg_run rfl (o_neq rfl rfl) ?_
  refine Rg_nil ?_
  refine W_cond rfl (fun hc1 => ?_) (fun hc1 => ?_)
  · skip
    have hne : ¬ (x.length : Int) = y.length := by simpa using hc1
    refine W_seq ?_
    refine W_region ?_
    refine Rg_run rfl o_assignc ?_
    refine Rg_nil ?_
    refine W_ret ?_
    refine ⟨_, res_tmp rfl rfl, ?_⟩
    refine ⟨congrArg Value.bool ?_, hX⟩
    all_goals (exact (eqT_len hne).symm)
  · skip
    have hle : (x.length : Int) = y.length := by simpa using hc1
    refine W_skip ?_
    refine W_seq ?_
    refine W_seq ?_
    refine W_region ?_
    refine Rg_run rfl (o_moveh (v := .slice _ _ _) rfl) ?_
    refine Rg_run rfl (o_llen Tryd.underlying58 rfl) ?_
    refine Rg_run rfl o_movec ?_
    refine Rg_nil ?_
    refine W_block ?_
    refine W_for (α := Nat) [(4, 5), (13, 25)] (fun k => [(13, .int .i64 (k : Int))]) (fun k w' => (k ≤ x.length ∧ x.take k = y.take k) ∧ Ext False w w') (fun k => x.length - k) 0 ⟨rfl, trivial⟩ ⟨⟨by omega, by simp⟩, Bel.refl _ _⟩ ?_
    rintro k fb3 w2 ⟨⟨hk, hall⟩, hXL1⟩
    replace hX := Bel.ex hX hXL1
    replace hx := hx.ext hXL1
    replace hy := hy.ext hXL1
    refine W_seq ?_
    refine W_region ?_
    refine Rg_run rfl (o_lss rfl rfl) ?_
    refine Rg_nil ?_
    refine W_seq ?_
    refine W_cond rfl (fun hc2 => ?_) (fun hc2 => ?_)
    · skip
      replace hc2 := of_decide_eq_true hc2
      refine W_skip ?_
      refine W_seq ?_
      refine W_block ?_
      refine W_seq ?_
      refine W_region ?_
      refine Rg_run rfl (o_moveh (v := .int _ _) rfl) ?_
      refine Rg_run rfl (o_assignh (v := .int _ _) rfl) ?_
      refine Rg_nil ?_
      refine W_seq ?_
      apply W_draw (β := False) [peq _, peq _, peq _, peq _, peq _, peq _, peq _, peq _, peq _] 9 mixed (by kernel_rfl) rfl ⟨peq_stable _, peq_stable _, peq_stable _, peq_stable _, peq_stable _, peq_stable _, peq_stable _, peq_stable _, peq_stable _, trivial⟩ ?ob6 ?fin6
      case ob6 =>
        refine OblL_cons (fun w4 x5 => ?_) ?_
        · skip
          have hx := hx.ext x5
          have hy := hy.ext x5
          refine bindP_nil ?_
          exact OpS_v rfl (o_moveh (v := .slice _ _ _) rfl)
        refine OblL_cons (fun w6 x7 => ?_) ?_
        · skip
          have hx := hx.ext x7
          have hy := hy.ext x7
          refine bindP_nil ?_
          exact OpS_v rfl (o_moveh (v := .int _ _) rfl)
        refine OblL_cons (fun w8 x9 => ?_) ?_
        · skip
          have hx := hx.ext x9
          have hy := hy.ext x9
          refine bindP_eq ?_
          refine bindP_eq ?_
          refine bindP_nil ?_
          exact OpS_v rfl (o_iaR Tryd.underlying58 Tryd.sizeOf3 hx rfl rfl (by first | omega | (unfold I64; omega) | (simp; done) | (simp; omega) | (simp at *; omega)))
        refine OblL_cons (fun w10 x11 => ?_) ?_
        · skip
          have hx := hx.ext x11
          have hy := hy.ext x11
          refine bindP_eq ?_
          refine bindP_nil ?_
          exact OpS_v rfl (o_ldR Tryd.isAgg3 hx rfl rfl (getE 0 (by omega)) rfl)
        refine OblL_cons (fun w12 x13 => ?_) ?_
        · skip
          have hx := hx.ext x13
          have hy := hy.ext x13
          refine bindP_nil ?_
          exact OpS_v rfl (o_moveh (v := .slice _ _ _) rfl)
        refine OblL_cons (fun w14 x15 => ?_) ?_
        · skip
          have hx := hx.ext x15
          have hy := hy.ext x15
          refine bindP_nil ?_
          exact OpS_v rfl (o_moveh (v := .int _ _) rfl)
        refine OblL_cons (fun w16 x17 => ?_) ?_
        · skip
          have hx := hx.ext x17
          have hy := hy.ext x17
          refine bindP_eq ?_
          refine bindP_eq ?_
          refine bindP_nil ?_
          exact OpS_v rfl (o_iaR Tryd.underlying58 Tryd.sizeOf3 hy rfl rfl (by first | omega | (unfold I64; omega) | (simp; done) | (simp; omega) | (simp at *; omega)))
        refine OblL_cons (fun w18 x19 => ?_) ?_
        · skip
          have hx := hx.ext x19
          have hy := hy.ext x19
          refine bindP_eq ?_
          refine bindP_nil ?_
          exact OpS_v rfl (o_ldR Tryd.isAgg3 hy rfl rfl (getE 0 (by omega)) rfl)
        refine OblL_cons (fun w20 x21 => ?_) ?_
        · skip
          have hx := hx.ext x21
          have hy := hy.ext x21
          refine bindP_eq ?_
          refine bindP_eq ?_
          refine bindP_nil ?_
          exact OpS_v rfl (o_neq rfl rfl)
        exact OblL_nil
      case fin6 =>
        intro w22 x23
        replace hX := Bel.ex hX x23
        replace hXL1 := Bel.ex hXL1 x23
        replace hx := hx.ext x23
        replace hy := hy.ext x23
        refine bindP_eq ?_
        refine bindP_eq ?_
        refine bindP_eq ?_
        refine bindP_eq ?_
        refine bindP_eq ?_
        refine bindP_eq ?_
        refine bindP_eq ?_
        refine bindP_eq ?_
        refine bindP_eq ?_
        refine bindP_nil ?_
        refine Rg_nil ?_
        refine W_cond rfl (fun hc3 => ?_) (fun hc3 => ?_)
        · skip
          refine W_seq ?_
          refine W_region ?_
          refine Rg_run rfl o_assignc ?_
          refine Rg_nil ?_
          refine W_ret ?_
          refine ⟨_, res_tmp rfl rfl, ?_⟩
          refine ⟨congrArg Value.bool ?_, hX⟩
          all_goals (exact (eqT_ne (z := 0) (k := k) (by simpa using hc3)).symm)
        · skip
          refine W_skip ?_
          refine W_region ?_
          refine Rg_run rfl (o_add rfl rfl (by first | omega | (unfold I64; omega) | (simp; done) | (simp; omega) | (simp at *; omega))) ?_
          refine Rg_run rfl (o_moveh (v := .int _ _) rfl) ?_
          refine Rg_nil ?_
          refine ⟨k + 1, ⟨?_, trivial⟩, ?_, ⟨?_, hXL1⟩, ?_⟩
          · first | rfl | (go_num) | (exact congrArg _ (by omega))
          · repeat (first | exact off_refl _ _ | exact off_mix | refine off_put rfl ?_ | refine off_putN ?_ | refine off_setL rfl ?_ | refine off_mix' rfl ?_)
          · exact ⟨by omega, eqT_succ (z := 0) (by omega) (by omega) hall (by simpa using hc3)⟩
          · omega
    · skip
      replace hc2 := of_decide_eq_false hc2
      refine W_exit ?_
      refine exAt_hit ?_
      refine W_seq ?_
      refine W_region ?_
      refine Rg_run rfl o_assignc ?_
      refine Rg_nil ?_
      refine W_ret ?_
      refine ⟨_, res_tmp rfl rfl, ?_⟩
      refine ⟨congrArg Value.bool ?_, hX⟩
      all_goals (exact (eqT_end (k := k) (by omega) (by omega) hall).symm)

theorem iequalV_ok (v1 v2 : Value) (G G2 : Nat → Prop) (x y : List Int) (w : World) (hx : Rd encJ 1 G w v1 x) (hy : Rd encJ 1 G2 w v2 y) : Ok Tryd.prog 27 #[v1, v2] w fun v w' => v = .bool (x == y) ∧ Ext False w w' := by
  obtain ⟨a, c, rfl, h1⟩ := hx
  obtain ⟨a2, c2, rfl, h2⟩ := hy
  exact iequal_ok _ _ _ _ _ _ _ _ _ h1 h2
set_option maxHeartbeats 8000000 in
theorem law_SessionPlays (w : World) (hT : Tb w) (v0 : Value) (l : List SOp) (hs : Rd encOp 4 (Lt w.heap.size) w v0 l) (hol : ∀ o ∈ l, I64 o.r) (user : Int) (hur : I64 user) (n : UInt8) : Ok Tryd.prog 6 #[v0, .int .i64 user, .int .u8 (n.toNat : Int)] w fun v w' => v = .bool true ∧ Ext False w w' := by
  obtain ⟨a, c, rfl, hs⟩ := hs
  have hlen := hs.len
  have hTl := hT.lt
  refine Ok_of_W 122 Tryd.func6 rfl rfl rfl ?_
  have hX : Ext False w w := Bel.refl _ _
  refine W_seq ?_
  refine W_region ?_
  refine Rg_run rfl o_assignc ?_
  refine Rg_nil ?_
  refine W_seq ?_
  refine W_seq ?_
  refine W_region ?_
  refine Rg_enter rfl (o_call0 Tryd.call8) (Ok.mono (awake_ok _ hT) ?_)
  rintro _ w1 ⟨rfl, x2⟩
  have z3 := Bel.size x2
  replace hX := Bel.ex hX x2
  replace hT := hT.ext x2
  replace hs := hs.ext x2
  refine Rg_run rfl (o_not rfl) ?_
  refine Rg_nil ?_
  refine W_cond_false rfl ?_
  refine W_skip ?_
  refine W_seq ?_
  refine W_region ?_
  refine Rg_run rfl (o_moveh (v := .slice _ _ _) rfl) ?_
  refine Rg_enter rfl (o_call1 Tryd.call13 rfl) (Ok.mono (lplay_ok _ _ _ _ _ hs hol) ?_)
  rintro _ w4 ⟨⟨p19, q19, m19, rfl, hm19, hbk19, hrq19⟩, x5⟩
  have z6 := Bel.size x5
  replace hX := Bel.ex hX x5
  replace hT := hT.ext x5
  replace hs := hs.ext x5
  refine Rg_run rfl (o_moveh (v := .tuple _) rfl) ?_
  refine Rg_run rfl (o_extract rfl rfl) ?_
  refine Rg_run rfl (o_extract rfl rfl) ?_
  refine Rg_run rfl (o_assignh (v := p19) rfl) ?_
  refine Rg_run rfl (o_assignh (v := q19) rfl) ?_
  refine Rg_nil ?_
  refine W_seq ?_
  refine W_seq ?_
  refine W_region ?_
  obtain ⟨pb, b, hpe, hb, hmm⟩ := hbk19
  subst hpe
  subst hmm
  refine Rg_run rfl (o_moveh (v := .pointer (some ⟨pb, 0, none⟩)) rfl) ?_
  refine Rg_run rfl (o_peq Tryd.underlying24 rfl rfl) ?_
  refine Rg_run rfl (o_moveh (v := .bool _) rfl) ?_
  refine Rg_on 2 24 rfl rfl ?_
  refine Rg_run rfl (o_moveh (v := .pointer (some ⟨pb, 0, none⟩)) rfl) ?_
  refine Rg_on 2 24 rfl rfl ?_
  refine Rg_run rfl (o_moveh (v := q19) rfl) ?_
  refine Rg_on 2 24 rfl rfl ?_
  refine Rg_enter rfl (o_call2 Tryd.call24 rfl rfl) (Ok.mono (lis_ok _ _ _ hb.is hm19 _ hrq19) ?_)
  rintro _ w7 ⟨rfl, x8⟩
  have z9 := Bel.size x8
  replace hX := Bel.ex hX x8
  replace hT := hT.ext x8
  replace hs := hs.ext x8
  replace hrq19 := (hrq19.ext x8).top
  replace hb := hb.ext x8
  refine Rg_on 2 24 rfl rfl ?_
  refine Rg_run rfl (o_not rfl) ?_
  refine Rg_run rfl (o_pickF (v := .bool _) rfl rfl) ?_
  refine Rg_nil ?_
  refine W_cond_false rfl ?_
  refine W_skip ?_
  refine W_seq ?_
  refine W_region ?_
  refine Rg_run rfl o_assignc ?_
  refine Rg_nil ?_
  refine W_seq ?_
  refine W_seq ?_
  refine W_region ?_
  obtain ⟨am, cm, hqe, hsm⟩ := id hrq19
  subst hqe
  have hlenm := hsm.len
  have hml := hm19.len
  refine Rg_run rfl (o_moveh (v := .slice _ _ _) rfl) ?_
  refine Rg_run rfl (o_llen Tryd.underlying35 rfl) ?_
  refine Rg_run rfl o_movec ?_
  refine Rg_nil ?_
  refine W_block ?_
  refine W_for (α := Nat × Value) [(9, 9), (11, 11), (32, 45)] (fun q => [(32, .int .i64 (q.1 : Int)), (9, q.2)]) (fun q w' => (q.1 ≤ b.m.length) ∧ Bel False (fun g => w7.heap.size ≤ g) w7 w' ∧ (Own encJ 1 3 (fun g => w7.heap.size ≤ g) w' q.2 (ofM (b.m.take q.1) user))) (fun q => b.m.length - q.1) (0, .slice none 0 0) ⟨rfl, rfl, trivial⟩ ⟨Nat.zero_le _, Bel.refl _ _, Own.nil _ _⟩ ?_
  rintro ⟨k, t⟩ fb12 w11 ⟨hk, hXL10, hown⟩
  dsimp only at *
  have z13 := Bel.size hXL10
  replace hX := Bel.out hX hXL10 (fun g h1 h2 => by first | exact h2 | omega)
  replace hT := hT.keep hXL10 (fun h => by omega)
  replace hs := hs.keep hXL10 (fun g h1 h2 h3 => by omega)
  replace hb := hb.keep hXL10 (fun g h1 h2 h3 => by omega)
  replace hsm := hsm.keep hXL10 (fun g h1 h2 h3 => by omega)
  refine W_seq ?_
  refine W_region ?_
  refine Rg_run rfl (o_lss rfl rfl) ?_
  refine Rg_nil ?_
  refine W_seq ?_
  refine W_cond rfl (fun hc3 => ?_) (fun hc3 => ?_)
  · skip
    replace hc3 := of_decide_eq_true hc3
    refine W_skip ?_
    refine W_seq ?_
    refine W_block ?_
    refine W_seq ?_
    refine W_region ?_
    refine Rg_run rfl (o_iaR Tryd.underlying35 Tryd.sizeOf60 hsm rfl rfl (by first | omega | (unfold I64; omega) | (simp; done) | (simp; omega) | (simp at *; omega))) ?_
    refine Rg_run rfl (o_ldRS Tryd.isAgg60 Tryd.sizeOf60 hsm rfl (getE rz (by omega))) ?_
    refine Rg_alst rfl rfl Tryd.zeroValue60 rfl Tryd.sizeOf60 (fun _ => rfl) rfl rfl ?_
    intro b11 w14 x15 hge11 hb11
    have hlt11 := hb11.lt
    change Box _ _ _ (encRs _) at hb11
    have z16 := Bel.size x15
    replace hX := Bel.ex hX x15
    replace hXL10 := Bel.ex hXL10 x15
    replace hT := hT.ext x15
    replace hs := hs.ext x15
    replace hb := hb.ext x15
    replace hsm := hsm.ext x15
    replace hown := hown.ext x15
    refine Rg_nil ?_
    refine W_seq ?_
    refine W_region ?_
    refine Rg_run rfl (o_fa Tryd.underlying60 rfl Tryd.sizeOf3 rfl) ?_
    refine Rg_run rfl (o_load1 Tryd.isAgg3 rfl (hb11.at.get 1 rfl)) ?_
    refine Rg_run rfl (o_moveh (v := .int _ _) rfl) ?_
    refine Rg_run rfl (o_eql rfl rfl) ?_
    refine Rg_nil ?_
    refine W_cond rfl (fun hc4 => ?_) (fun hc4 => ?_)
    · skip
      have hy := hc4
      refine W_region ?_
      refine Rg_run rfl (o_moveh (v := t) rfl) ?_
      refine Rg_run rfl (o_fa Tryd.underlying60 rfl Tryd.sizeOf3 rfl) ?_
      refine Rg_run rfl (o_load1 Tryd.isAgg3 rfl (hb11.at.get 0 rfl)) ?_
      refine Rg_bs (vs := [.int _ _]) ([(b.m.getD k rz).n]) rfl encJ_ok el_int rfl rfl ⟨rfl, trivial⟩ rfl rfl rfl rfl ?_
      intro a43 w17 x18 hown43
      have z19 := Bel.size x18
      replace hX := Bel.ex hX x18
      replace hXL10 := Bel.ex hXL10 x18
      replace hT := hT.ext x18
      replace hs := hs.ext x18
      replace hb := hb.ext x18
      replace hsm := hsm.ext x18
      replace hown := hown.ext x18
      replace hb11 := hb11.ext x18
      replace hown43 := hown43.mono (D' := fun g => w7.heap.size ≤ g) (fun g h1 h2 => by omega)
      refine Rg_app rfl encJ_ok el_int rfl rfl hown (hown43.slA encJ_ok) rfl (by have := ofM_len (b.m.take k) user; rw [List.length_take] at this; simp; omega) (fun g h => by omega) ?_
      intro v44 w20 x21 hown
      have z22 := Bel.size x21
      replace hX := Bel.out hX x21 (fun g h1 h2 => by first | exact h2 | omega)
      replace hXL10 := Bel.out hXL10 x21 (fun g h1 h2 => by first | exact h2 | omega)
      replace hT := hT.keep x21 (fun h => by omega)
      replace hs := hs.keep x21 (fun g h1 h2 h3 => by omega)
      replace hb := hb.keep x21 (fun g h1 h2 h3 => by omega)
      replace hsm := hsm.keep x21 (fun g h1 h2 h3 => by omega)
      refine Rg_run rfl (o_assignh (v := v44) rfl) ?_
      refine Rg_nil ?_
      refine W_region ?_
      refine Rg_run rfl (o_add rfl rfl (by first | omega | (unfold I64; omega) | (simp; done) | (simp; omega) | (simp at *; omega))) ?_
      refine Rg_run rfl (o_moveh (v := .int _ _) rfl) ?_
      refine Rg_nil ?_
      refine ⟨(k + 1, v44), ⟨?_, ?_, trivial⟩, ?_, ⟨?_, hXL10, ?_⟩, ?_⟩
      · first | rfl | (go_num) | (exact congrArg _ (by omega))
      · first | rfl | (go_num) | (exact congrArg _ (by omega))
      · repeat (first | exact off_refl _ _ | exact off_mix | refine off_put rfl ?_ | refine off_putN ?_ | refine off_setL rfl ?_ | refine off_mix' rfl ?_)
      · show k + 1 ≤ b.m.length; omega
      · show Own _ _ _ _ _ _ (ofM (b.m.take (k + 1)) user)
        rw [ofM_yes (by omega) hy]; exact hown
      · show b.m.length - (k + 1) < b.m.length - k; omega
    · skip
      have hy := hc4
      refine W_skip ?_
      refine W_region ?_
      refine Rg_run rfl (o_add rfl rfl (by first | omega | (unfold I64; omega) | (simp; done) | (simp; omega) | (simp at *; omega))) ?_
      refine Rg_run rfl (o_moveh (v := .int _ _) rfl) ?_
      refine Rg_nil ?_
      refine ⟨(k + 1, t), ⟨?_, ?_, trivial⟩, ?_, ⟨?_, hXL10, ?_⟩, ?_⟩
      · first | rfl | (go_num) | (exact congrArg _ (by omega))
      · first | rfl | (go_num) | (exact congrArg _ (by omega))
      · repeat (first | exact off_refl _ _ | exact off_mix | refine off_put rfl ?_ | refine off_putN ?_ | refine off_setL rfl ?_ | refine off_mix' rfl ?_)
      · show k + 1 ≤ b.m.length; omega
      · show Own _ _ _ _ _ _ (ofM (b.m.take (k + 1)) user)
        rw [ofM_no (by omega) hy]; exact hown
      · show b.m.length - (k + 1) < b.m.length - k; omega
  · skip
    replace hc3 := of_decide_eq_false hc3
    refine W_exit ?_
    refine exAt_hit ?_
    refine W_seq ?_
    refine W_region ?_
    rw [List.take_of_length_le (by omega)] at hown
    refine Rg_run rfl (o_moveh (v := .pointer (some ⟨pb, 0, none⟩)) rfl) ?_
    refine Rg_run rfl (o_moveh (v := .int _ _) rfl) ?_
    refine Rg_run rfl (o_remU (a := n.toNat) (b := 70) rfl rfl (by decide)) ?_
    refine Rg_run rfl (o_convS Tryd.underlying5 Tryd.underlying3 rfl (wrap_in (by unfold I64; omega))) ?_
    refine Rg_enter rfl (o_call2 Tryd.call25 rfl rfl) (Ok.mono (sgetV_ok _ b.m _ hb.is hm19 ((n.toNat % 70 : Nat) : Int) (by omega)) ?_)
    rintro _ w23 ⟨⟨s51, rfl, hs51, hg51, hz51⟩, x24⟩
    have z25 := Bel.size x24
    replace hX := Bel.ex hX x24
    replace hT := hT.ext x24
    replace hs := hs.ext x24
    replace hb := hb.ext x24
    replace hsm := hsm.ext x24
    replace hown := hown.ext x24
    refine Rg_run rfl (o_moveh (v := .tuple _) rfl) ?_
    refine Rg_run rfl (o_extract rfl rfl) ?_
    refine Rg_run rfl (o_extract rfl rfl) ?_
    refine Rg_alst rfl rfl Tryd.zeroValue55 rfl Tryd.sizeOf55 (fun _ => rfl) rfl rfl ?_
    intro b12 w26 x27 hge12 hb12
    have hlt12 := hb12.lt
    change Box _ _ _ (encSe _) at hb12
    have z28 := Bel.size x27
    replace hX := Bel.ex hX x27
    replace hT := hT.ext x27
    replace hs := hs.ext x27
    replace hb := hb.ext x27
    replace hsm := hsm.ext x27
    replace hown := hown.ext x27
    replace hs51 := hs51.ext x27
    refine Rg_run rfl (o_assignh (v := .bool _) rfl) ?_
    refine Rg_nil ?_
    refine W_seq ?_
    refine W_region ?_
    refine Rg_run rfl (o_moveh (v := .slice _ _ _) rfl) ?_
    refine Rg_run rfl (o_moveh (v := .int _ _) rfl) ?_
    refine Rg_run rfl (o_remU (a := n.toNat) (b := 70) rfl rfl (by decide)) ?_
    refine Rg_run rfl (o_convS Tryd.underlying5 Tryd.underlying3 rfl (wrap_in (by unfold I64; omega))) ?_
    refine Rg_enter rfl (o_call2 Tryd.call26 rfl rfl) (Ok.mono (r22find_ok _ _ _ b.m ((n.toNat % 70 : Nat) : Int) _ hsm) ?_)
    rintro _ w29 ⟨rfl, x30⟩
    have z31 := Bel.size x30
    replace hX := Bel.ex hX x30
    replace hT := hT.ext x30
    replace hs := hs.ext x30
    replace hb := hb.ext x30
    replace hsm := hsm.ext x30
    replace hown := hown.ext x30
    replace hs51 := hs51.ext x30
    replace hb12 := hb12.ext x30
    refine Rg_run rfl (o_assignh (v := .int _ _) rfl) ?_
    refine Rg_nil ?_
    refine W_seq ?_
    refine W_seq ?_
    refine W_region ?_
    refine (Decidable.em (0 ≤ fnd b.m ((n.toNat % 70 : Nat) : Int))).elim (fun hf => ?_) (fun hf => ?_)
    · skip
      refine Rg_run rfl (o_moveh (v := .bool _) rfl) ?_
      obtain ⟨i, hi1, hi2, hi3⟩ := fnd_some hf
      have hsi : s51.rs = (b.m.getD i rz) := by rw [hg51 hf, hi1, Int.toNat_natCast]
      have hsn : s51.n = (b.m.getD i rz).n := congrArg RS.n hsi
      have hsu : s51.u = (b.m.getD i rz).u := congrArg RS.u hsi
      have hsx : s51.x = (b.m.getD i rz).x := congrArg RS.x hsi
      rw [hi1]
      refine Rg_run rfl (o_moveh (v := .int _ _) rfl) ?_
      refine Rg_run rfl (o_geq rfl rfl) ?_
      refine Rg_run rfl (o_bneq Tryd.underlying4 rfl rfl) ?_
      refine Rg_run rfl (o_moveh (v := .bool _) rfl) ?_
      refine Rg_on 4 63 rfl (congrArg Value.bool (bne_f (by first | rfl | simp))) ?_
      refine Rg_run rfl (o_moveh (v := .pointer (some ⟨pb, 0, none⟩)) rfl) ?_
      refine Rg_on 4 63 rfl (congrArg Value.bool (bne_f (by first | rfl | simp))) ?_
      refine Rg_run rfl (o_moveh (v := .int _ _) rfl) ?_
      refine Rg_on 4 63 rfl (congrArg Value.bool (bne_f (by first | rfl | simp))) ?_
      refine Rg_enter rfl (o_call2 Tryd.call28 rfl rfl) (Ok.mono (sof_ok _ b.m _ hb.is hm19 user) ?_)
      rintro v66 w32 ⟨hown66, x33⟩
      have z34 := Bel.size x33
      replace hX := Bel.ex hX x33
      replace hT := hT.ext x33
      replace hs := hs.ext x33
      replace hb := hb.ext x33
      replace hsm := hsm.ext x33
      replace hown := hown.ext x33
      replace hs51 := hs51.ext x33
      replace hb12 := hb12.ext x33
      replace hown66 := hown66.mono (D' := fun g => w7.heap.size ≤ g) (fun g h1 h2 => by omega)
      refine Rg_on 4 63 rfl (congrArg Value.bool (bne_f (by first | rfl | simp))) ?_
      refine Rg_run rfl (o_moveh (v := t) rfl) ?_
      refine Rg_on 4 63 rfl (congrArg Value.bool (bne_f (by first | rfl | simp))) ?_
      refine Rg_enter rfl (o_call2 Tryd.call27 rfl rfl) (Ok.mono (iequalV_ok _ _ _ _ _ _ _ (hown66.rd encJ_ok) (hown.rd encJ_ok)) ?_)
      rintro _ w35 ⟨rfl, x36⟩
      have z37 := Bel.size x36
      replace hX := Bel.ex hX x36
      replace hT := hT.ext x36
      replace hs := hs.ext x36
      replace hb := hb.ext x36
      replace hsm := hsm.ext x36
      replace hown := hown.ext x36
      replace hs51 := hs51.ext x36
      replace hb12 := hb12.ext x36
      replace hown66 := hown66.ext x36
      refine Rg_on 4 63 rfl (congrArg Value.bool (bne_f (by first | rfl | simp))) ?_
      refine Rg_run rfl (o_not rfl) ?_
      refine Rg_run rfl (o_pickF (v := .bool _) (congrArg Value.bool (bne_f (by first | rfl | simp))) rfl) ?_
      refine Rg_nil ?_
      refine W_cond_false (congrArg Value.bool (beq_f rfl)) ?_
      refine W_skip ?_
      refine W_seq ?_
      apply W_draw (β := False) [peq _, peq _, peq _, peq _, peq _, peq _, peq _, peq _, peq _, peq _, peq _, peq _, peq _, peq _, peq _, peq _, peq _, peq _, peq _, peq _, peq _, peq _, peq _, peq _, peq _, peq _, peq _, peq _, peq _, peq _, peq _, peq _, peq _, peq _, peq _, peq _, peq _, peq _, peq _, peq _, peq _, peq _, peq _, peq _, peq _, peq _, peq _, (postSV (fun _ => True) (b.m.getD i rz).x), peq _, peq _, peq _, peq _] 52 mixed (by kernel_rfl) rfl ⟨peq_stable _, peq_stable _, peq_stable _, peq_stable _, peq_stable _, peq_stable _, peq_stable _, peq_stable _, peq_stable _, peq_stable _, peq_stable _, peq_stable _, peq_stable _, peq_stable _, peq_stable _, peq_stable _, peq_stable _, peq_stable _, peq_stable _, peq_stable _, peq_stable _, peq_stable _, peq_stable _, peq_stable _, peq_stable _, peq_stable _, peq_stable _, peq_stable _, peq_stable _, peq_stable _, peq_stable _, peq_stable _, peq_stable _, peq_stable _, peq_stable _, peq_stable _, peq_stable _, peq_stable _, peq_stable _, peq_stable _, peq_stable _, peq_stable _, peq_stable _, peq_stable _, peq_stable _, peq_stable _, peq_stable _, (postSV_stable _ _), peq_stable _, peq_stable _, peq_stable _, peq_stable _, trivial⟩ ?ob17 ?fin17
      case ob17 =>
        refine OblL_cons (fun w38 x39 => ?_) ?_
        · skip
          have z40 := Bel.size x39
          have hT := hT.ext x39
          have hs := hs.ext x39
          have hb := hb.ext x39
          have hsm := hsm.ext x39
          have hown := hown.ext x39
          have hs51 := hs51.ext x39
          have hb12 := hb12.ext x39
          have hown66 := hown66.ext x39
          refine bindP_nil ?_
          exact OpS_v rfl (o_moveh (v := .bool _) rfl)
        refine OblL_cons (fun w41 x42 => ?_) ?_
        · skip
          have z43 := Bel.size x42
          have hT := hT.ext x42
          have hs := hs.ext x42
          have hb := hb.ext x42
          have hsm := hsm.ext x42
          have hown := hown.ext x42
          have hs51 := hs51.ext x42
          have hb12 := hb12.ext x42
          have hown66 := hown66.ext x42
          refine bindP_eq ?_
          refine bindP_nil ?_
          exact OpS_v rfl (o_not rfl)
        refine OblL_cons (fun w44 x45 => ?_) ?_
        · skip
          have z46 := Bel.size x45
          have hT := hT.ext x45
          have hs := hs.ext x45
          have hb := hb.ext x45
          have hsm := hsm.ext x45
          have hown := hown.ext x45
          have hs51 := hs51.ext x45
          have hb12 := hb12.ext x45
          have hown66 := hown66.ext x45
          refine bindP_eq ?_
          refine bindP_nil ?_
          exact OpS_v rfl (o_moveh (v := .bool _) rfl)
        refine OblL_cons (fun w47 x48 => ?_) ?_
        · skip
          have z49 := Bel.size x48
          have hT := hT.ext x48
          have hs := hs.ext x48
          have hb := hb.ext x48
          have hsm := hsm.ext x48
          have hown := hown.ext x48
          have hs51 := hs51.ext x48
          have hb12 := hb12.ext x48
          have hown66 := hown66.ext x48
          refine bindP_eq ?_
          refine bindP_nil ?_
          exact OpS_off 2 73 rfl (congrArg Value.bool (by first | (rw [decide_eq_true (by omega)]; done) | (rw [decide_eq_true (by omega)]; rfl))) rfl
        refine OblL_cons (fun w50 x51 => ?_) ?_
        · skip
          have z52 := Bel.size x51
          have hT := hT.ext x51
          have hs := hs.ext x51
          have hb := hb.ext x51
          have hsm := hsm.ext x51
          have hown := hown.ext x51
          have hs51 := hs51.ext x51
          have hb12 := hb12.ext x51
          have hown66 := hown66.ext x51
          refine bindP_eq ?_
          refine bindP_eq ?_
          refine bindP_nil ?_
          exact OpS_off 2 73 rfl (congrArg Value.bool (by first | (rw [decide_eq_true (by omega)]; done) | (rw [decide_eq_true (by omega)]; rfl))) rfl
        refine OblL_cons (fun w53 x54 => ?_) ?_
        · skip
          have z55 := Bel.size x54
          have hT := hT.ext x54
          have hs := hs.ext x54
          have hb := hb.ext x54
          have hsm := hsm.ext x54
          have hown := hown.ext x54
          have hs51 := hs51.ext x54
          have hb12 := hb12.ext x54
          have hown66 := hown66.ext x54
          refine bindP_eq ?_
          refine bindP_eq ?_
          refine bindP_nil ?_
          exact OpS_off 2 73 rfl (congrArg Value.bool (by first | (rw [decide_eq_true (by omega)]; done) | (rw [decide_eq_true (by omega)]; rfl))) rfl
        refine OblL_cons (fun w56 x57 => ?_) ?_
        · skip
          have z58 := Bel.size x57
          have hT := hT.ext x57
          have hs := hs.ext x57
          have hb := hb.ext x57
          have hsm := hsm.ext x57
          have hown := hown.ext x57
          have hs51 := hs51.ext x57
          have hb12 := hb12.ext x57
          have hown66 := hown66.ext x57
          refine bindP_eq ?_
          refine bindP_eq ?_
          refine bindP_nil ?_
          exact OpS_v rfl (o_pickF (v := .bool _) (congrArg Value.bool (by first | (rw [decide_eq_true (by omega)]; done) | (rw [decide_eq_true (by omega)]; rfl))) rfl)
        refine OblL_cons (fun w59 x60 => ?_) ?_
        · skip
          have z61 := Bel.size x60
          have hT := hT.ext x60
          have hs := hs.ext x60
          have hb := hb.ext x60
          have hsm := hsm.ext x60
          have hown := hown.ext x60
          have hs51 := hs51.ext x60
          have hb12 := hb12.ext x60
          have hown66 := hown66.ext x60
          refine bindP_eq ?_
          refine bindP_eq ?_
          refine bindP_nil ?_
          exact OpS_v rfl (o_moveh (v := .bool _) rfl)
        refine OblL_cons (fun w62 x63 => ?_) ?_
        · skip
          have z64 := Bel.size x63
          have hT := hT.ext x63
          have hs := hs.ext x63
          have hb := hb.ext x63
          have hsm := hsm.ext x63
          have hown := hown.ext x63
          have hs51 := hs51.ext x63
          have hb12 := hb12.ext x63
          have hown66 := hown66.ext x63
          refine bindP_eq ?_
          refine bindP_nil ?_
          exact OpS_off 7 78 rfl rfl rfl
        refine OblL_cons (fun w65 x66 => ?_) ?_
        · skip
          have z67 := Bel.size x66
          have hT := hT.ext x66
          have hs := hs.ext x66
          have hb := hb.ext x66
          have hsm := hsm.ext x66
          have hown := hown.ext x66
          have hs51 := hs51.ext x66
          have hb12 := hb12.ext x66
          have hown66 := hown66.ext x66
          refine bindP_eq ?_
          refine bindP_eq ?_
          refine bindP_nil ?_
          exact OpS_off 7 78 rfl rfl rfl
        refine OblL_cons (fun w68 x69 => ?_) ?_
        · skip
          have z70 := Bel.size x69
          have hT := hT.ext x69
          have hs := hs.ext x69
          have hb := hb.ext x69
          have hsm := hsm.ext x69
          have hown := hown.ext x69
          have hs51 := hs51.ext x69
          have hb12 := hb12.ext x69
          have hown66 := hown66.ext x69
          refine bindP_eq ?_
          refine bindP_eq ?_
          refine bindP_nil ?_
          exact OpS_off 7 78 rfl rfl rfl
        refine OblL_cons (fun w71 x72 => ?_) ?_
        · skip
          have z73 := Bel.size x72
          have hT := hT.ext x72
          have hs := hs.ext x72
          have hb := hb.ext x72
          have hsm := hsm.ext x72
          have hown := hown.ext x72
          have hs51 := hs51.ext x72
          have hb12 := hb12.ext x72
          have hown66 := hown66.ext x72
          refine bindP_eq ?_
          refine bindP_eq ?_
          refine bindP_nil ?_
          exact OpS_v rfl (o_pickF (v := .bool _) rfl rfl)
        refine OblL_cons (fun w74 x75 => ?_) ?_
        · skip
          have z76 := Bel.size x75
          have hT := hT.ext x75
          have hs := hs.ext x75
          have hb := hb.ext x75
          have hsm := hsm.ext x75
          have hown := hown.ext x75
          have hs51 := hs51.ext x75
          have hb12 := hb12.ext x75
          have hown66 := hown66.ext x75
          refine bindP_eq ?_
          refine bindP_eq ?_
          refine bindP_nil ?_
          exact OpS_v rfl (o_moveh (v := .bool _) rfl)
        refine OblL_cons (fun w77 x78 => ?_) ?_
        · skip
          have z79 := Bel.size x78
          have hT := hT.ext x78
          have hs := hs.ext x78
          have hb := hb.ext x78
          have hsm := hsm.ext x78
          have hown := hown.ext x78
          have hs51 := hs51.ext x78
          have hb12 := hb12.ext x78
          have hown66 := hown66.ext x78
          refine bindP_eq ?_
          refine bindP_nil ?_
          exact OpS_off 12 83 rfl rfl rfl
        refine OblL_cons (fun w80 x81 => ?_) ?_
        · skip
          have z82 := Bel.size x81
          have hT := hT.ext x81
          have hs := hs.ext x81
          have hb := hb.ext x81
          have hsm := hsm.ext x81
          have hown := hown.ext x81
          have hs51 := hs51.ext x81
          have hb12 := hb12.ext x81
          have hown66 := hown66.ext x81
          refine bindP_eq ?_
          refine bindP_eq ?_
          refine bindP_nil ?_
          exact OpS_off 12 83 rfl rfl rfl
        refine OblL_cons (fun w83 x84 => ?_) ?_
        · skip
          have z85 := Bel.size x84
          have hT := hT.ext x84
          have hs := hs.ext x84
          have hb := hb.ext x84
          have hsm := hsm.ext x84
          have hown := hown.ext x84
          have hs51 := hs51.ext x84
          have hb12 := hb12.ext x84
          have hown66 := hown66.ext x84
          refine bindP_eq ?_
          refine bindP_eq ?_
          refine bindP_eq ?_
          refine bindP_nil ?_
          exact OpS_off 12 83 rfl rfl rfl
        refine OblL_cons (fun w86 x87 => ?_) ?_
        · skip
          have z88 := Bel.size x87
          have hT := hT.ext x87
          have hs := hs.ext x87
          have hb := hb.ext x87
          have hsm := hsm.ext x87
          have hown := hown.ext x87
          have hs51 := hs51.ext x87
          have hb12 := hb12.ext x87
          have hown66 := hown66.ext x87
          refine bindP_eq ?_
          refine bindP_eq ?_
          refine bindP_nil ?_
          exact OpS_v rfl (o_pickF (v := .bool _) rfl rfl)
        refine OblL_cons (fun w89 x90 => ?_) ?_
        · skip
          have z91 := Bel.size x90
          have hT := hT.ext x90
          have hs := hs.ext x90
          have hb := hb.ext x90
          have hsm := hsm.ext x90
          have hown := hown.ext x90
          have hs51 := hs51.ext x90
          have hb12 := hb12.ext x90
          have hown66 := hown66.ext x90
          refine bindP_eq ?_
          refine bindP_eq ?_
          refine bindP_nil ?_
          exact OpS_v rfl (o_moveh (v := .bool _) rfl)
        refine OblL_cons (fun w92 x93 => ?_) ?_
        · skip
          have z94 := Bel.size x93
          have hT := hT.ext x93
          have hs := hs.ext x93
          have hb := hb.ext x93
          have hsm := hsm.ext x93
          have hown := hown.ext x93
          have hs51 := hs51.ext x93
          have hb12 := hb12.ext x93
          have hown66 := hown66.ext x93
          refine bindP_eq ?_
          refine bindP_nil ?_
          refine OpS_on 17 88 rfl rfl ?_
          exact OpS_v rfl (o_moveh (v := .bool _) rfl)
        refine OblL_cons (fun w95 x96 => ?_) ?_
        · skip
          have z97 := Bel.size x96
          have hT := hT.ext x96
          have hs := hs.ext x96
          have hb := hb.ext x96
          have hsm := hsm.ext x96
          have hown := hown.ext x96
          have hs51 := hs51.ext x96
          have hb12 := hb12.ext x96
          have hown66 := hown66.ext x96
          refine bindP_eq ?_
          refine bindP_eq ?_
          refine bindP_eq ?_
          refine bindP_nil ?_
          refine OpS_on 17 88 rfl rfl ?_
          exact OpS_v rfl (o_moveh (v := .bool _) rfl)
        refine OblL_cons (fun w98 x99 => ?_) ?_
        · skip
          have z100 := Bel.size x99
          have hT := hT.ext x99
          have hs := hs.ext x99
          have hb := hb.ext x99
          have hsm := hsm.ext x99
          have hown := hown.ext x99
          have hs51 := hs51.ext x99
          have hb12 := hb12.ext x99
          have hown66 := hown66.ext x99
          refine bindP_eq ?_
          refine bindP_nil ?_
          refine OpS_on 19 90 rfl (congrArg Value.bool (by first | (rw [decide_eq_true (by omega)]; done) | (rw [decide_eq_true (by omega)]; rfl))) ?_
          exact OpS_v rfl (o_fa Tryd.underlying55 rfl Tryd.sizeOf3 rfl)
        refine OblL_cons (fun w101 x102 => ?_) ?_
        · skip
          have z103 := Bel.size x102
          have hT := hT.ext x102
          have hs := hs.ext x102
          have hb := hb.ext x102
          have hsm := hsm.ext x102
          have hown := hown.ext x102
          have hs51 := hs51.ext x102
          have hb12 := hb12.ext x102
          have hown66 := hown66.ext x102
          refine bindP_eq ?_
          refine bindP_eq ?_
          refine bindP_nil ?_
          refine OpS_on 19 90 rfl (congrArg Value.bool (by first | (rw [decide_eq_true (by omega)]; done) | (rw [decide_eq_true (by omega)]; rfl))) ?_
          exact OpS_v rfl (o_load1 Tryd.isAgg3 rfl (hb12.at.get 0 rfl))
        refine OblL_cons (fun w104 x105 => ?_) ?_
        · skip
          have z106 := Bel.size x105
          have hT := hT.ext x105
          have hs := hs.ext x105
          have hb := hb.ext x105
          have hsm := hsm.ext x105
          have hown := hown.ext x105
          have hs51 := hs51.ext x105
          have hb12 := hb12.ext x105
          have hown66 := hown66.ext x105
          refine bindP_eq ?_
          refine bindP_nil ?_
          refine OpS_on 19 90 rfl (congrArg Value.bool (by first | (rw [decide_eq_true (by omega)]; done) | (rw [decide_eq_true (by omega)]; rfl))) ?_
          exact OpS_v rfl (o_moveh (v := .slice _ _ _) rfl)
        refine OblL_cons (fun w107 x108 => ?_) ?_
        · skip
          have z109 := Bel.size x108
          have hT := hT.ext x108
          have hs := hs.ext x108
          have hb := hb.ext x108
          have hsm := hsm.ext x108
          have hown := hown.ext x108
          have hs51 := hs51.ext x108
          have hb12 := hb12.ext x108
          have hown66 := hown66.ext x108
          refine bindP_eq ?_
          refine bindP_nil ?_
          refine OpS_on 19 90 rfl (congrArg Value.bool (by first | (rw [decide_eq_true (by omega)]; done) | (rw [decide_eq_true (by omega)]; rfl))) ?_
          exact OpS_v rfl (o_moveh (v := .int _ _) rfl)
        refine OblL_cons (fun w110 x111 => ?_) ?_
        · skip
          have z112 := Bel.size x111
          have hT := hT.ext x111
          have hs := hs.ext x111
          have hb := hb.ext x111
          have hsm := hsm.ext x111
          have hown := hown.ext x111
          have hs51 := hs51.ext x111
          have hb12 := hb12.ext x111
          have hown66 := hown66.ext x111
          refine bindP_eq ?_
          refine bindP_eq ?_
          refine bindP_eq ?_
          refine bindP_nil ?_
          refine OpS_on 19 90 rfl (congrArg Value.bool (by first | (rw [decide_eq_true (by omega)]; done) | (rw [decide_eq_true (by omega)]; rfl))) ?_
          exact OpS_v rfl (o_iaR Tryd.underlying35 Tryd.sizeOf60 hsm rfl rfl (by first | omega | (unfold I64; omega) | (simp; done) | (simp; omega) | (simp at *; omega)))
        refine OblL_cons (fun w113 x114 => ?_) ?_
        · skip
          have z115 := Bel.size x114
          have hT := hT.ext x114
          have hs := hs.ext x114
          have hb := hb.ext x114
          have hsm := hsm.ext x114
          have hown := hown.ext x114
          have hs51 := hs51.ext x114
          have hb12 := hb12.ext x114
          have hown66 := hown66.ext x114
          refine bindP_eq ?_
          refine bindP_eq ?_
          refine bindP_nil ?_
          refine OpS_on 19 90 rfl (congrArg Value.bool (by first | (rw [decide_eq_true (by omega)]; done) | (rw [decide_eq_true (by omega)]; rfl))) ?_
          exact OpS_v rfl (o_faE Tryd.underlying60 rfl Tryd.sizeOf3 hsm rfl (getE (i := i) rz hi2))
        refine OblL_cons (fun w116 x117 => ?_) ?_
        · skip
          have z118 := Bel.size x117
          have hT := hT.ext x117
          have hs := hs.ext x117
          have hb := hb.ext x117
          have hsm := hsm.ext x117
          have hown := hown.ext x117
          have hs51 := hs51.ext x117
          have hb12 := hb12.ext x117
          have hown66 := hown66.ext x117
          refine bindP_eq ?_
          refine bindP_eq ?_
          refine bindP_nil ?_
          refine OpS_on 19 90 rfl (congrArg Value.bool (by first | (rw [decide_eq_true (by omega)]; done) | (rw [decide_eq_true (by omega)]; rfl))) ?_
          exact OpS_v rfl (o_ldE (j := 0) Tryd.isAgg3 hsm rfl (getE (i := i) rz hi2) rfl)
        refine OblL_cons (fun w119 x120 => ?_) ?_
        · skip
          have z121 := Bel.size x120
          have hT := hT.ext x120
          have hs := hs.ext x120
          have hb := hb.ext x120
          have hsm := hsm.ext x120
          have hown := hown.ext x120
          have hs51 := hs51.ext x120
          have hb12 := hb12.ext x120
          have hown66 := hown66.ext x120
          refine bindP_eq ?_
          refine bindP_eq ?_
          refine bindP_eq ?_
          refine bindP_nil ?_
          refine OpS_on 19 90 rfl (congrArg Value.bool (by first | (rw [decide_eq_true (by omega)]; done) | (rw [decide_eq_true (by omega)]; rfl))) ?_
          exact OpS_v rfl (o_eql rfl rfl)
        refine OblL_cons (fun w122 x123 => ?_) ?_
        · skip
          have z124 := Bel.size x123
          have hT := hT.ext x123
          have hs := hs.ext x123
          have hb := hb.ext x123
          have hsm := hsm.ext x123
          have hown := hown.ext x123
          have hs51 := hs51.ext x123
          have hb12 := hb12.ext x123
          have hown66 := hown66.ext x123
          refine bindP_eq ?_
          refine bindP_eq ?_
          refine bindP_eq ?_
          refine bindP_nil ?_
          refine OpS_on 17 88 rfl rfl ?_
          exact OpS_v rfl (o_pickT (v := .bool _) (congrArg Value.bool (by first | (rw [decide_eq_true (by omega)]; done) | (rw [decide_eq_true (by omega)]; rfl))) rfl)
        refine OblL_cons (fun w125 x126 => ?_) ?_
        · skip
          have z127 := Bel.size x126
          have hT := hT.ext x126
          have hs := hs.ext x126
          have hb := hb.ext x126
          have hsm := hsm.ext x126
          have hown := hown.ext x126
          have hs51 := hs51.ext x126
          have hb12 := hb12.ext x126
          have hown66 := hown66.ext x126
          refine bindP_eq ?_
          refine bindP_eq ?_
          refine bindP_eq ?_
          refine bindP_nil ?_
          refine OpS_on 17 88 rfl rfl ?_
          exact OpS_v rfl (o_moveh (v := .bool _) rfl)
        refine OblL_cons (fun w128 x129 => ?_) ?_
        · skip
          have z130 := Bel.size x129
          have hT := hT.ext x129
          have hs := hs.ext x129
          have hb := hb.ext x129
          have hsm := hsm.ext x129
          have hown := hown.ext x129
          have hs51 := hs51.ext x129
          have hb12 := hb12.ext x129
          have hown66 := hown66.ext x129
          refine bindP_eq ?_
          refine bindP_nil ?_
          refine OpS_on 29 100 rfl (congrArg Value.bool (by first | (rw [hsn]; done) | (rw [hsn]; simp))) ?_
          exact OpS_v rfl (o_fa Tryd.underlying55 rfl Tryd.sizeOf3 rfl)
        refine OblL_cons (fun w131 x132 => ?_) ?_
        · skip
          have z133 := Bel.size x132
          have hT := hT.ext x132
          have hs := hs.ext x132
          have hb := hb.ext x132
          have hsm := hsm.ext x132
          have hown := hown.ext x132
          have hs51 := hs51.ext x132
          have hb12 := hb12.ext x132
          have hown66 := hown66.ext x132
          refine bindP_eq ?_
          refine bindP_eq ?_
          refine bindP_nil ?_
          refine OpS_on 29 100 rfl (congrArg Value.bool (by first | (rw [hsn]; done) | (rw [hsn]; simp))) ?_
          exact OpS_v rfl (o_load1 Tryd.isAgg3 rfl (hb12.at.get 1 rfl))
        refine OblL_cons (fun w134 x135 => ?_) ?_
        · skip
          have z136 := Bel.size x135
          have hT := hT.ext x135
          have hs := hs.ext x135
          have hb := hb.ext x135
          have hsm := hsm.ext x135
          have hown := hown.ext x135
          have hs51 := hs51.ext x135
          have hb12 := hb12.ext x135
          have hown66 := hown66.ext x135
          refine bindP_eq ?_
          refine bindP_nil ?_
          refine OpS_on 29 100 rfl (congrArg Value.bool (by first | (rw [hsn]; done) | (rw [hsn]; simp))) ?_
          exact OpS_v rfl (o_moveh (v := .slice _ _ _) rfl)
        refine OblL_cons (fun w137 x138 => ?_) ?_
        · skip
          have z139 := Bel.size x138
          have hT := hT.ext x138
          have hs := hs.ext x138
          have hb := hb.ext x138
          have hsm := hsm.ext x138
          have hown := hown.ext x138
          have hs51 := hs51.ext x138
          have hb12 := hb12.ext x138
          have hown66 := hown66.ext x138
          refine bindP_eq ?_
          refine bindP_nil ?_
          refine OpS_on 29 100 rfl (congrArg Value.bool (by first | (rw [hsn]; done) | (rw [hsn]; simp))) ?_
          exact OpS_v rfl (o_moveh (v := .int _ _) rfl)
        refine OblL_cons (fun w140 x141 => ?_) ?_
        · skip
          have z142 := Bel.size x141
          have hT := hT.ext x141
          have hs := hs.ext x141
          have hb := hb.ext x141
          have hsm := hsm.ext x141
          have hown := hown.ext x141
          have hs51 := hs51.ext x141
          have hb12 := hb12.ext x141
          have hown66 := hown66.ext x141
          refine bindP_eq ?_
          refine bindP_eq ?_
          refine bindP_eq ?_
          refine bindP_nil ?_
          refine OpS_on 29 100 rfl (congrArg Value.bool (by first | (rw [hsn]; done) | (rw [hsn]; simp))) ?_
          exact OpS_v rfl (o_iaR Tryd.underlying35 Tryd.sizeOf60 hsm rfl rfl (by first | omega | (unfold I64; omega) | (simp; done) | (simp; omega) | (simp at *; omega)))
        refine OblL_cons (fun w143 x144 => ?_) ?_
        · skip
          have z145 := Bel.size x144
          have hT := hT.ext x144
          have hs := hs.ext x144
          have hb := hb.ext x144
          have hsm := hsm.ext x144
          have hown := hown.ext x144
          have hs51 := hs51.ext x144
          have hb12 := hb12.ext x144
          have hown66 := hown66.ext x144
          refine bindP_eq ?_
          refine bindP_eq ?_
          refine bindP_nil ?_
          refine OpS_on 29 100 rfl (congrArg Value.bool (by first | (rw [hsn]; done) | (rw [hsn]; simp))) ?_
          exact OpS_v rfl (o_faE Tryd.underlying60 rfl Tryd.sizeOf3 hsm rfl (getE (i := i) rz hi2))
        refine OblL_cons (fun w146 x147 => ?_) ?_
        · skip
          have z148 := Bel.size x147
          have hT := hT.ext x147
          have hs := hs.ext x147
          have hb := hb.ext x147
          have hsm := hsm.ext x147
          have hown := hown.ext x147
          have hs51 := hs51.ext x147
          have hb12 := hb12.ext x147
          have hown66 := hown66.ext x147
          refine bindP_eq ?_
          refine bindP_eq ?_
          refine bindP_nil ?_
          refine OpS_on 29 100 rfl (congrArg Value.bool (by first | (rw [hsn]; done) | (rw [hsn]; simp))) ?_
          exact OpS_v rfl (o_ldE (j := 1) Tryd.isAgg3 hsm rfl (getE (i := i) rz hi2) rfl)
        refine OblL_cons (fun w149 x150 => ?_) ?_
        · skip
          have z151 := Bel.size x150
          have hT := hT.ext x150
          have hs := hs.ext x150
          have hb := hb.ext x150
          have hsm := hsm.ext x150
          have hown := hown.ext x150
          have hs51 := hs51.ext x150
          have hb12 := hb12.ext x150
          have hown66 := hown66.ext x150
          refine bindP_eq ?_
          refine bindP_eq ?_
          refine bindP_eq ?_
          refine bindP_nil ?_
          refine OpS_on 29 100 rfl (congrArg Value.bool (by first | (rw [hsn]; done) | (rw [hsn]; simp))) ?_
          exact OpS_v rfl (o_eql rfl rfl)
        refine OblL_cons (fun w152 x153 => ?_) ?_
        · skip
          have z154 := Bel.size x153
          have hT := hT.ext x153
          have hs := hs.ext x153
          have hb := hb.ext x153
          have hsm := hsm.ext x153
          have hown := hown.ext x153
          have hs51 := hs51.ext x153
          have hb12 := hb12.ext x153
          have hown66 := hown66.ext x153
          refine bindP_eq ?_
          refine bindP_eq ?_
          refine bindP_eq ?_
          refine bindP_nil ?_
          refine OpS_on 17 88 rfl rfl ?_
          exact OpS_v rfl (o_pickT (v := .bool _) (congrArg Value.bool (by first | (rw [hsn]; done) | (rw [hsn]; simp))) rfl)
        refine OblL_cons (fun w155 x156 => ?_) ?_
        · skip
          have z157 := Bel.size x156
          have hT := hT.ext x156
          have hs := hs.ext x156
          have hb := hb.ext x156
          have hsm := hsm.ext x156
          have hown := hown.ext x156
          have hs51 := hs51.ext x156
          have hb12 := hb12.ext x156
          have hown66 := hown66.ext x156
          refine bindP_eq ?_
          refine bindP_eq ?_
          refine bindP_eq ?_
          refine bindP_nil ?_
          refine OpS_on 17 88 rfl rfl ?_
          exact OpS_v rfl (o_moveh (v := .bool _) rfl)
        refine OblL_cons (fun w158 x159 => ?_) ?_
        · skip
          have z160 := Bel.size x159
          have hT := hT.ext x159
          have hs := hs.ext x159
          have hb := hb.ext x159
          have hsm := hsm.ext x159
          have hown := hown.ext x159
          have hs51 := hs51.ext x159
          have hb12 := hb12.ext x159
          have hown66 := hown66.ext x159
          refine bindP_eq ?_
          refine bindP_nil ?_
          refine OpS_on 39 110 rfl (congrArg Value.bool (by first | (rw [hsu]; done) | (rw [hsu]; simp))) ?_
          exact OpS_v rfl (o_fa Tryd.underlying55 rfl Tryd.sizeOf44 rfl)
        refine OblL_cons (fun w161 x162 => ?_) ?_
        · skip
          have z163 := Bel.size x162
          have hT := hT.ext x162
          have hs := hs.ext x162
          have hb := hb.ext x162
          have hsm := hsm.ext x162
          have hown := hown.ext x162
          have hs51 := hs51.ext x162
          have hb12 := hb12.ext x162
          have hown66 := hown66.ext x162
          refine bindP_eq ?_
          refine bindP_eq ?_
          refine bindP_nil ?_
          refine OpS_on 39 110 rfl (congrArg Value.bool (by first | (rw [hsu]; done) | (rw [hsu]; simp))) ?_
          exact OpS_v rfl (o_loadS Tryd.isAgg44 Tryd.sizeOf44 rfl (hb12.at.sub 2 1) rfl)
        refine OblL_cons (fun w164 x165 => ?_) ?_
        · skip
          have z166 := Bel.size x165
          have hT := hT.ext x165
          have hs := hs.ext x165
          have hb := hb.ext x165
          have hsm := hsm.ext x165
          have hown := hown.ext x165
          have hs51 := hs51.ext x165
          have hb12 := hb12.ext x165
          have hown66 := hown66.ext x165
          refine bindP_eq ?_
          refine bindP_nil ?_
          refine OpS_on 39 110 rfl (congrArg Value.bool (by first | (rw [hsu]; done) | (rw [hsu]; simp))) ?_
          exact OpS_v rfl (o_moveh (v := .slice _ _ _) rfl)
        refine OblL_cons (fun w167 x168 => ?_) ?_
        · skip
          have z169 := Bel.size x168
          have hT := hT.ext x168
          have hs := hs.ext x168
          have hb := hb.ext x168
          have hsm := hsm.ext x168
          have hown := hown.ext x168
          have hs51 := hs51.ext x168
          have hb12 := hb12.ext x168
          have hown66 := hown66.ext x168
          refine bindP_eq ?_
          refine bindP_nil ?_
          refine OpS_on 39 110 rfl (congrArg Value.bool (by first | (rw [hsu]; done) | (rw [hsu]; simp))) ?_
          exact OpS_v rfl (o_moveh (v := .int _ _) rfl)
        refine OblL_cons (fun w170 x171 => ?_) ?_
        · skip
          have z172 := Bel.size x171
          have hT := hT.ext x171
          have hs := hs.ext x171
          have hb := hb.ext x171
          have hsm := hsm.ext x171
          have hown := hown.ext x171
          have hs51 := hs51.ext x171
          have hb12 := hb12.ext x171
          have hown66 := hown66.ext x171
          refine bindP_eq ?_
          refine bindP_eq ?_
          refine bindP_eq ?_
          refine bindP_nil ?_
          refine OpS_on 39 110 rfl (congrArg Value.bool (by first | (rw [hsu]; done) | (rw [hsu]; simp))) ?_
          exact OpS_v rfl (o_iaR Tryd.underlying35 Tryd.sizeOf60 hsm rfl rfl (by first | omega | (unfold I64; omega) | (simp; done) | (simp; omega) | (simp at *; omega)))
        refine OblL_cons (fun w173 x174 => ?_) ?_
        · skip
          have z175 := Bel.size x174
          have hT := hT.ext x174
          have hs := hs.ext x174
          have hb := hb.ext x174
          have hsm := hsm.ext x174
          have hown := hown.ext x174
          have hs51 := hs51.ext x174
          have hb12 := hb12.ext x174
          have hown66 := hown66.ext x174
          refine bindP_eq ?_
          refine bindP_eq ?_
          refine bindP_nil ?_
          refine OpS_on 39 110 rfl (congrArg Value.bool (by first | (rw [hsu]; done) | (rw [hsu]; simp))) ?_
          exact OpS_v rfl (o_faE Tryd.underlying60 rfl Tryd.sizeOf34 hsm rfl (getE (i := i) rz hi2))
        refine OblL_cons (fun w176 x177 => ?_) ?_
        · skip
          have z178 := Bel.size x177
          have hT := hT.ext x177
          have hs := hs.ext x177
          have hb := hb.ext x177
          have hsm := hsm.ext x177
          have hown := hown.ext x177
          have hs51 := hs51.ext x177
          have hb12 := hb12.ext x177
          have hown66 := hown66.ext x177
          refine bindP_eq ?_
          refine bindP_eq ?_
          refine bindP_nil ?_
          refine OpS_on 39 110 rfl (congrArg Value.bool (by first | (rw [hsu]; done) | (rw [hsu]; simp))) ?_
          exact OpS_v rfl (o_ldE (j := 2) Tryd.isAgg34 hsm rfl (getE (i := i) rz hi2) rfl)
        refine OblL_cons (fun w179 x180 => ?_) ?_
        · skip
          have z181 := Bel.size x180
          have hT := hT.ext x180
          have hs := hs.ext x180
          have hb := hb.ext x180
          have hsm := hsm.ext x180
          have hown := hown.ext x180
          have hs51 := hs51.ext x180
          have hb12 := hb12.ext x180
          have hown66 := hown66.ext x180
          refine bindP_eq ?_
          refine bindP_eq ?_
          refine bindP_eq ?_
          refine bindP_nil ?_
          refine OpS_on 39 110 rfl (congrArg Value.bool (by first | (rw [hsu]; done) | (rw [hsu]; simp))) ?_
          exact OpS_mem rfl (o_call1 Tryd.call16 rfl) ((roles_ok (b.m.getD i rz).x _).mono (fun v w2 ⟨a, c, e, h, x⟩ => ⟨x, a, c, e, h.mono (fun _ _ _ => trivial)⟩))
        refine OblL_cons (fun w182 x183 => ?_) ?_
        · skip
          have z184 := Bel.size x183
          have hT := hT.ext x183
          have hs := hs.ext x183
          have hb := hb.ext x183
          have hsm := hsm.ext x183
          have hown := hown.ext x183
          have hs51 := hs51.ext x183
          have hb12 := hb12.ext x183
          have hown66 := hown66.ext x183
          refine bindP_eq ?_
          refine bindP_mem (fun v118 hv118 => ?_)
          obtain ⟨a118, c118, rfl, hq118⟩ := hv118
          refine bindP_mem (fun v118 hv118 => ?_)
          obtain ⟨a118, c118, rfl, hq118⟩ := hv118
          refine bindP_eq ?_
          refine bindP_nil ?_
          refine OpS_on 39 110 rfl (congrArg Value.bool (by first | (rw [hsu]; done) | (rw [hsu]; simp))) ?_
          exact OpS_call rfl (o_call2 Tryd.call17 rfl rfl) (show Ok _ _ _ _ (fun v w' => v = .bool (s51.x == (b.m.getD i rz).x) ∧ Ext False _ w') from beq_ok _ ⟨s51.a, s51.c, s51.x⟩ _ hs51 ⟨a118, c118, (b.m.getD i rz).x⟩ _ hq118)
        refine OblL_cons (fun w185 x186 => ?_) ?_
        · skip
          have z187 := Bel.size x186
          have hT := hT.ext x186
          have hs := hs.ext x186
          have hb := hb.ext x186
          have hsm := hsm.ext x186
          have hown := hown.ext x186
          have hs51 := hs51.ext x186
          have hb12 := hb12.ext x186
          have hown66 := hown66.ext x186
          refine bindP_eq ?_
          refine bindP_eq ?_
          refine bindP_eq ?_
          refine bindP_nil ?_
          refine OpS_on 17 88 rfl rfl ?_
          exact OpS_v rfl (o_pickT (v := .bool _) (congrArg Value.bool (by first | (rw [hsu]; done) | (rw [hsu]; simp))) rfl)
        refine OblL_cons (fun w188 x189 => ?_) ?_
        · skip
          have z190 := Bel.size x189
          have hT := hT.ext x189
          have hs := hs.ext x189
          have hb := hb.ext x189
          have hsm := hsm.ext x189
          have hown := hown.ext x189
          have hs51 := hs51.ext x189
          have hb12 := hb12.ext x189
          have hown66 := hown66.ext x189
          refine bindP_eq ?_
          refine bindP_eq ?_
          refine bindP_nil ?_
          exact OpS_v rfl (o_pickF (v := .bool _) rfl rfl)
        refine OblL_cons (fun w191 x192 => ?_) ?_
        · skip
          have z193 := Bel.size x192
          have hT := hT.ext x192
          have hs := hs.ext x192
          have hb := hb.ext x192
          have hsm := hsm.ext x192
          have hown := hown.ext x192
          have hs51 := hs51.ext x192
          have hb12 := hb12.ext x192
          have hown66 := hown66.ext x192
          refine bindP_eq ?_
          refine bindP_eq ?_
          refine bindP_eq ?_
          refine bindP_eq ?_
          refine bindP_eq ?_
          refine bindP_eq ?_
          refine bindP_eq ?_
          refine bindP_eq ?_
          refine bindP_eq ?_
          refine bindP_eq ?_
          refine bindP_eq ?_
          refine bindP_eq ?_
          refine bindP_eq ?_
          refine bindP_eq ?_
          refine bindP_eq ?_
          refine bindP_eq ?_
          refine bindP_eq ?_
          refine bindP_eq ?_
          refine bindP_eq ?_
          refine bindP_eq ?_
          refine bindP_eq ?_
          refine bindP_eq ?_
          refine bindP_eq ?_
          refine bindP_eq ?_
          refine bindP_eq ?_
          refine bindP_eq ?_
          refine bindP_eq ?_
          refine bindP_eq ?_
          refine bindP_eq ?_
          refine bindP_eq ?_
          refine bindP_eq ?_
          refine bindP_eq ?_
          refine bindP_eq ?_
          refine bindP_eq ?_
          refine bindP_eq ?_
          refine bindP_eq ?_
          refine bindP_eq ?_
          refine bindP_eq ?_
          refine bindP_eq ?_
          refine bindP_eq ?_
          refine bindP_eq ?_
          refine bindP_eq ?_
          refine bindP_eq ?_
          refine bindP_eq ?_
          refine bindP_eq ?_
          refine bindP_eq ?_
          refine bindP_eq ?_
          refine bindP_eq ?_
          refine bindP_eq ?_
          refine bindP_mem (fun v118 hv118 => ?_)
          obtain ⟨a118, c118, rfl, hq118⟩ := hv118
          refine bindP_eq ?_
          refine bindP_eq ?_
          refine bindP_eq ?_
          refine bindP_nil ?_
          exact OpS_v rfl (o_assignh (v := .bool _) rfl)
        exact OblL_nil
      case fin17 =>
        intro w194 x195
        have z196 := Bel.size x195
        replace hX := Bel.ex hX x195
        replace hT := hT.ext x195
        replace hs := hs.ext x195
        replace hb := hb.ext x195
        replace hsm := hsm.ext x195
        replace hown := hown.ext x195
        replace hs51 := hs51.ext x195
        replace hb12 := hb12.ext x195
        replace hown66 := hown66.ext x195
        refine bindP_eq ?_
        refine bindP_eq ?_
        refine bindP_eq ?_
        refine bindP_eq ?_
        refine bindP_eq ?_
        refine bindP_eq ?_
        refine bindP_eq ?_
        refine bindP_eq ?_
        refine bindP_eq ?_
        refine bindP_eq ?_
        refine bindP_eq ?_
        refine bindP_eq ?_
        refine bindP_eq ?_
        refine bindP_eq ?_
        refine bindP_eq ?_
        refine bindP_eq ?_
        refine bindP_eq ?_
        refine bindP_eq ?_
        refine bindP_eq ?_
        refine bindP_eq ?_
        refine bindP_eq ?_
        refine bindP_eq ?_
        refine bindP_eq ?_
        refine bindP_eq ?_
        refine bindP_eq ?_
        refine bindP_eq ?_
        refine bindP_eq ?_
        refine bindP_eq ?_
        refine bindP_eq ?_
        refine bindP_eq ?_
        refine bindP_eq ?_
        refine bindP_eq ?_
        refine bindP_eq ?_
        refine bindP_eq ?_
        refine bindP_eq ?_
        refine bindP_eq ?_
        refine bindP_eq ?_
        refine bindP_eq ?_
        refine bindP_eq ?_
        refine bindP_eq ?_
        refine bindP_eq ?_
        refine bindP_eq ?_
        refine bindP_eq ?_
        refine bindP_eq ?_
        refine bindP_eq ?_
        refine bindP_eq ?_
        refine bindP_eq ?_
        refine bindP_mem (fun v118 hv118 => ?_)
        obtain ⟨a118, c118, rfl, hq118⟩ := hv118
        refine bindP_eq ?_
        refine bindP_eq ?_
        refine bindP_eq ?_
        refine bindP_eq ?_
        refine bindP_nil ?_
        refine Rg_nil ?_
        refine W_ret ?_
        refine ⟨_, res_tmp rfl rfl, ?_⟩
        refine ⟨congrArg Value.bool ?_, hX⟩
        all_goals (first | rfl | exact (beq_iff_eq.2 hsx))
    · skip
      refine Rg_run rfl (o_moveh (v := .bool _) rfl) ?_
      have hz := hz51 (by omega)
      have hsn : s51.n = 0 := by rw [hz]; rfl
      have hsu : s51.u = 0 := by rw [hz]; rfl
      have hsx : s51.x = 0 := by rw [hz]; rfl
      refine Rg_run rfl (o_moveh (v := .int _ _) rfl) ?_
      refine Rg_run rfl (o_geq rfl rfl) ?_
      refine Rg_run rfl (o_bneq Tryd.underlying4 rfl rfl) ?_
      refine Rg_run rfl (o_moveh (v := .bool _) rfl) ?_
      refine Rg_on 4 63 rfl (congrArg Value.bool (bne_f (by first | rfl | simp))) ?_
      refine Rg_run rfl (o_moveh (v := .pointer (some ⟨pb, 0, none⟩)) rfl) ?_
      refine Rg_on 4 63 rfl (congrArg Value.bool (bne_f (by first | rfl | simp))) ?_
      refine Rg_run rfl (o_moveh (v := .int _ _) rfl) ?_
      refine Rg_on 4 63 rfl (congrArg Value.bool (bne_f (by first | rfl | simp))) ?_
      refine Rg_enter rfl (o_call2 Tryd.call28 rfl rfl) (Ok.mono (sof_ok _ b.m _ hb.is hm19 user) ?_)
      rintro v66 w197 ⟨hown66, x198⟩
      have z199 := Bel.size x198
      replace hX := Bel.ex hX x198
      replace hT := hT.ext x198
      replace hs := hs.ext x198
      replace hb := hb.ext x198
      replace hsm := hsm.ext x198
      replace hown := hown.ext x198
      replace hs51 := hs51.ext x198
      replace hb12 := hb12.ext x198
      replace hown66 := hown66.mono (D' := fun g => w7.heap.size ≤ g) (fun g h1 h2 => by omega)
      refine Rg_on 4 63 rfl (congrArg Value.bool (bne_f (by first | rfl | simp))) ?_
      refine Rg_run rfl (o_moveh (v := t) rfl) ?_
      refine Rg_on 4 63 rfl (congrArg Value.bool (bne_f (by first | rfl | simp))) ?_
      refine Rg_enter rfl (o_call2 Tryd.call27 rfl rfl) (Ok.mono (iequalV_ok _ _ _ _ _ _ _ (hown66.rd encJ_ok) (hown.rd encJ_ok)) ?_)
      rintro _ w200 ⟨rfl, x201⟩
      have z202 := Bel.size x201
      replace hX := Bel.ex hX x201
      replace hT := hT.ext x201
      replace hs := hs.ext x201
      replace hb := hb.ext x201
      replace hsm := hsm.ext x201
      replace hown := hown.ext x201
      replace hs51 := hs51.ext x201
      replace hb12 := hb12.ext x201
      replace hown66 := hown66.ext x201
      refine Rg_on 4 63 rfl (congrArg Value.bool (bne_f (by first | rfl | simp))) ?_
      refine Rg_run rfl (o_not rfl) ?_
      refine Rg_run rfl (o_pickF (v := .bool _) (congrArg Value.bool (bne_f (by first | rfl | simp))) rfl) ?_
      refine Rg_nil ?_
      refine W_cond_false (congrArg Value.bool (beq_f rfl)) ?_
      refine W_skip ?_
      refine W_seq ?_
      apply W_draw (β := False) [peq _, peq _, peq _, peq _, peq _, peq _, peq _, peq _, peq _, peq _, peq _, peq _, peq _, peq _, peq _, peq _, peq _, peq _, peq _, peq _, peq _, peq _, peq _, peq _, peq _, peq _, peq _, peq _, peq _, peq _, peq _, peq _, peq _, peq _, peq _, peq _, peq _, peq _, peq _, peq _, peq _, peq _, peq _, peq _, peq _, peq _, peq _, peq _, peq _, peq _, peq _, peq _] 52 mixed (by kernel_rfl) rfl ⟨peq_stable _, peq_stable _, peq_stable _, peq_stable _, peq_stable _, peq_stable _, peq_stable _, peq_stable _, peq_stable _, peq_stable _, peq_stable _, peq_stable _, peq_stable _, peq_stable _, peq_stable _, peq_stable _, peq_stable _, peq_stable _, peq_stable _, peq_stable _, peq_stable _, peq_stable _, peq_stable _, peq_stable _, peq_stable _, peq_stable _, peq_stable _, peq_stable _, peq_stable _, peq_stable _, peq_stable _, peq_stable _, peq_stable _, peq_stable _, peq_stable _, peq_stable _, peq_stable _, peq_stable _, peq_stable _, peq_stable _, peq_stable _, peq_stable _, peq_stable _, peq_stable _, peq_stable _, peq_stable _, peq_stable _, peq_stable _, peq_stable _, peq_stable _, peq_stable _, peq_stable _, trivial⟩ ?ob17 ?fin17
      case ob17 =>
        refine OblL_cons (fun w203 x204 => ?_) ?_
        · skip
          have z205 := Bel.size x204
          have hT := hT.ext x204
          have hs := hs.ext x204
          have hb := hb.ext x204
          have hsm := hsm.ext x204
          have hown := hown.ext x204
          have hs51 := hs51.ext x204
          have hb12 := hb12.ext x204
          have hown66 := hown66.ext x204
          refine bindP_nil ?_
          exact OpS_v rfl (o_moveh (v := .bool _) rfl)
        refine OblL_cons (fun w206 x207 => ?_) ?_
        · skip
          have z208 := Bel.size x207
          have hT := hT.ext x207
          have hs := hs.ext x207
          have hb := hb.ext x207
          have hsm := hsm.ext x207
          have hown := hown.ext x207
          have hs51 := hs51.ext x207
          have hb12 := hb12.ext x207
          have hown66 := hown66.ext x207
          refine bindP_eq ?_
          refine bindP_nil ?_
          exact OpS_v rfl (o_not rfl)
        refine OblL_cons (fun w209 x210 => ?_) ?_
        · skip
          have z211 := Bel.size x210
          have hT := hT.ext x210
          have hs := hs.ext x210
          have hb := hb.ext x210
          have hsm := hsm.ext x210
          have hown := hown.ext x210
          have hs51 := hs51.ext x210
          have hb12 := hb12.ext x210
          have hown66 := hown66.ext x210
          refine bindP_eq ?_
          refine bindP_nil ?_
          exact OpS_v rfl (o_moveh (v := .bool _) rfl)
        refine OblL_cons (fun w212 x213 => ?_) ?_
        · skip
          have z214 := Bel.size x213
          have hT := hT.ext x213
          have hs := hs.ext x213
          have hb := hb.ext x213
          have hsm := hsm.ext x213
          have hown := hown.ext x213
          have hs51 := hs51.ext x213
          have hb12 := hb12.ext x213
          have hown66 := hown66.ext x213
          refine bindP_eq ?_
          refine bindP_nil ?_
          refine OpS_on 2 73 rfl (congrArg Value.bool (by first | (rw [decide_eq_false (by omega)]; done) | (rw [decide_eq_false (by omega)]; rfl))) ?_
          exact OpS_v rfl (o_fa Tryd.underlying55 rfl Tryd.sizeOf3 rfl)
        refine OblL_cons (fun w215 x216 => ?_) ?_
        · skip
          have z217 := Bel.size x216
          have hT := hT.ext x216
          have hs := hs.ext x216
          have hb := hb.ext x216
          have hsm := hsm.ext x216
          have hown := hown.ext x216
          have hs51 := hs51.ext x216
          have hb12 := hb12.ext x216
          have hown66 := hown66.ext x216
          refine bindP_eq ?_
          refine bindP_eq ?_
          refine bindP_nil ?_
          refine OpS_on 2 73 rfl (congrArg Value.bool (by first | (rw [decide_eq_false (by omega)]; done) | (rw [decide_eq_false (by omega)]; rfl))) ?_
          exact OpS_v rfl (o_load1 Tryd.isAgg3 rfl (hb12.at.get 0 rfl))
        refine OblL_cons (fun w218 x219 => ?_) ?_
        · skip
          have z220 := Bel.size x219
          have hT := hT.ext x219
          have hs := hs.ext x219
          have hb := hb.ext x219
          have hsm := hsm.ext x219
          have hown := hown.ext x219
          have hs51 := hs51.ext x219
          have hb12 := hb12.ext x219
          have hown66 := hown66.ext x219
          refine bindP_eq ?_
          refine bindP_eq ?_
          refine bindP_nil ?_
          refine OpS_on 2 73 rfl (congrArg Value.bool (by first | (rw [decide_eq_false (by omega)]; done) | (rw [decide_eq_false (by omega)]; rfl))) ?_
          exact OpS_v rfl (o_eql rfl rfl)
        refine OblL_cons (fun w221 x222 => ?_) ?_
        · skip
          have z223 := Bel.size x222
          have hT := hT.ext x222
          have hs := hs.ext x222
          have hb := hb.ext x222
          have hsm := hsm.ext x222
          have hown := hown.ext x222
          have hs51 := hs51.ext x222
          have hb12 := hb12.ext x222
          have hown66 := hown66.ext x222
          refine bindP_eq ?_
          refine bindP_eq ?_
          refine bindP_nil ?_
          exact OpS_v rfl (o_pickT (v := .bool _) (congrArg Value.bool (by first | (rw [decide_eq_false (by omega)]; done) | (rw [decide_eq_false (by omega)]; rfl))) rfl)
        refine OblL_cons (fun w224 x225 => ?_) ?_
        · skip
          have z226 := Bel.size x225
          have hT := hT.ext x225
          have hs := hs.ext x225
          have hb := hb.ext x225
          have hsm := hsm.ext x225
          have hown := hown.ext x225
          have hs51 := hs51.ext x225
          have hb12 := hb12.ext x225
          have hown66 := hown66.ext x225
          refine bindP_eq ?_
          refine bindP_eq ?_
          refine bindP_nil ?_
          exact OpS_v rfl (o_moveh (v := .bool _) rfl)
        refine OblL_cons (fun w227 x228 => ?_) ?_
        · skip
          have z229 := Bel.size x228
          have hT := hT.ext x228
          have hs := hs.ext x228
          have hb := hb.ext x228
          have hsm := hsm.ext x228
          have hown := hown.ext x228
          have hs51 := hs51.ext x228
          have hb12 := hb12.ext x228
          have hown66 := hown66.ext x228
          refine bindP_eq ?_
          refine bindP_nil ?_
          refine OpS_on 7 78 rfl (congrArg Value.bool (by first | (rw [hsn]; done) | (rw [hsn]; simp))) ?_
          exact OpS_v rfl (o_fa Tryd.underlying55 rfl Tryd.sizeOf3 rfl)
        refine OblL_cons (fun w230 x231 => ?_) ?_
        · skip
          have z232 := Bel.size x231
          have hT := hT.ext x231
          have hs := hs.ext x231
          have hb := hb.ext x231
          have hsm := hsm.ext x231
          have hown := hown.ext x231
          have hs51 := hs51.ext x231
          have hb12 := hb12.ext x231
          have hown66 := hown66.ext x231
          refine bindP_eq ?_
          refine bindP_eq ?_
          refine bindP_nil ?_
          refine OpS_on 7 78 rfl (congrArg Value.bool (by first | (rw [hsn]; done) | (rw [hsn]; simp))) ?_
          exact OpS_v rfl (o_load1 Tryd.isAgg3 rfl (hb12.at.get 1 rfl))
        refine OblL_cons (fun w233 x234 => ?_) ?_
        · skip
          have z235 := Bel.size x234
          have hT := hT.ext x234
          have hs := hs.ext x234
          have hb := hb.ext x234
          have hsm := hsm.ext x234
          have hown := hown.ext x234
          have hs51 := hs51.ext x234
          have hb12 := hb12.ext x234
          have hown66 := hown66.ext x234
          refine bindP_eq ?_
          refine bindP_eq ?_
          refine bindP_nil ?_
          refine OpS_on 7 78 rfl (congrArg Value.bool (by first | (rw [hsn]; done) | (rw [hsn]; simp))) ?_
          exact OpS_v rfl (o_eql rfl rfl)
        refine OblL_cons (fun w236 x237 => ?_) ?_
        · skip
          have z238 := Bel.size x237
          have hT := hT.ext x237
          have hs := hs.ext x237
          have hb := hb.ext x237
          have hsm := hsm.ext x237
          have hown := hown.ext x237
          have hs51 := hs51.ext x237
          have hb12 := hb12.ext x237
          have hown66 := hown66.ext x237
          refine bindP_eq ?_
          refine bindP_eq ?_
          refine bindP_nil ?_
          exact OpS_v rfl (o_pickT (v := .bool _) (congrArg Value.bool (by first | (rw [hsn]; done) | (rw [hsn]; simp))) rfl)
        refine OblL_cons (fun w239 x240 => ?_) ?_
        · skip
          have z241 := Bel.size x240
          have hT := hT.ext x240
          have hs := hs.ext x240
          have hb := hb.ext x240
          have hsm := hsm.ext x240
          have hown := hown.ext x240
          have hs51 := hs51.ext x240
          have hb12 := hb12.ext x240
          have hown66 := hown66.ext x240
          refine bindP_eq ?_
          refine bindP_eq ?_
          refine bindP_nil ?_
          exact OpS_v rfl (o_moveh (v := .bool _) rfl)
        refine OblL_cons (fun w242 x243 => ?_) ?_
        · skip
          have z244 := Bel.size x243
          have hT := hT.ext x243
          have hs := hs.ext x243
          have hb := hb.ext x243
          have hsm := hsm.ext x243
          have hown := hown.ext x243
          have hs51 := hs51.ext x243
          have hb12 := hb12.ext x243
          have hown66 := hown66.ext x243
          refine bindP_eq ?_
          refine bindP_nil ?_
          refine OpS_on 12 83 rfl (congrArg Value.bool (by first | (rw [hsu]; done) | (rw [hsu]; simp))) ?_
          exact OpS_v rfl (o_fa Tryd.underlying55 rfl Tryd.sizeOf44 rfl)
        refine OblL_cons (fun w245 x246 => ?_) ?_
        · skip
          have z247 := Bel.size x246
          have hT := hT.ext x246
          have hs := hs.ext x246
          have hb := hb.ext x246
          have hsm := hsm.ext x246
          have hown := hown.ext x246
          have hs51 := hs51.ext x246
          have hb12 := hb12.ext x246
          have hown66 := hown66.ext x246
          refine bindP_eq ?_
          refine bindP_eq ?_
          refine bindP_nil ?_
          refine OpS_on 12 83 rfl (congrArg Value.bool (by first | (rw [hsu]; done) | (rw [hsu]; simp))) ?_
          exact OpS_v rfl (o_loadS Tryd.isAgg44 Tryd.sizeOf44 rfl (hb12.at.sub 2 1) rfl)
        refine OblL_cons (fun w248 x249 => ?_) ?_
        · skip
          have z250 := Bel.size x249
          have hT := hT.ext x249
          have hs := hs.ext x249
          have hb := hb.ext x249
          have hsm := hsm.ext x249
          have hown := hown.ext x249
          have hs51 := hs51.ext x249
          have hb12 := hb12.ext x249
          have hown66 := hown66.ext x249
          refine bindP_eq ?_
          refine bindP_eq ?_
          refine bindP_eq ?_
          refine bindP_nil ?_
          refine OpS_on 12 83 rfl (congrArg Value.bool (by first | (rw [hsu]; done) | (rw [hsu]; simp))) ?_
          exact OpS_call rfl (o_call1 Tryd.call19 rfl) (bempty_ok _ ⟨s51.a, s51.c, s51.x⟩ _ hs51)
        refine OblL_cons (fun w251 x252 => ?_) ?_
        · skip
          have z253 := Bel.size x252
          have hT := hT.ext x252
          have hs := hs.ext x252
          have hb := hb.ext x252
          have hsm := hsm.ext x252
          have hown := hown.ext x252
          have hs51 := hs51.ext x252
          have hb12 := hb12.ext x252
          have hown66 := hown66.ext x252
          refine bindP_eq ?_
          refine bindP_eq ?_
          refine bindP_nil ?_
          exact OpS_v rfl (o_pickT (v := .bool _) (congrArg Value.bool (by first | (rw [hsu]; done) | (rw [hsu]; simp))) rfl)
        refine OblL_cons (fun w254 x255 => ?_) ?_
        · skip
          have z256 := Bel.size x255
          have hT := hT.ext x255
          have hs := hs.ext x255
          have hb := hb.ext x255
          have hsm := hsm.ext x255
          have hown := hown.ext x255
          have hs51 := hs51.ext x255
          have hb12 := hb12.ext x255
          have hown66 := hown66.ext x255
          refine bindP_eq ?_
          refine bindP_eq ?_
          refine bindP_nil ?_
          exact OpS_v rfl (o_moveh (v := .bool _) rfl)
        refine OblL_cons (fun w257 x258 => ?_) ?_
        · skip
          have z259 := Bel.size x258
          have hT := hT.ext x258
          have hs := hs.ext x258
          have hb := hb.ext x258
          have hsm := hsm.ext x258
          have hown := hown.ext x258
          have hs51 := hs51.ext x258
          have hb12 := hb12.ext x258
          have hown66 := hown66.ext x258
          refine bindP_eq ?_
          refine bindP_nil ?_
          exact OpS_off 17 88 rfl (congrArg Value.bool (by first | (rw [hsx]; done) | (rw [hsx]; simp))) rfl
        refine OblL_cons (fun w260 x261 => ?_) ?_
        · skip
          have z262 := Bel.size x261
          have hT := hT.ext x261
          have hs := hs.ext x261
          have hb := hb.ext x261
          have hsm := hsm.ext x261
          have hown := hown.ext x261
          have hs51 := hs51.ext x261
          have hb12 := hb12.ext x261
          have hown66 := hown66.ext x261
          refine bindP_eq ?_
          refine bindP_eq ?_
          refine bindP_eq ?_
          refine bindP_nil ?_
          exact OpS_off 17 88 rfl (congrArg Value.bool (by first | (rw [hsx]; done) | (rw [hsx]; simp))) rfl
        refine OblL_cons (fun w263 x264 => ?_) ?_
        · skip
          have z265 := Bel.size x264
          have hT := hT.ext x264
          have hs := hs.ext x264
          have hb := hb.ext x264
          have hsm := hsm.ext x264
          have hown := hown.ext x264
          have hs51 := hs51.ext x264
          have hb12 := hb12.ext x264
          have hown66 := hown66.ext x264
          refine bindP_eq ?_
          refine bindP_nil ?_
          exact OpS_offU 19 90 rfl rfl
        refine OblL_cons (fun w266 x267 => ?_) ?_
        · skip
          have z268 := Bel.size x267
          have hT := hT.ext x267
          have hs := hs.ext x267
          have hb := hb.ext x267
          have hsm := hsm.ext x267
          have hown := hown.ext x267
          have hs51 := hs51.ext x267
          have hb12 := hb12.ext x267
          have hown66 := hown66.ext x267
          refine bindP_eq ?_
          refine bindP_eq ?_
          refine bindP_nil ?_
          exact OpS_offU 19 90 rfl rfl
        refine OblL_cons (fun w269 x270 => ?_) ?_
        · skip
          have z271 := Bel.size x270
          have hT := hT.ext x270
          have hs := hs.ext x270
          have hb := hb.ext x270
          have hsm := hsm.ext x270
          have hown := hown.ext x270
          have hs51 := hs51.ext x270
          have hb12 := hb12.ext x270
          have hown66 := hown66.ext x270
          refine bindP_eq ?_
          refine bindP_nil ?_
          exact OpS_offU 19 90 rfl rfl
        refine OblL_cons (fun w272 x273 => ?_) ?_
        · skip
          have z274 := Bel.size x273
          have hT := hT.ext x273
          have hs := hs.ext x273
          have hb := hb.ext x273
          have hsm := hsm.ext x273
          have hown := hown.ext x273
          have hs51 := hs51.ext x273
          have hb12 := hb12.ext x273
          have hown66 := hown66.ext x273
          refine bindP_eq ?_
          refine bindP_nil ?_
          exact OpS_offU 19 90 rfl rfl
        refine OblL_cons (fun w275 x276 => ?_) ?_
        · skip
          have z277 := Bel.size x276
          have hT := hT.ext x276
          have hs := hs.ext x276
          have hb := hb.ext x276
          have hsm := hsm.ext x276
          have hown := hown.ext x276
          have hs51 := hs51.ext x276
          have hb12 := hb12.ext x276
          have hown66 := hown66.ext x276
          refine bindP_eq ?_
          refine bindP_eq ?_
          refine bindP_eq ?_
          refine bindP_nil ?_
          exact OpS_offU 19 90 rfl rfl
        refine OblL_cons (fun w278 x279 => ?_) ?_
        · skip
          have z280 := Bel.size x279
          have hT := hT.ext x279
          have hs := hs.ext x279
          have hb := hb.ext x279
          have hsm := hsm.ext x279
          have hown := hown.ext x279
          have hs51 := hs51.ext x279
          have hb12 := hb12.ext x279
          have hown66 := hown66.ext x279
          refine bindP_eq ?_
          refine bindP_eq ?_
          refine bindP_nil ?_
          exact OpS_offU 19 90 rfl rfl
        refine OblL_cons (fun w281 x282 => ?_) ?_
        · skip
          have z283 := Bel.size x282
          have hT := hT.ext x282
          have hs := hs.ext x282
          have hb := hb.ext x282
          have hsm := hsm.ext x282
          have hown := hown.ext x282
          have hs51 := hs51.ext x282
          have hb12 := hb12.ext x282
          have hown66 := hown66.ext x282
          refine bindP_eq ?_
          refine bindP_eq ?_
          refine bindP_nil ?_
          exact OpS_offU 19 90 rfl rfl
        refine OblL_cons (fun w284 x285 => ?_) ?_
        · skip
          have z286 := Bel.size x285
          have hT := hT.ext x285
          have hs := hs.ext x285
          have hb := hb.ext x285
          have hsm := hsm.ext x285
          have hown := hown.ext x285
          have hs51 := hs51.ext x285
          have hb12 := hb12.ext x285
          have hown66 := hown66.ext x285
          refine bindP_eq ?_
          refine bindP_eq ?_
          refine bindP_eq ?_
          refine bindP_nil ?_
          exact OpS_offU 19 90 rfl rfl
        refine OblL_cons (fun w287 x288 => ?_) ?_
        · skip
          have z289 := Bel.size x288
          have hT := hT.ext x288
          have hs := hs.ext x288
          have hb := hb.ext x288
          have hsm := hsm.ext x288
          have hown := hown.ext x288
          have hs51 := hs51.ext x288
          have hb12 := hb12.ext x288
          have hown66 := hown66.ext x288
          refine bindP_eq ?_
          refine bindP_eq ?_
          refine bindP_eq ?_
          refine bindP_nil ?_
          exact OpS_off 17 88 rfl (congrArg Value.bool (by first | (rw [hsx]; done) | (rw [hsx]; simp))) rfl
        refine OblL_cons (fun w290 x291 => ?_) ?_
        · skip
          have z292 := Bel.size x291
          have hT := hT.ext x291
          have hs := hs.ext x291
          have hb := hb.ext x291
          have hsm := hsm.ext x291
          have hown := hown.ext x291
          have hs51 := hs51.ext x291
          have hb12 := hb12.ext x291
          have hown66 := hown66.ext x291
          refine bindP_eq ?_
          refine bindP_eq ?_
          refine bindP_eq ?_
          refine bindP_nil ?_
          exact OpS_off 17 88 rfl (congrArg Value.bool (by first | (rw [hsx]; done) | (rw [hsx]; simp))) rfl
        refine OblL_cons (fun w293 x294 => ?_) ?_
        · skip
          have z295 := Bel.size x294
          have hT := hT.ext x294
          have hs := hs.ext x294
          have hb := hb.ext x294
          have hsm := hsm.ext x294
          have hown := hown.ext x294
          have hs51 := hs51.ext x294
          have hb12 := hb12.ext x294
          have hown66 := hown66.ext x294
          refine bindP_eq ?_
          refine bindP_nil ?_
          exact OpS_offU 29 100 rfl rfl
        refine OblL_cons (fun w296 x297 => ?_) ?_
        · skip
          have z298 := Bel.size x297
          have hT := hT.ext x297
          have hs := hs.ext x297
          have hb := hb.ext x297
          have hsm := hsm.ext x297
          have hown := hown.ext x297
          have hs51 := hs51.ext x297
          have hb12 := hb12.ext x297
          have hown66 := hown66.ext x297
          refine bindP_eq ?_
          refine bindP_eq ?_
          refine bindP_nil ?_
          exact OpS_offU 29 100 rfl rfl
        refine OblL_cons (fun w299 x300 => ?_) ?_
        · skip
          have z301 := Bel.size x300
          have hT := hT.ext x300
          have hs := hs.ext x300
          have hb := hb.ext x300
          have hsm := hsm.ext x300
          have hown := hown.ext x300
          have hs51 := hs51.ext x300
          have hb12 := hb12.ext x300
          have hown66 := hown66.ext x300
          refine bindP_eq ?_
          refine bindP_nil ?_
          exact OpS_offU 29 100 rfl rfl
        refine OblL_cons (fun w302 x303 => ?_) ?_
        · skip
          have z304 := Bel.size x303
          have hT := hT.ext x303
          have hs := hs.ext x303
          have hb := hb.ext x303
          have hsm := hsm.ext x303
          have hown := hown.ext x303
          have hs51 := hs51.ext x303
          have hb12 := hb12.ext x303
          have hown66 := hown66.ext x303
          refine bindP_eq ?_
          refine bindP_nil ?_
          exact OpS_offU 29 100 rfl rfl
        refine OblL_cons (fun w305 x306 => ?_) ?_
        · skip
          have z307 := Bel.size x306
          have hT := hT.ext x306
          have hs := hs.ext x306
          have hb := hb.ext x306
          have hsm := hsm.ext x306
          have hown := hown.ext x306
          have hs51 := hs51.ext x306
          have hb12 := hb12.ext x306
          have hown66 := hown66.ext x306
          refine bindP_eq ?_
          refine bindP_eq ?_
          refine bindP_eq ?_
          refine bindP_nil ?_
          exact OpS_offU 29 100 rfl rfl
        refine OblL_cons (fun w308 x309 => ?_) ?_
        · skip
          have z310 := Bel.size x309
          have hT := hT.ext x309
          have hs := hs.ext x309
          have hb := hb.ext x309
          have hsm := hsm.ext x309
          have hown := hown.ext x309
          have hs51 := hs51.ext x309
          have hb12 := hb12.ext x309
          have hown66 := hown66.ext x309
          refine bindP_eq ?_
          refine bindP_eq ?_
          refine bindP_nil ?_
          exact OpS_offU 29 100 rfl rfl
        refine OblL_cons (fun w311 x312 => ?_) ?_
        · skip
          have z313 := Bel.size x312
          have hT := hT.ext x312
          have hs := hs.ext x312
          have hb := hb.ext x312
          have hsm := hsm.ext x312
          have hown := hown.ext x312
          have hs51 := hs51.ext x312
          have hb12 := hb12.ext x312
          have hown66 := hown66.ext x312
          refine bindP_eq ?_
          refine bindP_eq ?_
          refine bindP_nil ?_
          exact OpS_offU 29 100 rfl rfl
        refine OblL_cons (fun w314 x315 => ?_) ?_
        · skip
          have z316 := Bel.size x315
          have hT := hT.ext x315
          have hs := hs.ext x315
          have hb := hb.ext x315
          have hsm := hsm.ext x315
          have hown := hown.ext x315
          have hs51 := hs51.ext x315
          have hb12 := hb12.ext x315
          have hown66 := hown66.ext x315
          refine bindP_eq ?_
          refine bindP_eq ?_
          refine bindP_eq ?_
          refine bindP_nil ?_
          exact OpS_offU 29 100 rfl rfl
        refine OblL_cons (fun w317 x318 => ?_) ?_
        · skip
          have z319 := Bel.size x318
          have hT := hT.ext x318
          have hs := hs.ext x318
          have hb := hb.ext x318
          have hsm := hsm.ext x318
          have hown := hown.ext x318
          have hs51 := hs51.ext x318
          have hb12 := hb12.ext x318
          have hown66 := hown66.ext x318
          refine bindP_eq ?_
          refine bindP_eq ?_
          refine bindP_eq ?_
          refine bindP_nil ?_
          exact OpS_off 17 88 rfl (congrArg Value.bool (by first | (rw [hsx]; done) | (rw [hsx]; simp))) rfl
        refine OblL_cons (fun w320 x321 => ?_) ?_
        · skip
          have z322 := Bel.size x321
          have hT := hT.ext x321
          have hs := hs.ext x321
          have hb := hb.ext x321
          have hsm := hsm.ext x321
          have hown := hown.ext x321
          have hs51 := hs51.ext x321
          have hb12 := hb12.ext x321
          have hown66 := hown66.ext x321
          refine bindP_eq ?_
          refine bindP_eq ?_
          refine bindP_eq ?_
          refine bindP_nil ?_
          exact OpS_off 17 88 rfl (congrArg Value.bool (by first | (rw [hsx]; done) | (rw [hsx]; simp))) rfl
        refine OblL_cons (fun w323 x324 => ?_) ?_
        · skip
          have z325 := Bel.size x324
          have hT := hT.ext x324
          have hs := hs.ext x324
          have hb := hb.ext x324
          have hsm := hsm.ext x324
          have hown := hown.ext x324
          have hs51 := hs51.ext x324
          have hb12 := hb12.ext x324
          have hown66 := hown66.ext x324
          refine bindP_eq ?_
          refine bindP_nil ?_
          exact OpS_offU 39 110 rfl rfl
        refine OblL_cons (fun w326 x327 => ?_) ?_
        · skip
          have z328 := Bel.size x327
          have hT := hT.ext x327
          have hs := hs.ext x327
          have hb := hb.ext x327
          have hsm := hsm.ext x327
          have hown := hown.ext x327
          have hs51 := hs51.ext x327
          have hb12 := hb12.ext x327
          have hown66 := hown66.ext x327
          refine bindP_eq ?_
          refine bindP_eq ?_
          refine bindP_nil ?_
          exact OpS_offU 39 110 rfl rfl
        refine OblL_cons (fun w329 x330 => ?_) ?_
        · skip
          have z331 := Bel.size x330
          have hT := hT.ext x330
          have hs := hs.ext x330
          have hb := hb.ext x330
          have hsm := hsm.ext x330
          have hown := hown.ext x330
          have hs51 := hs51.ext x330
          have hb12 := hb12.ext x330
          have hown66 := hown66.ext x330
          refine bindP_eq ?_
          refine bindP_nil ?_
          exact OpS_offU 39 110 rfl rfl
        refine OblL_cons (fun w332 x333 => ?_) ?_
        · skip
          have z334 := Bel.size x333
          have hT := hT.ext x333
          have hs := hs.ext x333
          have hb := hb.ext x333
          have hsm := hsm.ext x333
          have hown := hown.ext x333
          have hs51 := hs51.ext x333
          have hb12 := hb12.ext x333
          have hown66 := hown66.ext x333
          refine bindP_eq ?_
          refine bindP_nil ?_
          exact OpS_offU 39 110 rfl rfl
        refine OblL_cons (fun w335 x336 => ?_) ?_
        · skip
          have z337 := Bel.size x336
          have hT := hT.ext x336
          have hs := hs.ext x336
          have hb := hb.ext x336
          have hsm := hsm.ext x336
          have hown := hown.ext x336
          have hs51 := hs51.ext x336
          have hb12 := hb12.ext x336
          have hown66 := hown66.ext x336
          refine bindP_eq ?_
          refine bindP_eq ?_
          refine bindP_eq ?_
          refine bindP_nil ?_
          exact OpS_offU 39 110 rfl rfl
        refine OblL_cons (fun w338 x339 => ?_) ?_
        · skip
          have z340 := Bel.size x339
          have hT := hT.ext x339
          have hs := hs.ext x339
          have hb := hb.ext x339
          have hsm := hsm.ext x339
          have hown := hown.ext x339
          have hs51 := hs51.ext x339
          have hb12 := hb12.ext x339
          have hown66 := hown66.ext x339
          refine bindP_eq ?_
          refine bindP_eq ?_
          refine bindP_nil ?_
          exact OpS_offU 39 110 rfl rfl
        refine OblL_cons (fun w341 x342 => ?_) ?_
        · skip
          have z343 := Bel.size x342
          have hT := hT.ext x342
          have hs := hs.ext x342
          have hb := hb.ext x342
          have hsm := hsm.ext x342
          have hown := hown.ext x342
          have hs51 := hs51.ext x342
          have hb12 := hb12.ext x342
          have hown66 := hown66.ext x342
          refine bindP_eq ?_
          refine bindP_eq ?_
          refine bindP_nil ?_
          exact OpS_offU 39 110 rfl rfl
        refine OblL_cons (fun w344 x345 => ?_) ?_
        · skip
          have z346 := Bel.size x345
          have hT := hT.ext x345
          have hs := hs.ext x345
          have hb := hb.ext x345
          have hsm := hsm.ext x345
          have hown := hown.ext x345
          have hs51 := hs51.ext x345
          have hb12 := hb12.ext x345
          have hown66 := hown66.ext x345
          refine bindP_eq ?_
          refine bindP_eq ?_
          refine bindP_eq ?_
          refine bindP_nil ?_
          exact OpS_offU 39 110 rfl rfl
        refine OblL_cons (fun w347 x348 => ?_) ?_
        · skip
          have z349 := Bel.size x348
          have hT := hT.ext x348
          have hs := hs.ext x348
          have hb := hb.ext x348
          have hsm := hsm.ext x348
          have hown := hown.ext x348
          have hs51 := hs51.ext x348
          have hb12 := hb12.ext x348
          have hown66 := hown66.ext x348
          refine bindP_eq ?_
          refine bindP_eq ?_
          refine bindP_eq ?_
          refine bindP_eq ?_
          refine bindP_nil ?_
          exact OpS_offU 39 110 rfl rfl
        refine OblL_cons (fun w350 x351 => ?_) ?_
        · skip
          have z352 := Bel.size x351
          have hT := hT.ext x351
          have hs := hs.ext x351
          have hb := hb.ext x351
          have hsm := hsm.ext x351
          have hown := hown.ext x351
          have hs51 := hs51.ext x351
          have hb12 := hb12.ext x351
          have hown66 := hown66.ext x351
          refine bindP_eq ?_
          refine bindP_eq ?_
          refine bindP_eq ?_
          refine bindP_nil ?_
          exact OpS_off 17 88 rfl (congrArg Value.bool (by first | (rw [hsx]; done) | (rw [hsx]; simp))) rfl
        refine OblL_cons (fun w353 x354 => ?_) ?_
        · skip
          have z355 := Bel.size x354
          have hT := hT.ext x354
          have hs := hs.ext x354
          have hb := hb.ext x354
          have hsm := hsm.ext x354
          have hown := hown.ext x354
          have hs51 := hs51.ext x354
          have hb12 := hb12.ext x354
          have hown66 := hown66.ext x354
          refine bindP_eq ?_
          refine bindP_eq ?_
          refine bindP_nil ?_
          exact OpS_v rfl (o_pickT (v := .bool _) (congrArg Value.bool (by first | (rw [hsx]; done) | (rw [hsx]; simp))) rfl)
        refine OblL_cons (fun w356 x357 => ?_) ?_
        · skip
          have z358 := Bel.size x357
          have hT := hT.ext x357
          have hs := hs.ext x357
          have hb := hb.ext x357
          have hsm := hsm.ext x357
          have hown := hown.ext x357
          have hs51 := hs51.ext x357
          have hb12 := hb12.ext x357
          have hown66 := hown66.ext x357
          refine bindP_eq ?_
          refine bindP_eq ?_
          refine bindP_eq ?_
          refine bindP_eq ?_
          refine bindP_eq ?_
          refine bindP_eq ?_
          refine bindP_eq ?_
          refine bindP_eq ?_
          refine bindP_eq ?_
          refine bindP_eq ?_
          refine bindP_eq ?_
          refine bindP_eq ?_
          refine bindP_eq ?_
          refine bindP_eq ?_
          refine bindP_eq ?_
          refine bindP_eq ?_
          refine bindP_eq ?_
          refine bindP_eq ?_
          refine bindP_eq ?_
          refine bindP_eq ?_
          refine bindP_eq ?_
          refine bindP_eq ?_
          refine bindP_eq ?_
          refine bindP_eq ?_
          refine bindP_eq ?_
          refine bindP_eq ?_
          refine bindP_eq ?_
          refine bindP_eq ?_
          refine bindP_eq ?_
          refine bindP_eq ?_
          refine bindP_eq ?_
          refine bindP_eq ?_
          refine bindP_eq ?_
          refine bindP_eq ?_
          refine bindP_eq ?_
          refine bindP_eq ?_
          refine bindP_eq ?_
          refine bindP_eq ?_
          refine bindP_eq ?_
          refine bindP_eq ?_
          refine bindP_eq ?_
          refine bindP_eq ?_
          refine bindP_eq ?_
          refine bindP_eq ?_
          refine bindP_eq ?_
          refine bindP_eq ?_
          refine bindP_eq ?_
          refine bindP_eq ?_
          refine bindP_eq ?_
          refine bindP_eq ?_
          refine bindP_eq ?_
          refine bindP_eq ?_
          refine bindP_eq ?_
          refine bindP_nil ?_
          exact OpS_v rfl (o_assignh (v := .bool _) rfl)
        exact OblL_nil
      case fin17 =>
        intro w359 x360
        have z361 := Bel.size x360
        replace hX := Bel.ex hX x360
        replace hT := hT.ext x360
        replace hs := hs.ext x360
        replace hb := hb.ext x360
        replace hsm := hsm.ext x360
        replace hown := hown.ext x360
        replace hs51 := hs51.ext x360
        replace hb12 := hb12.ext x360
        replace hown66 := hown66.ext x360
        refine bindP_eq ?_
        refine bindP_eq ?_
        refine bindP_eq ?_
        refine bindP_eq ?_
        refine bindP_eq ?_
        refine bindP_eq ?_
        refine bindP_eq ?_
        refine bindP_eq ?_
        refine bindP_eq ?_
        refine bindP_eq ?_
        refine bindP_eq ?_
        refine bindP_eq ?_
        refine bindP_eq ?_
        refine bindP_eq ?_
        refine bindP_eq ?_
        refine bindP_eq ?_
        refine bindP_eq ?_
        refine bindP_eq ?_
        refine bindP_eq ?_
        refine bindP_eq ?_
        refine bindP_eq ?_
        refine bindP_eq ?_
        refine bindP_eq ?_
        refine bindP_eq ?_
        refine bindP_eq ?_
        refine bindP_eq ?_
        refine bindP_eq ?_
        refine bindP_eq ?_
        refine bindP_eq ?_
        refine bindP_eq ?_
        refine bindP_eq ?_
        refine bindP_eq ?_
        refine bindP_eq ?_
        refine bindP_eq ?_
        refine bindP_eq ?_
        refine bindP_eq ?_
        refine bindP_eq ?_
        refine bindP_eq ?_
        refine bindP_eq ?_
        refine bindP_eq ?_
        refine bindP_eq ?_
        refine bindP_eq ?_
        refine bindP_eq ?_
        refine bindP_eq ?_
        refine bindP_eq ?_
        refine bindP_eq ?_
        refine bindP_eq ?_
        refine bindP_eq ?_
        refine bindP_eq ?_
        refine bindP_eq ?_
        refine bindP_eq ?_
        refine bindP_eq ?_
        refine bindP_nil ?_
        refine Rg_nil ?_
        refine W_ret ?_
        refine ⟨_, res_tmp rfl rfl, ?_⟩
        refine ⟨congrArg Value.bool ?_, hX⟩
        all_goals (rfl)

end Go.Proofs.YtncmjgmlnnenhaaDoor
