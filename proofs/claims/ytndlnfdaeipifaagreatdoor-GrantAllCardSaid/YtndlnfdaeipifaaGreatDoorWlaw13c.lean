/- Walks, printed by program: each theorem says what a function of the translation returns. -/
import Derived.Test.YtndlnfdaeipifaaGreatDoorWawk13
namespace Go.Proofs.YtndlnfdaeipifaaGreatDoor
open Go Go.Lx Go.RowKit
set_option maxRecDepth 100000
set_option linter.unusedVariables false
set_option linter.unusedSimpArgs false
set_option linter.unnecessarySimpa false
theorem law_GrantAll (w : World) (hT : Tb w) (v0 : Value) (l : List GOp) (hs : Rd encGo 5 (Lt w.heap.size) w v0 l) (dl : ∀ z ∈ l, Sl encB 1 (Lt w.heap.size) w z.p.a z.p.c z.p.names) (r : UInt8) (x : RawV) (hx : Sl encB 1 (Lt w.heap.size) w x.a x.c x.names) : Ok Tryz.prog 8 #[v0, .int .u8 (r.toNat : Int), .agg (encR x).toArray] w fun v w' => v = .bool true ∧ Ext False w w' := by
  obtain ⟨a, c, rfl, hs⟩ := hs
  have hlen := hs.len
  have hTl := hT.lt
  refine Ok_of_W 70 Tryz.func8 rfl rfl rfl ?_
  have hX : Ext False w w := Bel.refl _ _
  refine W_seq ?_
  refine W_region ?_
  refine Rg_newB rfl (o_box (v := .agg _) rfl) ?_
  intro b5 w1 x2 hge5 hb5
  have hlt5 := hb5.lt
  change Box _ _ _ (encR _) at hb5
  have z3 := Bel.size x2
  replace hX := Bel.ex hX x2
  replace hT := hT.ext x2
  replace hs := hs.ext x2
  replace dl := (fun z hz => (dl z hz).ext x2)
  replace hx := hx.ext x2
  refine Rg_run rfl o_assignc ?_
  refine Rg_nil ?_
  refine W_seq ?_
  refine W_seq ?_
  refine W_region ?_
  refine Rg_enter rfl (o_call0 Tryz.call12) (Ok.mono (awake_ok _ hT) ?_)
  rintro _ w4 ⟨rfl, x5⟩
  have z6 := Bel.size x5
  replace hX := Bel.ex hX x5
  replace hT := hT.ext x5
  replace hs := hs.ext x5
  replace dl := (fun z hz => (dl z hz).ext x5)
  replace hx := hx.ext x5
  replace hb5 := hb5.ext x5
  refine Rg_run rfl (o_not rfl) ?_
  refine Rg_nil ?_
  refine W_cond_false rfl ?_
  refine W_skip ?_
  refine W_seq ?_
  refine W_region ?_
  refine Rg_run rfl (o_moveh (v := .slice _ _ _) rfl) ?_
  refine Rg_enter rfl (o_call1 Tryz.call13 rfl) (Ok.mono (lplay13_ok _ _ l hs.trd (fun z hz => (dl z hz).top)) ?_)
  rintro _ w7 ⟨⟨p20, q20, m20, rfl, hm20, hbk20, hrq20⟩, x8⟩
  have z9 := Bel.size x8
  replace hX := Bel.ex hX x8
  replace hT := hT.ext x8
  replace hs := hs.ext x8
  replace dl := (fun z hz => (dl z hz).ext x8)
  replace hx := hx.ext x8
  replace hb5 := hb5.ext x8
  refine Rg_run rfl (o_moveh (v := .tuple _) rfl) ?_
  refine Rg_run rfl (o_extract rfl rfl) ?_
  refine Rg_run rfl (o_extract rfl rfl) ?_
  refine Rg_run rfl (o_assignh (v := .pointer (some ⟨p20, 0, none⟩)) rfl) ?_
  refine Rg_run rfl (o_assignh (v := q20) rfl) ?_
  refine Rg_nil ?_
  refine W_seq ?_
  refine W_seq ?_
  refine W_region ?_
  obtain ⟨am20, cm20, hme20, hms20⟩ := hrq20
  subst hme20
  have hlm20 := hm20.len
  refine Rg_run rfl (o_moveh (v := .pointer (some ⟨p20, 0, none⟩)) rfl) ?_
  refine Rg_run rfl (o_peq Tryz.underlying25 rfl rfl) ?_
  refine Rg_nil ?_
  refine W_cond_false rfl ?_
  refine W_skip ?_
  refine W_seq ?_
  refine W_region ?_
  refine Rg_run rfl (o_moveh (v := .int _ _) rfl) ?_
  refine Rg_run rfl (o_convB8 Tryz.underlying5 Tryz.underlying23 rfl) ?_
  refine Rg_run rfl (o_bandn (b := BitVec.ofNat 64 1) rfl rfl) ?_
  refine Rg_run rfl (o_assignh (v := .int _ _) rfl) ?_
  refine Rg_nil ?_
  refine W_seq ?_
  refine W_region ?_
  generalize hfew : (BitVec.ofNat 64 r.toNat &&& ~~~(BitVec.ofNat 64 1)) = few
  refine Rg_run rfl (o_moveh (v := .pointer (some ⟨p20, 0, none⟩)) rfl) ?_
  refine Rg_run rfl (o_moveh (v := .int _ _) rfl) ?_
  refine Rg_enter rfl (o_call1 Tryz.call26 rfl) (Ok.mono (roles_ok few _) ?_)
  rintro _ w10 ⟨a30, c30, rfl, hq30, x11⟩
  have z12 := Bel.size x11
  replace hX := Bel.ex hX x11
  replace hT := hT.ext x11
  replace hx := hx.ext x11
  replace hb5 := hb5.ext x11
  replace hbk20 := hbk20.ext x11
  replace hms20 := hms20.ext x11
  refine Rg_enter rfl (o_call2 Tryz.call35 rfl rfl) (Ok.mono (gall_ok _ _ _ hbk20.is hm20 ⟨a30, c30, few⟩ _ hq30) ?_)
  rintro v31 w13 ⟨hown31, x14⟩
  have z15 := Bel.size x14
  replace hX := Bel.ex hX x14
  replace hT := hT.ext x14
  replace hx := hx.ext x14
  replace hb5 := hb5.ext x14
  replace hbk20 := hbk20.ext x14
  replace hms20 := hms20.ext x14
  replace hq30 := hq30.ext x14
  change Own _ _ _ _ _ _ ((normS (allG m20 few))) at hown31; obtain ⟨a31, c31, hv31, hs31⟩ := hown31.sl encP_ok; subst hv31
  refine Rg_run rfl (o_assignh (v := .slice _ _ _) rfl) ?_
  refine Rg_nil ?_
  refine W_seq ?_
  refine W_region ?_
  refine Rg_run rfl (o_loadS Tryz.isAgg51 Tryz.sizeOf51 rfl hb5.at rfl) ?_
  refine Rg_enter rfl (o_call1 Tryz.call22 rfl) (Ok.mono (make_ok _ x hx.top) ?_)
  rintro _ w16 ⟨rfl, x17⟩
  have z18 := Bel.size x17
  replace hX := Bel.ex hX x17
  replace hT := hT.ext x17
  replace hx := hx.ext x17
  replace hb5 := hb5.ext x17
  replace hbk20 := hbk20.ext x17
  replace hms20 := hms20.ext x17
  replace hq30 := hq30.ext x17
  replace hs31 := hs31.ext x17
  refine Rg_run rfl (o_moveh (v := .tuple _) rfl) ?_
  refine Rg_run rfl (o_extract rfl rfl) ?_
  refine Rg_run rfl (o_extract rfl rfl) ?_
  refine Rg_newB rfl (o_alloc Tryz.zeroValue52) ?_
  intro b11 w19 x20 hge11 hb11
  have hlt11 := hb11.lt
  change Box _ _ _ ([str _, str _, .bool _]) at hb11
  have z21 := Bel.size x20
  replace hX := Bel.ex hX x20
  replace hT := hT.ext x20
  replace hx := hx.ext x20
  replace hb5 := hb5.ext x20
  replace hbk20 := hbk20.ext x20
  replace hms20 := hms20.ext x20
  replace hq30 := hq30.ext x20
  replace hs31 := hs31.ext x20
  refine Rg_newB rfl (o_alloc Tryz.zeroValue41) ?_
  intro b12 w22 x23 hge12 hb12
  have hlt12 := hb12.lt
  change Box _ _ _ ([str _, str _, .bool _]) at hb12
  have z24 := Bel.size x23
  replace hX := Bel.ex hX x23
  replace hT := hT.ext x23
  replace hx := hx.ext x23
  replace hb5 := hb5.ext x23
  replace hbk20 := hbk20.ext x23
  replace hms20 := hms20.ext x23
  replace hq30 := hq30.ext x23
  replace hs31 := hs31.ext x23
  replace hb11 := hb11.ext x23
  refine Rg_storeW (v := .agg _) rfl Tryz.sizeOf52 rfl rfl hb11 rfl rfl rfl ?_
  intro w25 c26 hb11
  change Box _ _ _ (encP _) at hb11
  have z27 := Bel.size c26
  replace hX := Bel.out hX c26 (fun g h1 h2 => by first | exact h2 | omega)
  replace hT := hT.keep c26 (fun h => by omega)
  replace hx := hx.keep c26 (fun g h1 h2 h3 => by omega)
  replace hb5 := hb5.keep c26 (fun h => by omega)
  replace hbk20 := hbk20.keep c26 (fun g h1 h2 h3 => by omega)
  replace hms20 := hms20.keep c26 (fun g h1 h2 h3 => by omega)
  replace hq30 := hq30.keep c26 (fun g h1 h2 h3 => by omega)
  replace hs31 := hs31.keep c26 (fun g h1 h2 h3 => by omega)
  replace hb12 := hb12.keep c26 (fun h => by omega)
  refine Rg_storeW (v := .agg _) rfl Tryz.sizeOf41 rfl rfl hb12 rfl rfl rfl ?_
  intro w28 c29 hb12
  change Box _ _ _ (encP _) at hb12
  have z30 := Bel.size c29
  replace hX := Bel.out hX c29 (fun g h1 h2 => by first | exact h2 | omega)
  replace hT := hT.keep c29 (fun h => by omega)
  replace hx := hx.keep c29 (fun g h1 h2 h3 => by omega)
  replace hb5 := hb5.keep c29 (fun h => by omega)
  replace hbk20 := hbk20.keep c29 (fun g h1 h2 h3 => by omega)
  replace hms20 := hms20.keep c29 (fun g h1 h2 h3 => by omega)
  replace hq30 := hq30.keep c29 (fun g h1 h2 h3 => by omega)
  replace hs31 := hs31.keep c29 (fun g h1 h2 h3 => by omega)
  replace hb11 := hb11.keep c29 (fun h => by omega)
  refine Rg_nil ?_
  refine W_seq ?_
  refine W_region ?_
  refine Rg_run rfl o_assignc ?_
  refine Rg_nil ?_
  refine W_seq ?_
  refine W_seq ?_
  refine W_region ?_
  refine Rg_run rfl (o_moveh (v := .slice _ _ _) rfl) ?_
  refine Rg_run rfl (o_llen Tryz.underlying46 rfl) ?_
  refine Rg_run rfl o_movec ?_
  refine Rg_nil ?_
  refine W_block ?_
  refine W_for (α := Nat) [(13, 13), (15, 15), (39, 52)] (fun k => [(39, .int .i64 (k : Int)), (13, .bool (((normS (allG m20 few)).take k).any (fun p => coversS p x.perm.act x.perm.path)))]) (fun k w' => (k ≤ (normS (allG m20 few)).length) ∧ Ext False w28 w') (fun k => (normS (allG m20 few)).length - k) 0 ⟨rfl, (congrArg Value.bool (by simp)), trivial⟩ ⟨Nat.zero_le _, Bel.refl _ _⟩ ?_
  rintro k fb33 w32 ⟨hk, hXL31⟩
  have z34 := Bel.size hXL31
  replace hX := Bel.ex hX hXL31
  replace hT := hT.ext hXL31
  replace hx := hx.ext hXL31
  replace hb5 := hb5.ext hXL31
  replace hbk20 := hbk20.ext hXL31
  replace hms20 := hms20.ext hXL31
  replace hq30 := hq30.ext hXL31
  replace hs31 := hs31.ext hXL31
  replace hb11 := hb11.ext hXL31
  replace hb12 := hb12.ext hXL31
  refine W_seq ?_
  refine W_region ?_
  refine Rg_run rfl (o_lss rfl rfl) ?_
  refine Rg_nil ?_
  refine W_seq ?_
  refine W_cond rfl (fun hc3 => ?_) (fun hc3 => ?_)
  · skip
    replace hc3 := of_decide_eq_true hc3
    refine W_skip ?_
    refine W_seq ?_
    refine W_block ?_
    refine W_seq ?_
    refine W_region ?_
    refine Rg_run rfl (o_iaR Tryz.underlying46 Tryz.sizeOf52 hs31 rfl rfl (by first | omega | (unfold I64; omega) | (simp; done) | (simp; omega) | (simp at *; omega))) ?_
    refine Rg_run rfl (o_ldRS Tryz.isAgg52 Tryz.sizeOf52 hs31 rfl (getE pz (by omega))) ?_
    refine Rg_alst rfl rfl Tryz.zeroValue52 rfl Tryz.sizeOf52 (fun _ => rfl) rfl rfl ?_
    intro b15 w35 x36 hge15 hb15
    have hlt15 := hb15.lt
    change Box _ _ _ (encP _) at hb15
    have z37 := Bel.size x36
    replace hX := Bel.ex hX x36
    replace hXL31 := Bel.ex hXL31 x36
    replace hb11 := hb11.ext x36
    refine Rg_nil ?_
    refine W_region ?_
    refine Rg_run rfl (o_moveh (v := .bool _) rfl) ?_
    refine Rg_run rfl (o_moveh (v := .bool _) rfl) ?_
    refine Rg_may 1 44 rfl rfl rfl (fun hg => (o_loadS Tryz.isAgg52 Tryz.sizeOf52 rfl hb15.at rfl)) ?_
    refine Rg_may 1 44 rfl rfl rfl (fun hg => (o_fa Tryz.underlying52 rfl Tryz.sizeOf9 rfl)) ?_
    refine Rg_may 1 44 rfl rfl rfl (fun hg => (o_load1 Tryz.isAgg9 (gsel (u := undef) hg) (hb11.at.get 0 rfl))) ?_
    refine Rg_may 1 44 rfl rfl rfl (fun hg => (o_fa Tryz.underlying52 rfl Tryz.sizeOf9 rfl)) ?_
    refine Rg_may 1 44 rfl rfl rfl (fun hg => (o_load1 Tryz.isAgg9 (gsel (u := undef) hg) (hb11.at.get 1 rfl))) ?_
    refine Rg_mayCall 1 44 rfl rfl rfl (fun hg => ⟨(o_call3 Tryz.call36 (gsel (u := undef) hg) (gsel (u := undef) hg) (gsel (u := undef) hg)), covers_ok (False) _ (normS_ok (allG_ok (s := few) hm20) _ (gm (z := pz) (show k < (normS (allG m20 few)).length by omega))) _ _ (by have := actionS_len x.act; show (actionS x.act).length ≤ _; omega) (by have := pathS_len x.names; show (pathS x.names).length ≤ _; omega) _⟩) ?_
    intro w38 x39
    have z40 := Bel.size x39
    replace hX := Bel.ex hX x39
    replace hXL31 := Bel.ex hXL31 x39
    refine Rg_run rfl (o_or (u := undef) rfl rfl) ?_
    refine Rg_run rfl (o_assignh (v := .bool _) rfl) ?_
    refine Rg_nil ?_
    refine W_region ?_
    refine Rg_run rfl (o_add rfl rfl (by have := allG_len2 hm20 few; unfold I64; omega)) ?_
    refine Rg_run rfl (o_moveh (v := .int _ _) rfl) ?_
    refine Rg_nil ?_
    refine ⟨k + 1, ⟨?_, ?_, trivial⟩, ?_, ⟨?_, hXL31⟩, ?_⟩
    · first | rfl | (go_num) | (exact congrArg _ (by omega))
    · refine congrArg Value.bool ?_
      rw [anyP_succ (by omega)]
    · repeat (first | exact off_refl _ _ | exact off_mix | refine off_put rfl ?_ | refine off_putN ?_ | refine off_setL rfl ?_ | refine off_mix' rfl ?_)
    · show k + 1 ≤ (normS (allG m20 few)).length; omega
    · omega
  · skip
    replace hc3 := of_decide_eq_false hc3
    rw [show (normS (allG m20 few)).take k = (normS (allG m20 few)) from List.take_of_length_le (by omega)]
    refine W_exit ?_
    refine exAt_hit ?_
    refine W_seq ?_
    apply W_draw (β := False) [peq _, peq _, peq _, (fun v w => Rd encP 3 (Lt w.heap.size) w v (normS (allG m20 few))), peq _, peq _, peq _, peq _, peq _, (postSV (fun _ => True) (few)), peq _, peq _, peq _, peq _, peq _, peq _, peq _, peq _] 18 mixed (by kernel_rfl) rfl ⟨peq_stable _, peq_stable _, peq_stable _, ((fun _ _ _ h x => (h.ext x).top)), peq_stable _, peq_stable _, peq_stable _, peq_stable _, peq_stable _, (postSV_stable _ _), peq_stable _, peq_stable _, peq_stable _, peq_stable _, peq_stable _, peq_stable _, peq_stable _, peq_stable _, trivial⟩ ?ob15 ?fin15
    case ob15 =>
      refine OblL_cons (fun w41 x42 => ?_) ?_
      · skip
        have z43 := Bel.size x42
        refine bindP_nil ?_
        exact OpS_v rfl (o_moveh (v := .slice _ _ _) rfl)
      refine OblL_cons (fun w44 x45 => ?_) ?_
      · skip
        have z46 := Bel.size x45
        refine bindP_nil ?_
        exact OpS_v rfl (o_moveh (v := .slice _ _ _) rfl)
      refine OblL_cons (fun w47 x48 => ?_) ?_
      · skip
        have z49 := Bel.size x48
        refine bindP_nil ?_
        exact OpS_v rfl (o_moveh (v := .int _ _) rfl)
      refine OblL_cons (fun w50 x51 => ?_) ?_
      · skip
        have z52 := Bel.size x51
        have hms20 := hms20.ext x51
        refine bindP_eq ?_
        refine bindP_eq ?_
        refine bindP_nil ?_
        exact OpS_mem rfl (o_call2 Tryz.call37 rfl rfl) ((r13all_ok _ _ _ m20 _ hms20 hm20 few).mono (fun v w2 ⟨h, x⟩ => ⟨x, h⟩))
      refine OblL_cons (fun w53 x54 => ?_) ?_
      · skip
        have z55 := Bel.size x54
        have hs31 := hs31.ext x54
        refine bindP_eq ?_
        refine bindP_mem (fun v56 hv56 => ?_)
        have hrd56 := hv56
        refine bindP_mem (fun v56 hv56 => ?_)
        have hrd56 := hv56
        refine bindP_nil ?_
        exact OpS_call rfl (o_call2 Tryz.call20 rfl rfl) (show Ok _ _ _ _ (fun v w' => v = .bool ((normS (allG m20 few)) == (normS (allG m20 few))) ∧ Ext False _ w') from lsame_ok False _ _ _ hs31.trd (by have := allG_len2 hm20 few; omega) (normS_ok (allG_ok hm20)) _ _ hrd56.top (by have := allG_len2 hm20 few; omega) (normS_ok (allG_ok hm20)))
      refine OblL_cons (fun w56 x57 => ?_) ?_
      · skip
        have z58 := Bel.size x57
        refine bindP_eq ?_
        refine bindP_eq ?_
        refine bindP_nil ?_
        exact OpS_v rfl (o_moveh (v := .bool _) rfl)
      refine OblL_cons (fun w59 x60 => ?_) ?_
      · skip
        have z61 := Bel.size x60
        refine bindP_eq ?_
        refine bindP_nil ?_
        refine OpS_on 5 58 rfl (congrArg Value.bool (beq_self_eq_true _)) ?_
        exact OpS_v rfl (o_moveh (v := .bool _) rfl)
      refine OblL_cons (fun w62 x63 => ?_) ?_
      · skip
        have z64 := Bel.size x63
        refine bindP_eq ?_
        refine bindP_nil ?_
        refine OpS_on 5 58 rfl (congrArg Value.bool (beq_self_eq_true _)) ?_
        exact OpS_v rfl (o_moveh (v := .pointer (some ⟨p20, 0, none⟩)) rfl)
      refine OblL_cons (fun w65 x66 => ?_) ?_
      · skip
        have z67 := Bel.size x66
        refine bindP_eq ?_
        refine bindP_nil ?_
        refine OpS_on 5 58 rfl (congrArg Value.bool (beq_self_eq_true _)) ?_
        exact OpS_v rfl (o_moveh (v := .int _ _) rfl)
      refine OblL_cons (fun w68 x69 => ?_) ?_
      · skip
        have z70 := Bel.size x69
        refine bindP_eq ?_
        refine bindP_eq ?_
        refine bindP_eq ?_
        refine bindP_nil ?_
        refine OpS_on 5 58 rfl (congrArg Value.bool (beq_self_eq_true _)) ?_
        exact OpS_mem rfl (o_call1 Tryz.call26 rfl) ((roles_ok few _).mono (fun v w2 ⟨a, c, e, h, x⟩ => ⟨x, a, c, e, h.mono (fun _ _ _ => trivial)⟩))
      refine OblL_cons (fun w71 x72 => ?_) ?_
      · skip
        have z73 := Bel.size x72
        refine bindP_eq ?_
        refine bindP_nil ?_
        refine OpS_on 5 58 rfl (congrArg Value.bool (beq_self_eq_true _)) ?_
        exact OpS_v rfl (o_fa Tryz.underlying52 rfl Tryz.sizeOf9 rfl)
      refine OblL_cons (fun w74 x75 => ?_) ?_
      · skip
        have z76 := Bel.size x75
        have hb11 := hb11.ext x75
        refine bindP_eq ?_
        refine bindP_eq ?_
        refine bindP_nil ?_
        refine OpS_on 5 58 rfl (congrArg Value.bool (beq_self_eq_true _)) ?_
        exact OpS_v rfl (o_load1 Tryz.isAgg9 rfl (hb11.at.get 0 rfl))
      refine OblL_cons (fun w77 x78 => ?_) ?_
      · skip
        have z79 := Bel.size x78
        refine bindP_eq ?_
        refine bindP_nil ?_
        refine OpS_on 5 58 rfl (congrArg Value.bool (beq_self_eq_true _)) ?_
        exact OpS_v rfl (o_fa Tryz.underlying52 rfl Tryz.sizeOf9 rfl)
      refine OblL_cons (fun w80 x81 => ?_) ?_
      · skip
        have z82 := Bel.size x81
        have hb11 := hb11.ext x81
        refine bindP_eq ?_
        refine bindP_eq ?_
        refine bindP_nil ?_
        refine OpS_on 5 58 rfl (congrArg Value.bool (beq_self_eq_true _)) ?_
        exact OpS_v rfl (o_load1 Tryz.isAgg9 rfl (hb11.at.get 1 rfl))
      refine OblL_cons (fun w83 x84 => ?_) ?_
      · skip
        have z85 := Bel.size x84
        have hbk20 := hbk20.ext x84
        refine bindP_eq ?_
        refine bindP_mem (fun v62 hv62 => ?_)
        obtain ⟨a62, c62, rfl, hq62⟩ := hv62
        refine bindP_eq ?_
        refine bindP_eq ?_
        refine bindP_mem (fun v62 hv62 => ?_)
        obtain ⟨a62, c62, rfl, hq62⟩ := hv62
        refine bindP_eq ?_
        refine bindP_nil ?_
        refine OpS_on 5 58 rfl (congrArg Value.bool (beq_self_eq_true _)) ?_
        exact OpS_call rfl (o_call4 Tryz.call27 rfl rfl rfl rfl) (show Ok _ _ _ _ (fun v w' => v = .bool (((covW m20 x.perm.act x.perm.path) &&& few) != 0) ∧ Ext False _ w') from ghas_ok _ _ _ hbk20.is hm20 ⟨a62, c62, few⟩ _ hq62 _ _ (by have := actionS_len x.act; show (actionS x.act).length ≤ _; omega) (by have := pathS_len x.names; show (pathS x.names).length ≤ _; omega))
      refine OblL_cons (fun w86 x87 => ?_) ?_
      · skip
        have z88 := Bel.size x87
        refine bindP_eq ?_
        refine bindP_eq ?_
        refine bindP_eq ?_
        refine bindP_nil ?_
        refine OpS_on 5 58 rfl (congrArg Value.bool (beq_self_eq_true _)) ?_
        exact OpS_v rfl (o_beql Tryz.underlying4 rfl rfl)
      refine OblL_cons (fun w89 x90 => ?_) ?_
      · skip
        have z91 := Bel.size x90
        refine bindP_eq ?_
        refine bindP_eq ?_
        refine bindP_nil ?_
        exact OpS_v rfl (o_pickT (v := .bool _) (congrArg Value.bool (beq_self_eq_true _)) rfl)
      refine OblL_cons (fun w92 x93 => ?_) ?_
      · skip
        have z94 := Bel.size x93
        refine bindP_eq ?_
        refine bindP_eq ?_
        refine bindP_eq ?_
        refine bindP_eq ?_
        refine bindP_eq ?_
        refine bindP_mem (fun v56 hv56 => ?_)
        have hrd56 := hv56
        refine bindP_eq ?_
        refine bindP_eq ?_
        refine bindP_eq ?_
        refine bindP_eq ?_
        refine bindP_eq ?_
        refine bindP_mem (fun v62 hv62 => ?_)
        obtain ⟨a62, c62, rfl, hq62⟩ := hv62
        refine bindP_eq ?_
        refine bindP_eq ?_
        refine bindP_eq ?_
        refine bindP_eq ?_
        refine bindP_eq ?_
        refine bindP_eq ?_
        refine bindP_eq ?_
        refine bindP_nil ?_
        exact OpS_v rfl (o_assignh (v := .bool _) rfl)
      exact OblL_nil
    case fin15 =>
      intro w95 x96
      have z97 := Bel.size x96
      replace hX := Bel.ex hX x96
      replace hT := hT.ext x96
      replace hx := hx.ext x96
      replace hb5 := hb5.ext x96
      replace hbk20 := hbk20.ext x96
      replace hms20 := hms20.ext x96
      replace hq30 := hq30.ext x96
      replace hs31 := hs31.ext x96
      replace hb11 := hb11.ext x96
      replace hb12 := hb12.ext x96
      refine bindP_eq ?_
      refine bindP_eq ?_
      refine bindP_eq ?_
      refine bindP_mem (fun v56 hv56 => ?_)
      have hrd56 := hv56
      refine bindP_eq ?_
      refine bindP_eq ?_
      refine bindP_eq ?_
      refine bindP_eq ?_
      refine bindP_eq ?_
      refine bindP_mem (fun v62 hv62 => ?_)
      obtain ⟨a62, c62, rfl, hq62⟩ := hv62
      refine bindP_eq ?_
      refine bindP_eq ?_
      refine bindP_eq ?_
      refine bindP_eq ?_
      refine bindP_eq ?_
      refine bindP_eq ?_
      refine bindP_eq ?_
      refine bindP_eq ?_
      refine bindP_nil ?_
      refine Rg_nil ?_
      refine W_ret ?_
      refine ⟨_, res_tmp rfl rfl, ?_⟩
      refine ⟨congrArg Value.bool ?_, hX⟩
      all_goals (rw [cov_all hm20]; exact beq_self_eq_true _)

end Go.Proofs.YtndlnfdaeipifaaGreatDoor
