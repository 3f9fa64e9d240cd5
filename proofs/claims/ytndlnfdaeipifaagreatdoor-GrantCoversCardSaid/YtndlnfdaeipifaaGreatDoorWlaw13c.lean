/- Walks, printed by program: each theorem says what a function of the translation returns. -/
import Derived.Test.YtndlnfdaeipifaaGreatDoorWawk13
namespace Go.Proofs.YtndlnfdaeipifaaGreatDoor
open Go Go.Lx Go.RowKit
set_option maxRecDepth 100000
set_option linter.unusedVariables false
set_option linter.unusedSimpArgs false
set_option linter.unnecessarySimpa false
theorem law_GrantCovers (w : World) (hT : Tb w) (v0 : Value) (l : List GOp) (hs : Rd encGo 5 (Lt w.heap.size) w v0 l) (dl : ∀ z ∈ l, Sl encB 1 (Lt w.heap.size) w z.p.a z.p.c z.p.names) (x : RawV) (hx : Sl encB 1 (Lt w.heap.size) w x.a x.c x.names) (r : UInt8) : Ok Tryz.prog 5 #[v0, .agg (encR x).toArray, .int .u8 (r.toNat : Int)] w fun v w' => v = .bool true ∧ Ext False w w' := by
  obtain ⟨a, c, rfl, hs⟩ := hs
  have hlen := hs.len
  have hTl := hT.lt
  refine Ok_of_W 60 Tryz.func5 rfl rfl rfl ?_
  have hX : Ext False w w := Bel.refl _ _
  refine W_seq ?_
  refine W_region ?_
  refine Rg_newB rfl (o_box (v := .agg _) rfl) ?_
  intro b4 w1 x2 hge4 hb4
  have hlt4 := hb4.lt
  change Box _ _ _ (encR _) at hb4
  have z3 := Bel.size x2
  replace hX := Bel.ex hX x2
  replace hT := hT.ext x2
  replace hs := hs.ext x2
  replace dl := (fun z hz => (dl z hz).ext x2)
  replace hx := hx.ext x2
  refine Rg_run rfl o_assignc ?_
  refine Rg_nil ?_
  refine W_seq ?_
  refine W_seq ?_
  refine W_region ?_
  refine Rg_enter rfl (o_call0 Tryz.call12) (Ok.mono (awake_ok _ hT) ?_)
  rintro _ w4 ⟨rfl, x5⟩
  have z6 := Bel.size x5
  replace hX := Bel.ex hX x5
  replace hT := hT.ext x5
  replace hs := hs.ext x5
  replace dl := (fun z hz => (dl z hz).ext x5)
  replace hx := hx.ext x5
  replace hb4 := hb4.ext x5
  refine Rg_run rfl (o_not rfl) ?_
  refine Rg_nil ?_
  refine W_cond_false rfl ?_
  refine W_skip ?_
  refine W_seq ?_
  refine W_region ?_
  refine Rg_run rfl (o_moveh (v := .slice _ _ _) rfl) ?_
  refine Rg_enter rfl (o_call1 Tryz.call13 rfl) (Ok.mono (lplay13_ok _ _ l hs.trd (fun z hz => (dl z hz).top)) ?_)
  rintro _ w7 ⟨⟨p17, q17, m17, rfl, hm17, hbk17, hrq17⟩, x8⟩
  have z9 := Bel.size x8
  replace hX := Bel.ex hX x8
  replace hT := hT.ext x8
  replace hs := hs.ext x8
  replace dl := (fun z hz => (dl z hz).ext x8)
  replace hx := hx.ext x8
  replace hb4 := hb4.ext x8
  refine Rg_run rfl (o_moveh (v := .tuple _) rfl) ?_
  refine Rg_run rfl (o_extract rfl rfl) ?_
  refine Rg_run rfl (o_extract rfl rfl) ?_
  refine Rg_run rfl (o_assignh (v := .pointer (some ⟨p17, 0, none⟩)) rfl) ?_
  refine Rg_run rfl (o_assignh (v := q17) rfl) ?_
  refine Rg_nil ?_
  refine W_seq ?_
  refine W_seq ?_
  refine W_region ?_
  obtain ⟨am17, cm17, hme17, hms17⟩ := hrq17
  subst hme17
  have hlm17 := hm17.len
  refine Rg_run rfl (o_moveh (v := .pointer (some ⟨p17, 0, none⟩)) rfl) ?_
  refine Rg_run rfl (o_peq Tryz.underlying25 rfl rfl) ?_
  refine Rg_nil ?_
  refine W_cond_false rfl ?_
  refine W_skip ?_
  refine W_seq ?_
  refine W_region ?_
  refine Rg_run rfl (o_loadS Tryz.isAgg51 Tryz.sizeOf51 rfl hb4.at rfl) ?_
  refine Rg_enter rfl (o_call1 Tryz.call22 rfl) (Ok.mono (make_ok _ x hx.top) ?_)
  rintro _ w10 ⟨rfl, x11⟩
  have z12 := Bel.size x11
  replace hX := Bel.ex hX x11
  replace hT := hT.ext x11
  replace hx := hx.ext x11
  replace hb4 := hb4.ext x11
  replace hbk17 := hbk17.ext x11
  replace hms17 := hms17.ext x11
  refine Rg_run rfl (o_moveh (v := .tuple _) rfl) ?_
  refine Rg_run rfl (o_extract rfl rfl) ?_
  refine Rg_run rfl (o_extract rfl rfl) ?_
  refine Rg_newB rfl (o_alloc Tryz.zeroValue52) ?_
  intro b9 w13 x14 hge9 hb9
  have hlt9 := hb9.lt
  change Box _ _ _ ([str _, str _, .bool _]) at hb9
  have z15 := Bel.size x14
  replace hX := Bel.ex hX x14
  replace hT := hT.ext x14
  replace hx := hx.ext x14
  replace hb4 := hb4.ext x14
  replace hbk17 := hbk17.ext x14
  replace hms17 := hms17.ext x14
  refine Rg_newB rfl (o_alloc Tryz.zeroValue41) ?_
  intro b10 w16 x17 hge10 hb10
  have hlt10 := hb10.lt
  change Box _ _ _ ([str _, str _, .bool _]) at hb10
  have z18 := Bel.size x17
  replace hX := Bel.ex hX x17
  replace hT := hT.ext x17
  replace hx := hx.ext x17
  replace hb4 := hb4.ext x17
  replace hbk17 := hbk17.ext x17
  replace hms17 := hms17.ext x17
  replace hb9 := hb9.ext x17
  refine Rg_storeW (v := .agg _) rfl Tryz.sizeOf52 rfl rfl hb9 rfl rfl rfl ?_
  intro w19 c20 hb9
  change Box _ _ _ (encP _) at hb9
  have z21 := Bel.size c20
  replace hX := Bel.out hX c20 (fun g h1 h2 => by first | exact h2 | omega)
  replace hT := hT.keep c20 (fun h => by omega)
  replace hx := hx.keep c20 (fun g h1 h2 h3 => by omega)
  replace hb4 := hb4.keep c20 (fun h => by omega)
  replace hbk17 := hbk17.keep c20 (fun g h1 h2 h3 => by omega)
  replace hms17 := hms17.keep c20 (fun g h1 h2 h3 => by omega)
  replace hb10 := hb10.keep c20 (fun h => by omega)
  refine Rg_storeW (v := .agg _) rfl Tryz.sizeOf41 rfl rfl hb10 rfl rfl rfl ?_
  intro w22 c23 hb10
  change Box _ _ _ (encP _) at hb10
  have z24 := Bel.size c23
  replace hX := Bel.out hX c23 (fun g h1 h2 => by first | exact h2 | omega)
  replace hT := hT.keep c23 (fun h => by omega)
  replace hx := hx.keep c23 (fun g h1 h2 h3 => by omega)
  replace hb4 := hb4.keep c23 (fun h => by omega)
  replace hbk17 := hbk17.keep c23 (fun g h1 h2 h3 => by omega)
  replace hms17 := hms17.keep c23 (fun g h1 h2 h3 => by omega)
  replace hb9 := hb9.keep c23 (fun h => by omega)
  refine Rg_nil ?_
  refine W_seq ?_
  refine W_region ?_
  refine Rg_run rfl (o_moveh (v := .slice _ _ _) rfl) ?_
  refine Rg_run rfl (o_fa Tryz.underlying41 rfl Tryz.sizeOf9 rfl) ?_
  refine Rg_run rfl (o_load1 Tryz.isAgg9 rfl (hb10.at.get 0 rfl)) ?_
  refine Rg_run rfl (o_fa Tryz.underlying41 rfl Tryz.sizeOf9 rfl) ?_
  refine Rg_run rfl (o_load1 Tryz.isAgg9 rfl (hb10.at.get 1 rfl)) ?_
  refine Rg_enter rfl (o_call3 Tryz.call23 rfl rfl rfl) (Ok.mono (r13cov_ok _ _ _ m17 _ hms17 hm17 _ _ (by have := actionS_len x.act; show (actionS x.act).length ≤ _; omega) (by have := pathS_len x.names; show (pathS x.names).length ≤ _; omega)) ?_)
  rintro _ w25 ⟨rfl, x26⟩
  have z27 := Bel.size x26
  replace hX := Bel.ex hX x26
  replace hT := hT.ext x26
  replace hx := hx.ext x26
  replace hb4 := hb4.ext x26
  replace hbk17 := hbk17.ext x26
  replace hms17 := hms17.ext x26
  replace hb9 := hb9.ext x26
  replace hb10 := hb10.ext x26
  refine Rg_run rfl (o_assignh (v := .int _ _) rfl) ?_
  refine Rg_nil ?_
  refine W_seq ?_
  refine W_region ?_
  refine Rg_run rfl (o_moveh (v := .int _ _) rfl) ?_
  refine Rg_run rfl (o_convB8 Tryz.underlying5 Tryz.underlying23 rfl) ?_
  refine Rg_run rfl (o_bandn (b := BitVec.ofNat 64 1) rfl rfl) ?_
  refine Rg_run rfl (o_assignh (v := .int _ _) rfl) ?_
  refine Rg_nil ?_
  refine W_seq ?_
  generalize hfew : (BitVec.ofNat 64 r.toNat &&& ~~~(BitVec.ofNat 64 1)) = few
  apply W_draw (β := False) [peq _, peq _, peq _, peq _, peq _, (postSV (fun _ => True) ((covW m17 x.perm.act x.perm.path))), peq _, (postSV (fun _ => True) ((covW m17 x.perm.act x.perm.path))), peq _, peq _, peq _, peq _, (postSV (fun _ => True) (few)), peq _, peq _, peq _, peq _, peq _, peq _, peq _, peq _, peq _, peq _, peq _, peq _] 25 mixed (by kernel_rfl) rfl ⟨peq_stable _, peq_stable _, peq_stable _, peq_stable _, peq_stable _, (postSV_stable _ _), peq_stable _, (postSV_stable _ _), peq_stable _, peq_stable _, peq_stable _, peq_stable _, (postSV_stable _ _), peq_stable _, peq_stable _, peq_stable _, peq_stable _, peq_stable _, peq_stable _, peq_stable _, peq_stable _, peq_stable _, peq_stable _, peq_stable _, peq_stable _, trivial⟩ ?ob9 ?fin9
  case ob9 =>
    refine OblL_cons (fun w28 x29 => ?_) ?_
    · skip
      have z30 := Bel.size x29
      refine bindP_nil ?_
      exact OpS_v rfl (o_moveh (v := .pointer (some ⟨p17, 0, none⟩)) rfl)
    refine OblL_cons (fun w31 x32 => ?_) ?_
    · skip
      have z33 := Bel.size x32
      refine bindP_nil ?_
      exact OpS_v rfl (o_fa Tryz.underlying52 rfl Tryz.sizeOf9 rfl)
    refine OblL_cons (fun w34 x35 => ?_) ?_
    · skip
      have z36 := Bel.size x35
      have hb9 := hb9.ext x35
      refine bindP_eq ?_
      refine bindP_nil ?_
      exact OpS_v rfl (o_load1 Tryz.isAgg9 rfl (hb9.at.get 0 rfl))
    refine OblL_cons (fun w37 x38 => ?_) ?_
    · skip
      have z39 := Bel.size x38
      refine bindP_nil ?_
      exact OpS_v rfl (o_fa Tryz.underlying52 rfl Tryz.sizeOf9 rfl)
    refine OblL_cons (fun w40 x41 => ?_) ?_
    · skip
      have z42 := Bel.size x41
      have hb9 := hb9.ext x41
      refine bindP_eq ?_
      refine bindP_nil ?_
      exact OpS_v rfl (o_load1 Tryz.isAgg9 rfl (hb9.at.get 1 rfl))
    refine OblL_cons (fun w43 x44 => ?_) ?_
    · skip
      have z45 := Bel.size x44
      have hbk17 := hbk17.ext x44
      refine bindP_eq ?_
      refine bindP_eq ?_
      refine bindP_eq ?_
      refine bindP_nil ?_
      exact OpS_mem rfl (o_call3 Tryz.call24 rfl rfl rfl) ((gcov_ok _ _ _ hbk17.is hm17 _ _ (by have := actionS_len x.act; show (actionS x.act).length ≤ _; omega) (by have := pathS_len x.names; show (pathS x.names).length ≤ _; omega)).mono (fun v w2 ⟨a, c, e, h, x⟩ => ⟨x, a, c, e, h.mono (fun _ _ _ => trivial)⟩))
    refine OblL_cons (fun w46 x47 => ?_) ?_
    · skip
      have z48 := Bel.size x47
      refine bindP_nil ?_
      exact OpS_v rfl (o_moveh (v := .int _ _) rfl)
    refine OblL_cons (fun w49 x50 => ?_) ?_
    · skip
      have z51 := Bel.size x50
      refine bindP_eq ?_
      refine bindP_mem (fun v41 hv41 => ?_)
      obtain ⟨a41, c41, rfl, hq41⟩ := hv41
      refine bindP_nil ?_
      exact OpS_mem rfl (o_call1 Tryz.call26 rfl) ((roles_ok (covW m17 x.perm.act x.perm.path) _).mono (fun v w2 ⟨a, c, e, h, x⟩ => ⟨x, a, c, e, h.mono (fun _ _ _ => trivial)⟩))
    refine OblL_cons (fun w52 x53 => ?_) ?_
    · skip
      have z54 := Bel.size x53
      refine bindP_mem (fun v41 hv41 => ?_)
      obtain ⟨a41, c41, rfl, hq41⟩ := hv41
      refine bindP_mem (fun v43 hv43 => ?_)
      obtain ⟨a43, c43, rfl, hq43⟩ := hv43
      refine bindP_mem (fun v43 hv43 => ?_)
      obtain ⟨a43, c43, rfl, hq43⟩ := hv43
      refine bindP_nil ?_
      exact OpS_call rfl (o_call2 Tryz.call25 rfl rfl) (show Ok _ _ _ _ (fun v w' => v = .bool ((covW m17 x.perm.act x.perm.path) == (covW m17 x.perm.act x.perm.path)) ∧ Ext False _ w') from beq_ok _ ⟨a41, c41, (covW m17 x.perm.act x.perm.path)⟩ _ hq41 ⟨a43, c43, (covW m17 x.perm.act x.perm.path)⟩ _ hq43)
    refine OblL_cons (fun w55 x56 => ?_) ?_
    · skip
      have z57 := Bel.size x56
      refine bindP_eq ?_
      refine bindP_eq ?_
      refine bindP_nil ?_
      exact OpS_v rfl (o_moveh (v := .bool _) rfl)
    refine OblL_cons (fun w58 x59 => ?_) ?_
    · skip
      have z60 := Bel.size x59
      refine bindP_eq ?_
      refine bindP_nil ?_
      refine OpS_on 9 45 rfl (congrArg Value.bool (beq_self_eq_true _)) ?_
      exact OpS_v rfl (o_moveh (v := .pointer (some ⟨p17, 0, none⟩)) rfl)
    refine OblL_cons (fun w61 x62 => ?_) ?_
    · skip
      have z63 := Bel.size x62
      refine bindP_eq ?_
      refine bindP_nil ?_
      refine OpS_on 9 45 rfl (congrArg Value.bool (beq_self_eq_true _)) ?_
      exact OpS_v rfl (o_moveh (v := .int _ _) rfl)
    refine OblL_cons (fun w64 x65 => ?_) ?_
    · skip
      have z66 := Bel.size x65
      refine bindP_eq ?_
      refine bindP_eq ?_
      refine bindP_eq ?_
      refine bindP_nil ?_
      refine OpS_on 9 45 rfl (congrArg Value.bool (beq_self_eq_true _)) ?_
      exact OpS_mem rfl (o_call1 Tryz.call26 rfl) ((roles_ok few _).mono (fun v w2 ⟨a, c, e, h, x⟩ => ⟨x, a, c, e, h.mono (fun _ _ _ => trivial)⟩))
    refine OblL_cons (fun w67 x68 => ?_) ?_
    · skip
      have z69 := Bel.size x68
      refine bindP_eq ?_
      refine bindP_nil ?_
      refine OpS_on 9 45 rfl (congrArg Value.bool (beq_self_eq_true _)) ?_
      exact OpS_v rfl (o_fa Tryz.underlying52 rfl Tryz.sizeOf9 rfl)
    refine OblL_cons (fun w70 x71 => ?_) ?_
    · skip
      have z72 := Bel.size x71
      have hb9 := hb9.ext x71
      refine bindP_eq ?_
      refine bindP_eq ?_
      refine bindP_nil ?_
      refine OpS_on 9 45 rfl (congrArg Value.bool (beq_self_eq_true _)) ?_
      exact OpS_v rfl (o_load1 Tryz.isAgg9 rfl (hb9.at.get 0 rfl))
    refine OblL_cons (fun w73 x74 => ?_) ?_
    · skip
      have z75 := Bel.size x74
      refine bindP_eq ?_
      refine bindP_nil ?_
      refine OpS_on 9 45 rfl (congrArg Value.bool (beq_self_eq_true _)) ?_
      exact OpS_v rfl (o_fa Tryz.underlying52 rfl Tryz.sizeOf9 rfl)
    refine OblL_cons (fun w76 x77 => ?_) ?_
    · skip
      have z78 := Bel.size x77
      have hb9 := hb9.ext x77
      refine bindP_eq ?_
      refine bindP_eq ?_
      refine bindP_nil ?_
      refine OpS_on 9 45 rfl (congrArg Value.bool (beq_self_eq_true _)) ?_
      exact OpS_v rfl (o_load1 Tryz.isAgg9 rfl (hb9.at.get 1 rfl))
    refine OblL_cons (fun w79 x80 => ?_) ?_
    · skip
      have z81 := Bel.size x80
      have hbk17 := hbk17.ext x80
      refine bindP_eq ?_
      refine bindP_mem (fun v48 hv48 => ?_)
      obtain ⟨a48, c48, rfl, hq48⟩ := hv48
      refine bindP_eq ?_
      refine bindP_eq ?_
      refine bindP_mem (fun v48 hv48 => ?_)
      obtain ⟨a48, c48, rfl, hq48⟩ := hv48
      refine bindP_eq ?_
      refine bindP_nil ?_
      refine OpS_on 9 45 rfl (congrArg Value.bool (beq_self_eq_true _)) ?_
      exact OpS_call rfl (o_call4 Tryz.call27 rfl rfl rfl rfl) (show Ok _ _ _ _ (fun v w' => v = .bool (((covW m17 x.perm.act x.perm.path) &&& few) != 0) ∧ Ext False _ w') from ghas_ok _ _ _ hbk17.is hm17 ⟨a48, c48, few⟩ _ hq48 _ _ (by have := actionS_len x.act; show (actionS x.act).length ≤ _; omega) (by have := pathS_len x.names; show (pathS x.names).length ≤ _; omega))
    refine OblL_cons (fun w82 x83 => ?_) ?_
    · skip
      have z84 := Bel.size x83
      refine bindP_eq ?_
      refine bindP_nil ?_
      refine OpS_on 9 45 rfl (congrArg Value.bool (beq_self_eq_true _)) ?_
      exact OpS_v rfl (o_moveh (v := .int _ _) rfl)
    refine OblL_cons (fun w85 x86 => ?_) ?_
    · skip
      have z87 := Bel.size x86
      refine bindP_eq ?_
      refine bindP_nil ?_
      refine OpS_on 9 45 rfl (congrArg Value.bool (beq_self_eq_true _)) ?_
      exact OpS_v rfl (o_moveh (v := .int _ _) rfl)
    refine OblL_cons (fun w88 x89 => ?_) ?_
    · skip
      have z90 := Bel.size x89
      refine bindP_eq ?_
      refine bindP_eq ?_
      refine bindP_eq ?_
      refine bindP_nil ?_
      refine OpS_on 9 45 rfl (congrArg Value.bool (beq_self_eq_true _)) ?_
      exact OpS_v rfl (o_band rfl rfl)
    refine OblL_cons (fun w91 x92 => ?_) ?_
    · skip
      have z93 := Bel.size x92
      refine bindP_eq ?_
      refine bindP_eq ?_
      refine bindP_nil ?_
      refine OpS_on 9 45 rfl (congrArg Value.bool (beq_self_eq_true _)) ?_
      exact OpS_v rfl (o_neU (b := BitVec.ofNat 64 0) rfl rfl)
    refine OblL_cons (fun w94 x95 => ?_) ?_
    · skip
      have z96 := Bel.size x95
      refine bindP_eq ?_
      refine bindP_eq ?_
      refine bindP_eq ?_
      refine bindP_nil ?_
      refine OpS_on 9 45 rfl (congrArg Value.bool (beq_self_eq_true _)) ?_
      exact OpS_v rfl (o_beql Tryz.underlying4 rfl rfl)
    refine OblL_cons (fun w97 x98 => ?_) ?_
    · skip
      have z99 := Bel.size x98
      refine bindP_eq ?_
      refine bindP_eq ?_
      refine bindP_nil ?_
      exact OpS_v rfl (o_pickT (v := .bool _) (congrArg Value.bool (beq_self_eq_true _)) rfl)
    refine OblL_cons (fun w100 x101 => ?_) ?_
    · skip
      have z102 := Bel.size x101
      refine bindP_eq ?_
      refine bindP_eq ?_
      refine bindP_eq ?_
      refine bindP_eq ?_
      refine bindP_eq ?_
      refine bindP_eq ?_
      refine bindP_eq ?_
      refine bindP_mem (fun v41 hv41 => ?_)
      obtain ⟨a41, c41, rfl, hq41⟩ := hv41
      refine bindP_eq ?_
      refine bindP_mem (fun v43 hv43 => ?_)
      obtain ⟨a43, c43, rfl, hq43⟩ := hv43
      refine bindP_eq ?_
      refine bindP_eq ?_
      refine bindP_eq ?_
      refine bindP_eq ?_
      refine bindP_mem (fun v48 hv48 => ?_)
      obtain ⟨a48, c48, rfl, hq48⟩ := hv48
      refine bindP_eq ?_
      refine bindP_eq ?_
      refine bindP_eq ?_
      refine bindP_eq ?_
      refine bindP_eq ?_
      refine bindP_eq ?_
      refine bindP_eq ?_
      refine bindP_eq ?_
      refine bindP_eq ?_
      refine bindP_eq ?_
      refine bindP_eq ?_
      refine bindP_nil ?_
      exact OpS_v rfl (o_assignh (v := .bool _) rfl)
    exact OblL_nil
  case fin9 =>
    intro w103 x104
    have z105 := Bel.size x104
    replace hX := Bel.ex hX x104
    replace hT := hT.ext x104
    replace hx := hx.ext x104
    replace hb4 := hb4.ext x104
    replace hbk17 := hbk17.ext x104
    replace hms17 := hms17.ext x104
    replace hb9 := hb9.ext x104
    replace hb10 := hb10.ext x104
    refine bindP_eq ?_
    refine bindP_eq ?_
    refine bindP_eq ?_
    refine bindP_eq ?_
    refine bindP_eq ?_
    refine bindP_mem (fun v41 hv41 => ?_)
    obtain ⟨a41, c41, rfl, hq41⟩ := hv41
    refine bindP_eq ?_
    refine bindP_mem (fun v43 hv43 => ?_)
    obtain ⟨a43, c43, rfl, hq43⟩ := hv43
    refine bindP_eq ?_
    refine bindP_eq ?_
    refine bindP_eq ?_
    refine bindP_eq ?_
    refine bindP_mem (fun v48 hv48 => ?_)
    obtain ⟨a48, c48, rfl, hq48⟩ := hv48
    refine bindP_eq ?_
    refine bindP_eq ?_
    refine bindP_eq ?_
    refine bindP_eq ?_
    refine bindP_eq ?_
    refine bindP_eq ?_
    refine bindP_eq ?_
    refine bindP_eq ?_
    refine bindP_eq ?_
    refine bindP_eq ?_
    refine bindP_eq ?_
    refine bindP_eq ?_
    refine bindP_nil ?_
    refine Rg_nil ?_
    refine W_ret ?_
    refine ⟨_, res_tmp rfl rfl, ?_⟩
    refine ⟨congrArg Value.bool ?_, hX⟩
    all_goals (exact beq_self_eq_true _)

end Go.Proofs.YtndlnfdaeipifaaGreatDoor
