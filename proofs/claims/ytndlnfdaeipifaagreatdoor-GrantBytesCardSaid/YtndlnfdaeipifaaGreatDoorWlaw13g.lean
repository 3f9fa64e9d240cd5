/- Walks, printed by program: each theorem says what a function of the translation returns. -/
import Derived.Test.YtndlnfdaeipifaaGreatDoorWlaw13f
namespace Go.Proofs.YtndlnfdaeipifaaGreatDoor
open Go Go.Lx Go.RowKit
set_option maxRecDepth 100000
set_option linter.unusedVariables false
set_option linter.unusedSimpArgs false
set_option linter.unnecessarySimpa false
set_option maxHeartbeats 4000000 in
theorem law_GrantBytes (w : World) (hT : Tb w) (v0 : Value) (l : List GOp) (hs : Rd encGo 5 (Lt w.heap.size) w v0 l) (dl : ∀ z ∈ l, Sl encB 1 (Lt w.heap.size) w z.p.a z.p.c z.p.names) (x y : UInt8) : Ok Tryz.prog 11 #[v0, .agg #[.int .u8 (x.toNat : Int), .int .u8 (y.toNat : Int)]] w fun v w' => v = .bool true ∧ Ext False w w' := by
  obtain ⟨a, c, rfl, hs⟩ := hs
  have hlen := hs.len
  have hTl := hT.lt
  refine Ok_of_W 88 Tryz.func11 rfl rfl rfl ?_
  have hX : Ext False w w := Bel.refl _ _
  refine W_seq ?_
  refine W_region ?_
  refine Rg_newB rfl (o_box (v := .agg _) rfl) ?_
  intro b3 w1 x2 hge3 hb3
  have hlt3 := hb3.lt
  have z3 := Bel.size x2
  replace hX := Bel.ex hX x2
  replace hT := hT.ext x2
  replace hs := hs.ext x2
  replace dl := (fun z hz => (dl z hz).ext x2)
  refine Rg_run rfl o_assignc ?_
  refine Rg_nil ?_
  refine W_seq ?_
  refine W_seq ?_
  refine W_region ?_
  change Box _ _ _ [.int .u8 (x.toNat : Int), .int .u8 (y.toNat : Int)] at hb3
  refine Rg_enter rfl (o_call0 Tryz.call12) (Ok.mono (awake_ok _ hT) ?_)
  rintro _ w4 ⟨rfl, x5⟩
  have z6 := Bel.size x5
  replace hX := Bel.ex hX x5
  replace hT := hT.ext x5
  replace hs := hs.ext x5
  replace dl := (fun z hz => (dl z hz).ext x5)
  replace hb3 := hb3.ext x5
  refine Rg_run rfl (o_not rfl) ?_
  refine Rg_nil ?_
  refine W_cond_false rfl ?_
  refine W_skip ?_
  refine W_seq ?_
  refine W_region ?_
  refine Rg_run rfl (o_moveh (v := .slice _ _ _) rfl) ?_
  refine Rg_enter rfl (o_call1 Tryz.call13 rfl) (Ok.mono (lplay13_ok _ _ l hs.trd (fun z hz => (dl z hz).top)) ?_)
  rintro _ w7 ⟨⟨p16, q16, m16, rfl, hm16, hbk16, hrq16⟩, x8⟩
  have z9 := Bel.size x8
  replace hX := Bel.ex hX x8
  replace hT := hT.ext x8
  replace hs := hs.ext x8
  replace dl := (fun z hz => (dl z hz).ext x8)
  replace hb3 := hb3.ext x8
  refine Rg_run rfl (o_moveh (v := .tuple _) rfl) ?_
  refine Rg_run rfl (o_extract rfl rfl) ?_
  refine Rg_run rfl (o_extract rfl rfl) ?_
  refine Rg_run rfl (o_assignh (v := .pointer (some ⟨p16, 0, none⟩)) rfl) ?_
  refine Rg_run rfl (o_assignh (v := q16) rfl) ?_
  refine Rg_nil ?_
  refine W_seq ?_
  refine W_seq ?_
  refine W_region ?_
  refine Rg_run rfl (o_moveh (v := .pointer (some ⟨p16, 0, none⟩)) rfl) ?_
  refine Rg_run rfl (o_peq Tryz.underlying25 rfl rfl) ?_
  refine Rg_nil ?_
  refine W_cond_false rfl ?_
  refine W_skip ?_
  refine W_seq ?_
  refine W_region ?_
  refine Rg_run rfl (o_moveh (v := .pointer (some ⟨p16, 0, none⟩)) rfl) ?_
  refine Rg_enter rfl (o_call1 Tryz.call32 rfl) (Ok.mono (gbytes_ok _ _ _ hbk16.is hm16) ?_)
  rintro v22 w10 ⟨hown22, x11⟩
  have z12 := Bel.size x11
  replace hX := Bel.ex hX x11
  replace hT := hT.ext x11
  replace hs := hs.ext x11
  replace dl := (fun z hz => (dl z hz).ext x11)
  replace hb3 := hb3.ext x11
  replace hbk16 := hbk16.ext x11
  replace hrq16 := hrq16.ext x11
  refine Rg_run rfl (o_assignh (v := v22) rfl) ?_
  refine Rg_nil ?_
  refine W_seq ?_
  refine W_region ?_
  obtain ⟨a22, c22, hv22, -⟩ := hown22.sl encB_ok
  subst hv22
  refine Rg_run rfl (o_moveh (v := .slice a22 (gbytes m16).length c22) rfl) ?_
  refine Rg_enter rfl (o_call1 Tryz.call44 rfl) (Ok.mono (grd_ok _ _ (gbytes m16) _ (hown22.trd encB_ok) (by have := gbytes_sh hm16; omega)) ?_)
  rintro _ w13 ⟨⟨p25, e25, rfl, hres25⟩, x14⟩
  have z15 := Bel.size x14
  replace hX := Bel.ex hX x14
  replace hT := hT.ext x14
  replace hs := hs.ext x14
  replace dl := (fun z hz => (dl z hz).ext x14)
  replace hb3 := hb3.ext x14
  replace hbk16 := hbk16.ext x14
  replace hrq16 := hrq16.ext x14
  replace hown22 := hown22.ext x14
  rw [readG_put hm16 hm16.sh] at hres25
  obtain ⟨he25, hk25⟩ := hres25
  subst he25
  replace hk25 := hk25.f
  refine Rg_run rfl (o_moveh (v := .tuple _) rfl) ?_
  refine Rg_run rfl (o_extract rfl rfl) ?_
  refine Rg_run rfl (o_extract rfl rfl) ?_
  refine Rg_run rfl (o_assignh (v := p25) rfl) ?_
  refine Rg_run rfl (o_assignh (v := .int _ _) rfl) ?_
  refine Rg_nil ?_
  refine W_seq ?_
  refine W_seq ?_
  refine W_region ?_
  refine Rg_run rfl (o_moveh (v := .slice a22 (gbytes m16).length c22) rfl) ?_
  refine Rg_run rfl (o_moveh (v := q16) rfl) ?_
  refine Rg_enter rfl (o_call1 Tryz.call45 rfl) (Ok.mono (r13bytes_ok _ _ m16 _ hrq16 hm16) ?_)
  rintro v30 w16 ⟨hown30, x17⟩
  have z18 := Bel.size x17
  replace hX := Bel.ex hX x17
  replace hT := hT.ext x17
  replace hs := hs.ext x17
  replace dl := (fun z hz => (dl z hz).ext x17)
  replace hb3 := hb3.ext x17
  replace hbk16 := hbk16.ext x17
  replace hrq16 := hrq16.ext x17
  replace hown22 := hown22.ext x17
  replace hk25 := hk25.ext x17
  replace hown30 := hown30.mono (D' := fun g => w.heap.size ≤ g) (fun g h1 h2 => by omega)
  refine Rg_enter rfl (o_call2 Tryz.call31 rfl rfl) (Ok.mono (r2same_ok _ _ _ _ _ _ _ (hown22.trd encB_ok) (hown30.trd encB_ok)) ?_)
  rintro _ w19 ⟨rfl, x20⟩
  have z21 := Bel.size x20
  replace hX := Bel.ex hX x20
  replace hT := hT.ext x20
  replace hs := hs.ext x20
  replace dl := (fun z hz => (dl z hz).ext x20)
  replace hb3 := hb3.ext x20
  replace hbk16 := hbk16.ext x20
  replace hrq16 := hrq16.ext x20
  replace hown22 := hown22.ext x20
  replace hk25 := hk25.ext x20
  replace hown30 := hown30.ext x20
  refine Rg_run rfl (o_not rfl) ?_
  refine Rg_run rfl (o_moveh (v := .bool _) rfl) ?_
  refine Rg_on 5 33 rfl (congrArg Value.bool (show (!((gbytes m16) == (gbytes m16))) = false by simp)) ?_
  refine Rg_run rfl (o_moveh (v := .int _ _) rfl) ?_
  refine Rg_on 5 33 rfl (congrArg Value.bool (show (!((gbytes m16) == (gbytes m16))) = false by simp)) ?_
  refine Rg_run rfl (o_neq rfl rfl) ?_
  refine Rg_run rfl (o_pickF (v := .bool _) (congrArg Value.bool (show (!((gbytes m16) == (gbytes m16))) = false by simp)) rfl) ?_
  refine Rg_run rfl (o_moveh (v := .bool _) rfl) ?_
  refine Rg_on 9 37 rfl rfl ?_
  refine Rg_run rfl (o_moveh (v := p25) rfl) ?_
  refine Rg_on 9 37 rfl rfl ?_
  refine Rg_run rfl (o_moveh (v := .pointer (some ⟨p16, 0, none⟩)) rfl) ?_
  refine Rg_on 9 37 rfl rfl ?_
  refine Rg_enter rfl (o_call2 Tryz.call28 rfl rfl) (Ok.mono (geq_ok _ _ m16 m16 _ hk25.is hbk16.is) ?_)
  rintro _ w22 ⟨rfl, x23⟩
  have z24 := Bel.size x23
  replace hX := Bel.ex hX x23
  replace hT := hT.ext x23
  replace hs := hs.ext x23
  replace dl := (fun z hz => (dl z hz).ext x23)
  replace hb3 := hb3.ext x23
  replace hbk16 := hbk16.ext x23
  replace hrq16 := hrq16.ext x23
  replace hown22 := hown22.ext x23
  replace hk25 := hk25.ext x23
  replace hown30 := hown30.ext x23
  refine Rg_on 9 37 rfl rfl ?_
  refine Rg_run rfl (o_not rfl) ?_
  refine Rg_run rfl (o_pickF (v := .bool _) rfl rfl) ?_
  refine Rg_nil ?_
  refine W_cond_false (congrArg Value.bool (show (!(m16 == m16)) = false by simp)) ?_
  refine W_skip ?_
  refine W_seq ?_
  refine W_region ?_
  obtain ⟨n43, hn43⟩ : ∃ n, n = w22.heap.size := ⟨_, rfl⟩
  replace hbk16 : GbF (fun g => g < n43) _ _ _ := hbk16.mono (fun g h1 h2 => by omega)
  replace hown22 := hown22.mono (D' := fun g => g < n43) (fun g h1 h2 => by omega)
  have hgp := gbytes_pos m16
  have hgs := gbytes_sh hm16
  have hix := Nat.mod_lt x.toNat (show 0 < (gbytes m16).length by omega)
  have hx8 := x.toNat_lt
  refine Rg_bs (vs := []) (([] : List UInt8)) rfl encB_ok el_b8 rfl rfl trivial rfl rfl rfl rfl ?_
  intro a43 w25 x26 hown43
  have z27 := Bel.size x26
  replace hX := Bel.ex hX x26
  replace hT := hT.ext x26
  replace hb3 := hb3.ext x26
  replace hbk16 := hbk16.ext x26
  replace hown22 := hown22.ext x26
  replace hown30 := hown30.ext x26
  replace hown43 := hown43.mono (D' := fun g => n43 ≤ g) (fun g h1 h2 => by omega)
  refine Rg_run rfl (o_moveh (v := .slice a22 (gbytes m16).length c22) rfl) ?_
  refine Rg_app rfl encB_ok el_b8 rfl rfl hown43 (hown22.slA encB_ok) rfl (by simp; have := gbytes_sh hm16; omega) (fun g h => by omega) ?_
  intro v45 w28 x29 hown43
  have z30 := Bel.size x29
  replace hX := Bel.out hX x29 (fun g h1 h2 => by first | exact h2 | omega)
  replace hT := hT.keep x29 (fun h => by omega)
  replace hb3 := hb3.keep x29 (fun h => by omega)
  replace hbk16 := hbk16.keep x29 (fun g h1 h2 h3 => by omega)
  replace hown22 := hown22.keepD x29 (fun g h1 h2 h3 => by omega)
  refine Rg_run rfl (o_assignh (v := v45) rfl) ?_
  refine Rg_nil ?_
  refine W_seq ?_
  rw [List.nil_append] at hown43
  obtain ⟨a45, c45, hv45, -⟩ := hown43.sl encB_ok
  subst hv45
  apply W_draw (β := False) [peq _, peq _, peq _, peq _, peq _, peq _, peq _, peq _, peq _, peq _] 10 mixed (by kernel_rfl) rfl ⟨peq_stable _, peq_stable _, peq_stable _, peq_stable _, peq_stable _, peq_stable _, peq_stable _, peq_stable _, peq_stable _, peq_stable _, trivial⟩ ?ob11 ?fin11
  case ob11 =>
    refine OblL_cons (fun w31 x32 => ?_) ?_
    · skip
      have z33 := Bel.size x32
      refine bindP_nil ?_
      exact OpS_v rfl (o_moveh (v := .slice a45 (gbytes m16).length c45) rfl)
    refine OblL_cons (fun w34 x35 => ?_) ?_
    · skip
      have z36 := Bel.size x35
      refine bindP_nil ?_
      exact OpS_v rfl (o_iaA (i := 0) Tryz.underlying88 Tryz.sizeOf5 rfl rfl (by decide))
    refine OblL_cons (fun w37 x38 => ?_) ?_
    · skip
      have z39 := Bel.size x38
      have hb3 := hb3.ext x38
      refine bindP_eq ?_
      refine bindP_nil ?_
      exact OpS_v rfl (o_load1 Tryz.isAgg5 rfl (hb3.at.get 0 rfl))
    refine OblL_cons (fun w40 x41 => ?_) ?_
    · skip
      have z42 := Bel.size x41
      refine bindP_eq ?_
      refine bindP_nil ?_
      exact OpS_v rfl (o_convS Tryz.underlying5 Tryz.underlying3 rfl (wrapB _))
    refine OblL_cons (fun w43 x44 => ?_) ?_
    · skip
      have z45 := Bel.size x44
      refine bindP_nil ?_
      exact OpS_v rfl (o_moveh (v := .slice a45 (gbytes m16).length c45) rfl)
    refine OblL_cons (fun w46 x47 => ?_) ?_
    · skip
      have z48 := Bel.size x47
      have hown43 := hown43.ext x47
      refine bindP_eq ?_
      refine bindP_nil ?_
      exact OpS_v rfl (o_llenO Tryz.underlying49 rfl hown43)
    refine OblL_cons (fun w49 x50 => ?_) ?_
    · skip
      have z51 := Bel.size x50
      refine bindP_eq ?_
      refine bindP_eq ?_
      refine bindP_nil ?_
      exact OpS_v rfl (o_remN (a := x.toNat) (b := (gbytes m16).length) rfl rfl (by omega) (by omega))
    refine OblL_cons (fun w52 x53 => ?_) ?_
    · skip
      have z54 := Bel.size x53
      refine bindP_nil ?_
      exact OpS_v rfl (o_iaA (i := 1) Tryz.underlying88 Tryz.sizeOf5 rfl rfl (by decide))
    refine OblL_cons (fun w55 x56 => ?_) ?_
    · skip
      have z57 := Bel.size x56
      have hb3 := hb3.ext x56
      refine bindP_eq ?_
      refine bindP_nil ?_
      exact OpS_v rfl (o_load1 Tryz.isAgg5 rfl (hb3.at.get 1 rfl))
    refine OblL_cons (fun w58 x59 => ?_) ?_
    · skip
      have z60 := Bel.size x59
      have hown43 := hown43.ext x59
      refine bindP_eq ?_
      refine bindP_eq ?_
      refine bindP_eq ?_
      refine bindP_eq ?_
      refine bindP_eq ?_
      refine bindP_eq ?_
      refine bindP_eq ?_
      refine bindP_eq ?_
      refine bindP_eq ?_
      refine bindP_eq ?_
      refine bindP_eq ?_
      refine bindP_nil ?_
      exact OpS_v rfl (o_iaO (i := (x.toNat % (gbytes m16).length)) Tryz.underlying49 Tryz.sizeOf5 hown43 rfl rfl (by omega))
    exact OblL_nil
  case fin11 =>
    intro w61 x62
    have z63 := Bel.size x62
    replace hX := Bel.ex hX x62
    replace hT := hT.ext x62
    replace hb3 := hb3.ext x62
    replace hbk16 := hbk16.ext x62
    replace hown22 := hown22.ext x62
    replace hown43 := hown43.ext x62
    refine bindP_eq ?_
    refine bindP_eq ?_
    refine bindP_eq ?_
    refine bindP_eq ?_
    refine bindP_eq ?_
    refine bindP_eq ?_
    refine bindP_eq ?_
    refine bindP_eq ?_
    refine bindP_eq ?_
    refine bindP_eq ?_
    refine bindP_nil ?_
    refine Rg_elst (u := y) rfl encB_ok Tryz.sizeOf5 rfl rfl rfl hown43 hix ?_
    intro w64 x65 hown43
    have z66 := Bel.size x65
    replace hX := Bel.out hX x65 (fun g h1 h2 => by first | exact h2 | omega)
    replace hT := hT.keep x65 (fun h => by omega)
    replace hb3 := hb3.keep x65 (fun h => by omega)
    replace hbk16 := hbk16.keep x65 (fun g h1 h2 h3 => by omega)
    replace hown22 := hown22.keepD x65 (fun g h1 h2 h3 => by omega)
    refine Rg_nil ?_
    refine W_seq ?_
    refine W_region ?_
    refine Rg_run rfl (o_moveh (v := .slice a45 (gbytes m16).length c45) rfl) ?_
    refine Rg_enter rfl (o_call1 Tryz.call44 rfl) (Ok.mono (grd_ok _ _ ((gbytes m16).set (x.toNat % (gbytes m16).length) y) _ (hown43.trd encB_ok) (by rw [List.length_set]; omega)) ?_)
    rintro _ w67 ⟨⟨p58, e58, rfl, hres58⟩, x68⟩
    have z69 := Bel.size x68
    replace hX := Bel.ex hX x68
    replace hT := hT.ext x68
    replace hb3 := hb3.ext x68
    replace hbk16 := hbk16.ext x68
    replace hown22 := hown22.ext x68
    replace hown43 := hown43.ext x68
    refine Rg_run rfl (o_moveh (v := .tuple _) rfl) ?_
    refine (Decidable.em (readG ((gbytes m16).set (x.toNat % (gbytes m16).length) y) = none)).elim (fun hrq => ?_) (fun hrq => ?_)
    · skip
      rw [hrq] at hres58
      obtain ⟨he58, hp58⟩ := hres58
      subst he58
      subst hp58
      refine Rg_run rfl (o_extract rfl rfl) ?_
      refine Rg_run rfl (o_extract rfl rfl) ?_
      refine Rg_run rfl (o_assignh (v := .pointer none) rfl) ?_
      refine Rg_run rfl (o_assignh (v := .int _ _) rfl) ?_
      refine Rg_nil ?_
      refine W_seq ?_
      refine W_seq ?_
      refine W_region ?_
      refine Rg_run rfl (o_moveh (v := .int _ _) rfl) ?_
      refine Rg_run rfl (o_neq rfl rfl) ?_
      refine Rg_nil ?_
      refine W_cond_true rfl ?_
      refine W_seq ?_
      refine W_region ?_
      refine Rg_run rfl (o_moveh (v := .int _ _) rfl) ?_
      refine Rg_run rfl (o_eql rfl rfl) ?_
      refine Rg_run rfl (o_moveh (v := .bool _) rfl) ?_
      refine Rg_on 2 65 rfl rfl ?_
      refine Rg_run rfl (o_moveh (v := .pointer none) rfl) ?_
      refine Rg_on 2 65 rfl rfl ?_
      refine Rg_run rfl (o_peq Tryz.underlying25 rfl rfl) ?_
      refine Rg_run rfl (o_pickT (v := .bool _) rfl rfl) ?_
      refine Rg_run rfl (o_moveh (v := .bool _) rfl) ?_
      refine Rg_on 6 69 rfl rfl ?_
      refine Rg_run rfl (o_moveh (v := .slice a22 (gbytes m16).length c22) rfl) ?_
      refine Rg_on 6 69 rfl rfl ?_
      refine Rg_run rfl (o_moveh (v := .slice a45 (gbytes m16).length c45) rfl) ?_
      refine Rg_on 6 69 rfl rfl ?_
      refine Rg_enter rfl (o_call2 Tryz.call31 rfl rfl) (Ok.mono (r2same_ok _ _ _ _ _ _ _ (hown22.trd encB_ok) (hown43.trd encB_ok)) ?_)
      rintro _ w70 ⟨rfl, x71⟩
      have z72 := Bel.size x71
      replace hX := Bel.ex hX x71
      replace hT := hT.ext x71
      replace hb3 := hb3.ext x71
      replace hbk16 := hbk16.ext x71
      replace hown22 := hown22.ext x71
      replace hown43 := hown43.ext x71
      refine Rg_on 6 69 rfl rfl ?_
      refine Rg_run rfl (o_not rfl) ?_
      refine Rg_run rfl (o_pickT (v := .bool _) rfl rfl) ?_
      refine Rg_run rfl (o_assignh (v := .bool _) rfl) ?_
      refine Rg_nil ?_
      refine W_ret ?_
      refine ⟨_, res_tmp rfl rfl, ?_⟩
      refine ⟨congrArg Value.bool ?_, hX⟩
      all_goals
        show (!((gbytes m16) == ((gbytes m16).set (x.toNat % (gbytes m16).length) y))) = true
        rw [beq_eq_false_iff_ne.2 (fun h => readG_none hm16 hm16.sh hrq h.symm)]; rfl
    · skip
      obtain ⟨m2, hm2⟩ : ∃ m2, readG ((gbytes m16).set (x.toNat % (gbytes m16).length) y) = some m2 := by
        cases hq : readG ((gbytes m16).set (x.toNat % (gbytes m16).length) y) with
        | none => exact absurd hq hrq
        | some m2 => exact ⟨m2, rfl⟩
      rw [hm2] at hres58
      obtain ⟨he58, hk58⟩ := hres58
      subst he58
      have hs2 := readG_some hm2
      refine Rg_run rfl (o_extract rfl rfl) ?_
      refine Rg_run rfl (o_extract rfl rfl) ?_
      refine Rg_run rfl (o_assignh (v := p58) rfl) ?_
      refine Rg_run rfl (o_assignh (v := .int _ _) rfl) ?_
      refine Rg_nil ?_
      refine W_seq ?_
      refine W_seq ?_
      refine W_region ?_
      refine Rg_run rfl (o_moveh (v := .int _ _) rfl) ?_
      refine Rg_run rfl (o_neq rfl rfl) ?_
      refine Rg_nil ?_
      refine W_cond_false rfl ?_
      refine W_skip ?_
      refine W_seq ?_
      refine W_region ?_
      refine Rg_run rfl (o_moveh (v := p58) rfl) ?_
      refine Rg_enter rfl (o_call1 Tryz.call32 rfl) (Ok.mono (gbytes_ok _ m2 _ hk58 hs2.1) ?_)
      rintro v76 w73 ⟨hown76, x74⟩
      have z75 := Bel.size x74
      replace hX := Bel.ex hX x74
      replace hT := hT.ext x74
      replace hb3 := hb3.ext x74
      replace hbk16 := hbk16.ext x74
      replace hown22 := hown22.ext x74
      replace hown43 := hown43.ext x74
      replace hk58 := hk58.ext x74
      replace hown76 := hown76.mono (D' := fun g => w.heap.size ≤ g) (fun g h1 h2 => by omega)
      refine Rg_run rfl (o_moveh (v := .slice a45 (gbytes m16).length c45) rfl) ?_
      refine Rg_enter rfl (o_call2 Tryz.call31 rfl rfl) (Ok.mono (r2same_ok _ _ _ _ _ _ _ (hown76.trd encB_ok) (hown43.trd encB_ok)) ?_)
      rintro _ w76 ⟨rfl, x77⟩
      have z78 := Bel.size x77
      replace hX := Bel.ex hX x77
      replace hT := hT.ext x77
      replace hb3 := hb3.ext x77
      replace hbk16 := hbk16.ext x77
      replace hown22 := hown22.ext x77
      replace hown43 := hown43.ext x77
      replace hk58 := hk58.ext x77
      replace hown76 := hown76.ext x77
      refine Rg_run rfl (o_moveh (v := .bool _) rfl) ?_
      refine Rg_on 4 79 rfl (congrArg Value.bool (by rw [hs2.2.2]; exact beq_self_eq_true _)) ?_
      refine Rg_run rfl (o_moveh (v := p58) rfl) ?_
      refine Rg_on 4 79 rfl (congrArg Value.bool (by rw [hs2.2.2]; exact beq_self_eq_true _)) ?_
      refine Rg_run rfl (o_moveh (v := .pointer (some ⟨p16, 0, none⟩)) rfl) ?_
      refine Rg_on 4 79 rfl (congrArg Value.bool (by rw [hs2.2.2]; exact beq_self_eq_true _)) ?_
      refine Rg_enter rfl (o_call2 Tryz.call28 rfl rfl) (Ok.mono (geq_ok _ _ m2 m16 _ hk58 hbk16.is) ?_)
      rintro _ w79 ⟨rfl, x80⟩
      have z81 := Bel.size x80
      replace hX := Bel.ex hX x80
      replace hT := hT.ext x80
      replace hb3 := hb3.ext x80
      replace hbk16 := hbk16.ext x80
      replace hown22 := hown22.ext x80
      replace hown43 := hown43.ext x80
      replace hk58 := hk58.ext x80
      replace hown76 := hown76.ext x80
      refine Rg_on 4 79 rfl (congrArg Value.bool (by rw [hs2.2.2]; exact beq_self_eq_true _)) ?_
      refine Rg_run rfl (o_moveh (v := .slice a22 (gbytes m16).length c22) rfl) ?_
      refine Rg_on 4 79 rfl (congrArg Value.bool (by rw [hs2.2.2]; exact beq_self_eq_true _)) ?_
      refine Rg_run rfl (o_moveh (v := .slice a45 (gbytes m16).length c45) rfl) ?_
      refine Rg_on 4 79 rfl (congrArg Value.bool (by rw [hs2.2.2]; exact beq_self_eq_true _)) ?_
      refine Rg_enter rfl (o_call2 Tryz.call31 rfl rfl) (Ok.mono (r2same_ok _ _ _ _ _ _ _ (hown22.trd encB_ok) (hown43.trd encB_ok)) ?_)
      rintro _ w82 ⟨rfl, x83⟩
      have z84 := Bel.size x83
      replace hX := Bel.ex hX x83
      replace hT := hT.ext x83
      replace hb3 := hb3.ext x83
      replace hbk16 := hbk16.ext x83
      replace hown22 := hown22.ext x83
      replace hown43 := hown43.ext x83
      replace hk58 := hk58.ext x83
      replace hown76 := hown76.ext x83
      refine Rg_on 4 79 rfl (congrArg Value.bool (by rw [hs2.2.2]; exact beq_self_eq_true _)) ?_
      refine Rg_run rfl (o_beql Tryz.underlying4 rfl rfl) ?_
      refine Rg_run rfl (o_pickT (v := .bool _) (congrArg Value.bool (by rw [hs2.2.2]; exact beq_self_eq_true _)) rfl) ?_
      refine Rg_run rfl (o_assignh (v := .bool _) rfl) ?_
      refine Rg_nil ?_
      refine W_ret ?_
      refine ⟨_, res_tmp rfl rfl, ?_⟩
      refine ⟨congrArg Value.bool ?_, hX⟩
      all_goals (exact gb_law hm16 hs2.1 hs2.2.2)

end Go.Proofs.YtndlnfdaeipifaaGreatDoor
