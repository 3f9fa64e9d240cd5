/- Walks, printed by program: each theorem says what a function of the translation returns. -/
import Derived.Test.YtncmjgmlnnenhaaGreatDoorWref22
import Derived.Test.YtncmjgmlnnenhaaGreatDoorWlaw22g
import Derived.Test.YtncmjgmlnnenhaaGreatDoorWplay13
import Derived.Test.YtncmjgmlnnenhaaGreatDoorGr
namespace Go.Proofs.YtncmjgmlnnenhaaGreatDoor
open Go Go.Lx Go.RowKit
set_option maxRecDepth 100000
set_option linter.unusedVariables false
set_option linter.unusedSimpArgs false
set_option linter.unnecessarySimpa false
set_option maxHeartbeats 8000000 in
theorem law_SessionGrants (w : World) (hT : Tb w) (v0 : Value) (l : List SOp) (hs : Rd encOp 4 (Lt w.heap.size) w v0 l) (hol : ∀ o ∈ l, I64 o.r) (v1 : Value) (gl : List GOp) (hk : Rd encGo 5 (Lt w.heap.size) w v1 gl) (dk : ∀ z ∈ gl, Sl encB 1 (Lt w.heap.size) w z.p.a z.p.c z.p.names) (y0 y1 y2 : W64) : Ok Tryz.prog 6 #[v0, v1, .agg #[u64 y0, u64 y1, u64 y2]] w fun v w' => v = .bool true ∧ Ext False w w' := by
  obtain ⟨a, c, rfl, hs⟩ := hs
  have hlen := hs.len
  obtain ⟨a1, c1, rfl, hk⟩ := hk
  have hlenk := hk.len
  have hTl := hT.lt
  refine Ok_of_W 101 Tryz.func6 rfl rfl rfl ?_
  have hX : Ext False w w := Bel.refl _ _
  refine W_seq (W_region ?_)
  refine Rg_newB rfl (o_box (v := .agg _) rfl) ?_
  intro b5 w1 x2 hge5 hb5
  have hlt5 := hb5.lt
  have z3 := Bel.size x2
  replace hX := Bel.ex hX x2
  replace hT := hT.ext x2
  replace hs := hs.ext x2
  replace hk := hk.ext x2
  replace dk := (fun z hz => (dk z hz).ext x2)
  refine Rg_run rfl o_assignc ?_
  refine Rg_nil (W_seq (W_seq (W_region ?_)))
  change Box _ _ _ [u64 y0, u64 y1, u64 y2] at hb5
  refine Rg_enter rfl (o_call0 Tryz.call7) (Ok.mono (awake_ok _ hT) ?_)
  rintro _ w4 ⟨rfl, x5⟩
  have z6 := Bel.size x5
  replace hX := Bel.ex hX x5
  replace hT := hT.ext x5
  replace hs := hs.ext x5
  replace hk := hk.ext x5
  replace dk := (fun z hz => (dk z hz).ext x5)
  replace hb5 := hb5.ext x5
  refine Rg_run rfl (o_not rfl) ?_
  refine Rg_nil ?_
  refine W_cond_false rfl ?_
  refine W_skip (W_seq (W_region ?_))
  refine Rg_run rfl (o_moveh (v := .slice _ _ _) rfl) ?_
  refine Rg_enter rfl (o_call1 Tryz.call8 rfl) (Ok.mono (lplay_ok _ _ _ _ _ hs hol) ?_)
  rintro _ w7 ⟨⟨p26, q26, m26, rfl, hm26, hbk26, hrq26⟩, x8⟩
  have z9 := Bel.size x8
  replace hX := Bel.ex hX x8
  replace hT := hT.ext x8
  replace hs := hs.ext x8
  replace hk := hk.ext x8
  replace dk := (fun z hz => (dk z hz).ext x8)
  replace hb5 := hb5.ext x8
  refine Rg_run rfl (o_moveh (v := .tuple _) rfl) ?_
  refine Rg_run rfl (o_extract rfl rfl) ?_
  refine Rg_run rfl (o_extract rfl rfl) ?_
  refine Rg_run rfl (o_assignh (v := p26) rfl) ?_
  refine Rg_run rfl (o_assignh (v := q26) rfl) ?_
  refine Rg_nil (W_seq (W_region ?_))
  refine Rg_run rfl (o_moveh (v := .slice _ _ _) rfl) ?_
  refine Rg_enter rfl (o_call1 Tryz.call22 rfl) (Ok.mono (lplay13_ok _ _ gl hk.trd (fun z hz => (dk z hz).top)) ?_)
  rintro _ w10 ⟨⟨p31, q31, m31, rfl, hm31, hbk31, hrq31⟩, x11⟩
  have z12 := Bel.size x11
  replace hX := Bel.ex hX x11
  replace hT := hT.ext x11
  replace hs := hs.ext x11
  replace hk := hk.ext x11
  replace dk := (fun z hz => (dk z hz).ext x11)
  replace hb5 := hb5.ext x11
  replace hbk26 := hbk26.ext x11
  replace hrq26 := (hrq26.ext x11).top
  obtain ⟨pb, b, hpe, hqpb, hmm⟩ := hbk26
  subst hpe
  subst hmm
  refine Rg_run rfl (o_moveh (v := .tuple _) rfl) ?_
  refine Rg_run rfl (o_extract rfl rfl) ?_
  refine Rg_run rfl (o_extract rfl rfl) ?_
  refine Rg_run rfl (o_assignh (v := .pointer (some ⟨p31, 0, none⟩)) rfl) ?_
  refine Rg_run rfl (o_assignh (v := q31) rfl) ?_
  refine Rg_nil (W_seq (W_region ?_))
  refine Rg_run rfl (o_iaA (i := 0) Tryz.underlying60 Tryz.sizeOf50 rfl rfl (by decide)) ?_
  refine Rg_run rfl (o_load1 Tryz.isAgg50 rfl (hb5.at.get 0 rfl)) ?_
  refine Rg_enter rfl (o_call1 Tryz.call23 rfl) (Ok.mono (lkmake_ok _ _ hT) ?_)
  rintro _ w13 ⟨⟨h37, l37, L37, ρ37, rfl, hh37, hrl37, hlk37⟩, x14⟩
  have z15 := Bel.size x14
  replace hX := Bel.ex hX x14
  replace hT := hT.ext x14
  replace hk := hk.ext x14
  replace dk := (fun z hz => (dk z hz).ext x14)
  replace hb5 := hb5.ext x14
  replace hbk31 := hbk31.ext x14
  replace hrq31 := hrq31.ext x14
  replace hqpb := hqpb.ext x14
  refine Rg_run rfl (o_moveh (v := .tuple _) rfl) ?_
  refine Rg_run rfl (o_extract rfl rfl) ?_
  refine Rg_run rfl (o_extract rfl rfl) ?_
  refine Rg_run rfl (o_assignh (v := h37) rfl) ?_
  refine Rg_run rfl (o_assignh (v := l37) rfl) ?_
  refine Rg_nil (W_seq (W_seq (W_region ?_)))
  obtain ⟨ph, po, oo, hhe, hh1, hh2, hh3⟩ := hh37
  subst hhe
  refine Rg_run rfl (o_moveh (v := .pointer (some ⟨pb, 0, none⟩)) rfl) ?_
  refine Rg_run rfl (o_peq Tryz.underlying26 rfl rfl) ?_
  refine Rg_run rfl (o_moveh (v := .bool _) rfl) ?_
  refine Rg_on 2 42 rfl rfl ?_
  refine Rg_run rfl (o_moveh (v := .pointer (some ⟨p31, 0, none⟩)) rfl) ?_
  refine Rg_on 2 42 rfl rfl ?_
  refine Rg_run rfl (o_peq Tryz.underlying61 rfl rfl) ?_
  refine Rg_run rfl (o_pickF (v := .bool _) rfl rfl) ?_
  refine Rg_run rfl (o_moveh (v := .bool _) rfl) ?_
  refine Rg_on 6 46 rfl rfl ?_
  refine Rg_run rfl (o_moveh (v := .pointer (some ⟨ph, 0, none⟩)) rfl) ?_
  refine Rg_on 6 46 rfl rfl ?_
  refine Rg_run rfl (o_peq Tryz.underlying65 rfl rfl) ?_
  refine Rg_run rfl (o_pickF (v := .bool _) rfl rfl) ?_
  refine Rg_nil ?_
  refine W_cond_false rfl ?_
  refine W_skip (W_seq (W_region ?_))
  refine Rg_run rfl (o_iaA (i := 1) Tryz.underlying60 Tryz.sizeOf50 rfl rfl (by decide)) ?_
  refine Rg_run rfl (o_load1 Tryz.isAgg50 rfl (hb5.at.get 1 rfl)) ?_
  refine Rg_run rfl (o_band (b := BitVec.ofNat 64 126) rfl rfl) ?_
  generalize hfew : (y1 &&& BitVec.ofNat 64 126) = few
  refine Rg_enter rfl (o_call1 Tryz.call24 rfl) (Ok.mono (roles_ok few _) ?_)
  rintro _ w16 ⟨a53, c53, rfl, hq53, x17⟩
  have z18 := Bel.size x17
  replace hX := Bel.ex hX x17
  replace hT := hT.ext x17
  replace hb5 := hb5.ext x17
  replace hbk31 := hbk31.ext x17
  replace hqpb := hqpb.ext x17
  replace hh1 := hh1.ext x17
  replace hh2 := hh2.ext x17
  refine Rg_alst rfl rfl Tryz.zeroValue36 rfl Tryz.sizeOf36 (fun _ => rfl) rfl rfl ?_
  intro b13 w19 x20 hge13 hb13
  have hlt13 := hb13.lt
  change Box _ _ _ (encSV _) at hb13
  have z21 := Bel.size x20
  replace hX := Bel.ex hX x20
  replace hT := hT.ext x20
  replace hb5 := hb5.ext x20
  replace hbk31 := hbk31.ext x20
  replace hqpb := hqpb.ext x20
  replace hh1 := hh1.ext x20
  replace hh2 := hh2.ext x20
  replace hq53 := hq53.ext x20
  refine Rg_nil (W_seq (W_region ?_))
  refine Rg_run rfl (o_moveh (v := .pointer (some ⟨p31, 0, none⟩)) rfl) ?_
  refine Rg_run rfl (o_moveh (v := .pointer (some ⟨ph, 0, none⟩)) rfl) ?_
  refine Rg_run rfl (o_loadS Tryz.isAgg36 Tryz.sizeOf36 rfl hb13.at rfl) ?_
  refine Rg_enter rfl (o_call2 Tryz.call26 rfl rfl) (Ok.mono (hclos_ok (some ⟨ph, 0, none⟩) (some oo) (fun _ => True) ⟨a53, c53, few⟩ _ _ ⟨ph, po, rfl, trivial, hh1, hh2.mono (fun _ _ _ => trivial)⟩ hq53 hT) ?_)
  rintro _ w22 ⟨a57, c57, rfl, hq57, x23⟩
  have z24 := Bel.size x23
  replace hX := Bel.ex hX x23
  replace hT := hT.ext x23
  replace hb5 := hb5.ext x23
  replace hbk31 := hbk31.ext x23
  replace hqpb := hqpb.ext x23
  replace hh1 := hh1.ext x23
  replace hh2 := hh2.ext x23
  replace hq53 := hq53.ext x23
  replace hb13 := hb13.ext x23
  refine Rg_enter rfl (o_call2 Tryz.call25 rfl rfl) (Ok.mono (gall_ok _ _ _ hbk31.is hm31 ⟨a57, c57, closW oo few⟩ _ hq57) ?_)
  rintro v58 w25 ⟨hown58, x26⟩
  have z27 := Bel.size x26
  replace hX := Bel.ex hX x26
  replace hT := hT.ext x26
  replace hb5 := hb5.ext x26
  replace hbk31 := hbk31.ext x26
  replace hqpb := hqpb.ext x26
  replace hh1 := hh1.ext x26
  replace hh2 := hh2.ext x26
  replace hq53 := hq53.ext x26
  replace hb13 := hb13.ext x26
  replace hq57 := hq57.ext x26
  change Own _ _ _ _ _ _ ((normS (allG m31 (closW oo few)))) at hown58; obtain ⟨a58, c58, hv58, hs58⟩ := hown58.sl encP_ok; subst hv58
  refine Rg_run rfl (o_assignh (v := .slice _ _ _) rfl) ?_
  refine Rg_nil (W_seq (W_seq (W_region ?_)))
  refine Rg_run rfl (o_moveh (v := .pointer (some ⟨pb, 0, none⟩)) rfl) ?_
  refine Rg_enter rfl (o_call1 Tryz.call10 rfl) (Ok.mono (slist_ok _ _ _ hqpb.is hm26) ?_)
  rintro v60 w28 ⟨⟨l60, hown60, hws60, hl60⟩, x29⟩
  have z30 := Bel.size x29
  replace hX := Bel.ex hX x29
  replace hT := hT.ext x29
  replace hb5 := hb5.ext x29
  replace hbk31 := hbk31.ext x29
  replace hqpb := hqpb.ext x29
  replace hh1 := hh1.ext x29
  replace hh2 := hh2.ext x29
  replace hq53 := hq53.ext x29
  replace hb13 := hb13.ext x29
  replace hq57 := hq57.ext x29
  replace hs58 := hs58.ext x29
  replace hown60 := hown60.mono (D' := fun g => w.heap.size ≤ g) (fun g h1 h2 => by omega)
  have hll60 := congrArg List.length hl60
  rw [List.length_map] at hll60
  obtain ⟨a60, c60, hv60, -⟩ := hown60.sl encSe_ok
  subst hv60
  have hrg : ∀ j : Nat, j < l60.length → -1000 ≤ (l60.getD j sez).n ∧ (l60.getD j sez).n ≤ 1000 := fun j hj => by
    have h1 := hm26.rng _ (gm (z := rz) (show j < b.m.length by omega))
    rw [← hl60, rs_get] at h1
    have h2 : (l60.getD j sez).rs.n = (l60.getD j sez).n := rfl
    rw [h2] at h1; omega
  refine Rg_run rfl (o_llenO Tryz.underlying32 rfl hown60) ?_
  refine Rg_run rfl o_movec ?_
  refine Rg_nil (W_block ?_)
  refine W_for (α := Nat) [(6, 6), (16, 16), (18, 19), (21, 21), (62, 95)] (fun k => [(62, .int .i64 (k : Int))]) (fun k w' => (k ≤ l60.length) ∧ Ext False w28 w') (fun k => l60.length - k) 0 ⟨rfl, trivial⟩ ⟨Nat.zero_le _, Bel.refl _ _⟩ ?_
  rintro k fb33 w32 ⟨hk0, hXL31⟩
  have z34 := Bel.size hXL31
  replace hX := Bel.ex hX hXL31
  replace hT := hT.ext hXL31
  replace hb5 := hb5.ext hXL31
  replace hbk31 := hbk31.ext hXL31
  replace hqpb := hqpb.ext hXL31
  replace hh1 := hh1.ext hXL31
  replace hh2 := hh2.ext hXL31
  replace hq53 := hq53.ext hXL31
  replace hb13 := hb13.ext hXL31
  replace hq57 := hq57.ext hXL31
  replace hs58 := hs58.ext hXL31
  replace hown60 := hown60.ext hXL31
  replace hws60 := hws60.ext hXL31
  refine W_seq (W_region ?_)
  refine Rg_run rfl (o_lss rfl rfl) ?_
  refine Rg_nil (W_seq ?_)
  refine W_cond rfl (fun hc3 => ?_) (fun hc3 => ?_)
  · skip
    replace hc3 := of_decide_eq_true hc3
    refine W_skip (W_seq (W_block (W_seq (W_region ?_))))
    refine Rg_run rfl (o_iaR Tryz.underlying32 Tryz.sizeOf38 (hown60.slA encSe_ok) rfl rfl (by first | omega | (unfold I64; omega) | (simp; done) | (simp; omega) | (simp at *; omega))) ?_
    refine Rg_run rfl (o_ldRS Tryz.isAgg38 Tryz.sizeOf38 (hown60.slA encSe_ok) rfl (getE sez (by omega))) ?_
    refine Rg_alst rfl rfl Tryz.zeroValue38 rfl Tryz.sizeOf38 (fun _ => rfl) rfl rfl ?_
    intro b16 w35 x36 hge16 hb16
    have hlt16 := hb16.lt
    change Box _ _ _ (encSe _) at hb16
    have z37 := Bel.size x36
    replace hX := Bel.ex hX x36
    replace hXL31 := Bel.ex hXL31 x36
    replace hT := hT.ext x36
    replace hbk31 := hbk31.ext x36
    replace hqpb := hqpb.ext x36
    replace hh1 := hh1.ext x36
    replace hh2 := hh2.ext x36
    replace hq53 := hq53.ext x36
    replace hb13 := hb13.ext x36
    replace hs58 := hs58.ext x36
    refine Rg_nil (W_seq (W_region ?_))
    refine Rg_run rfl (o_moveh (v := .pointer (some ⟨p31, 0, none⟩)) rfl) ?_
    refine Rg_run rfl (o_moveh (v := .pointer (some ⟨pb, 0, none⟩)) rfl) ?_
    obtain ⟨e1, he1⟩ : ∃ e, effW (fun y => closH (some oo) (memW y 64)) b.m (l60.getD k sez).n few = e := ⟨_, rfl⟩
    have hsub : subW e1 (closW oo few) = true := by rw [← he1]; exact effW_sub hh3 _ _ _
    refine Rg_run rfl (o_fa Tryz.underlying38 rfl Tryz.sizeOf3 rfl) ?_
    refine Rg_run rfl (o_load1 Tryz.isAgg3 rfl (hb16.at.get 0 rfl)) ?_
    refine Rg_run rfl (o_loadS Tryz.isAgg36 Tryz.sizeOf36 rfl hb13.at rfl) ?_
    refine Rg_run rfl (o_moveh (v := .pointer (some ⟨ph, 0, none⟩)) rfl) ?_
    refine Rg_enter rfl (o_call4 Tryz.call27 rfl rfl rfl rfl) (Ok.mono (seffE_ok _ b.m _ hqpb.is hm26 (l60.getD k sez).n (hrg k (by omega)) ⟨a53, c53, few⟩ _ hq53 (some ⟨ph, 0, none⟩) (some oo) (fun _ => True) ⟨ph, po, rfl, trivial, hh1, hh2.mono (fun _ _ _ => trivial)⟩ hT he1) ?_)
    rintro _ w38 ⟨⟨a72, c72, rfl, hq72⟩, x39⟩
    have z40 := Bel.size x39
    replace hX := Bel.ex hX x39
    replace hXL31 := Bel.ex hXL31 x39
    replace hbk31 := hbk31.ext x39
    replace hs58 := hs58.ext x39
    refine Rg_enter rfl (o_call2 Tryz.call25 rfl rfl) (Ok.mono (gall_ok _ _ _ hbk31.is hm31 ⟨a72, c72, e1⟩ _ hq72) ?_)
    rintro v73 w41 ⟨hown73, x42⟩
    have z43 := Bel.size x42
    replace hX := Bel.ex hX x42
    replace hXL31 := Bel.ex hXL31 x42
    replace hs58 := hs58.ext x42
    change Own _ _ _ _ _ _ ((normS (allG m31 e1))) at hown73; obtain ⟨a73, c73, hv73, hs73⟩ := hown73.sl encP_ok; subst hv73
    refine Rg_run rfl (o_llen Tryz.underlying70 rfl) ?_
    refine Rg_run rfl o_movec ?_
    refine Rg_nil (W_block ?_)
    refine W_for (α := Nat) [(6, 6), (18, 19), (21, 21), (75, 94)] (fun j => [(75, .int .i64 (j : Int))]) (fun j w' => (j ≤ (normS (allG m31 e1)).length) ∧ Ext False w41 w') (fun j => (normS (allG m31 e1)).length - j) 0 ⟨rfl, trivial⟩ ⟨Nat.zero_le _, Bel.refl _ _⟩ ?_
    rintro j fb46 w45 ⟨hj0, hXL44⟩
    have z47 := Bel.size hXL44
    replace hX := Bel.ex hX hXL44
    replace hXL31 := Bel.ex hXL31 hXL44
    replace hs58 := hs58.ext hXL44
    replace hs73 := hs73.ext hXL44
    refine W_seq (W_region ?_)
    refine Rg_run rfl (o_lss rfl rfl) ?_
    refine Rg_nil (W_seq ?_)
    refine W_cond rfl (fun hc4 => ?_) (fun hc4 => ?_)
    · skip
      replace hc4 := of_decide_eq_true hc4
      refine W_skip (W_seq (W_block (W_seq (W_region ?_))))
      refine Rg_run rfl (o_iaR Tryz.underlying70 Tryz.sizeOf75 hs73 rfl rfl (by first | omega | (unfold I64; omega) | (simp; done) | (simp; omega) | (simp at *; omega))) ?_
      refine Rg_run rfl (o_ldRS Tryz.isAgg75 Tryz.sizeOf75 hs73 rfl (getE pz (by omega))) ?_
      refine Rg_alst rfl rfl Tryz.zeroValue75 rfl Tryz.sizeOf75 (fun _ => rfl) rfl rfl ?_
      intro b18 w48 x49 hge18 hb18
      have hlt18 := hb18.lt
      change Box _ _ _ (encP _) at hb18
      have z50 := Bel.size x49
      replace hX := Bel.ex hX x49
      replace hXL31 := Bel.ex hXL31 x49
      replace hXL44 := Bel.ex hXL44 x49
      replace hs58 := hs58.ext x49
      refine Rg_nil (W_seq (W_region ?_))
      refine Rg_run rfl o_assignc ?_
      refine Rg_nil (W_seq (W_seq (W_region ?_)))
      refine Rg_run rfl (o_moveh (v := .slice _ _ _) rfl) ?_
      refine Rg_run rfl (o_llen Tryz.underlying70 rfl) ?_
      refine Rg_run rfl o_movec ?_
      refine Rg_nil (W_block ?_)
      refine W_for (α := Nat) [(19, 19), (21, 21), (81, 91)] (fun i => [(81, .int .i64 (i : Int)), (19, .bool (((normS (allG m31 (closW oo few))).take i).any (fun q => impliesS q ((normS (allG m31 e1)).getD j pz))))]) (fun i w' => (i ≤ (normS (allG m31 (closW oo few))).length) ∧ Ext False w48 w') (fun i => (normS (allG m31 (closW oo few))).length - i) 0 ⟨rfl, (congrArg Value.bool (by simp)), trivial⟩ ⟨Nat.zero_le _, Bel.refl _ _⟩ ?_
      rintro i fb53 w52 ⟨hi0, hXL51⟩
      have z54 := Bel.size hXL51
      replace hX := Bel.ex hX hXL51
      replace hXL31 := Bel.ex hXL31 hXL51
      replace hXL44 := Bel.ex hXL44 hXL51
      replace hs58 := hs58.ext hXL51
      replace hb18 := hb18.ext hXL51
      refine W_seq (W_region ?_)
      refine Rg_run rfl (o_lss rfl rfl) ?_
      refine Rg_nil (W_seq ?_)
      refine W_cond rfl (fun hc5 => ?_) (fun hc5 => ?_)
      · skip
        replace hc5 := of_decide_eq_true hc5
        refine W_skip (W_seq (W_block (W_seq (W_region ?_))))
        refine Rg_run rfl (o_iaR Tryz.underlying70 Tryz.sizeOf75 hs58 rfl rfl (by first | omega | (unfold I64; omega) | (simp; done) | (simp; omega) | (simp at *; omega))) ?_
        refine Rg_run rfl (o_ldRS Tryz.isAgg75 Tryz.sizeOf75 hs58 rfl (getE pz (by omega))) ?_
        refine Rg_alst rfl rfl Tryz.zeroValue75 rfl Tryz.sizeOf75 (fun _ => rfl) rfl rfl ?_
        intro b21 w55 x56 hge21 hb21
        have hlt21 := hb21.lt
        change Box _ _ _ (encP _) at hb21
        have z57 := Bel.size x56
        replace hX := Bel.ex hX x56
        replace hXL31 := Bel.ex hXL31 x56
        replace hXL44 := Bel.ex hXL44 x56
        replace hXL51 := Bel.ex hXL51 x56
        replace hb18 := hb18.ext x56
        refine Rg_nil (W_region ?_)
        refine Rg_run rfl (o_moveh (v := .bool _) rfl) ?_
        refine Rg_run rfl (o_moveh (v := .bool _) rfl) ?_
        refine Rg_may 1 86 rfl rfl rfl (fun hg => (o_loadS Tryz.isAgg75 Tryz.sizeOf75 rfl hb21.at rfl)) ?_
        refine Rg_may 1 86 rfl rfl rfl (fun hg => (o_loadS Tryz.isAgg75 Tryz.sizeOf75 rfl hb18.at rfl)) ?_
        refine Rg_mayCall 1 86 rfl rfl rfl (fun hg => ⟨(o_call2 Tryz.call28 (gsel (u := undef) hg) (gsel (u := undef) hg)), implies_ok (False) _ (normS_ok (allG_ok hm31) _ (gm (z := pz) (show i < (normS (allG m31 (closW oo few))).length by omega))) _ (normS_ok (allG_ok hm31) _ (gm (z := pz) (show j < (normS (allG m31 e1)).length by omega))) _⟩) ?_
        intro w58 x59
        have z60 := Bel.size x59
        replace hX := Bel.ex hX x59
        replace hXL31 := Bel.ex hXL31 x59
        replace hXL44 := Bel.ex hXL44 x59
        replace hXL51 := Bel.ex hXL51 x59
        refine Rg_run rfl (o_or (u := undef) rfl rfl) ?_
        refine Rg_run rfl (o_assignh (v := .bool _) rfl) ?_
        refine Rg_nil (W_region ?_)
        refine Rg_run rfl (o_add rfl rfl (by have := allG_len2 hm31 (closW oo few); unfold I64; omega)) ?_
        refine Rg_run rfl (o_moveh (v := .int _ _) rfl) ?_
        refine Rg_nil ?_
        refine ⟨i + 1, ⟨?_, ?_, trivial⟩, ?_, ⟨?_, hXL51⟩, ?_⟩
        · first | rfl | (go_num) | (exact congrArg _ (by omega))
        · refine congrArg Value.bool ?_
          rw [anyP_succ (by omega)]
        · repeat (first | exact off_refl _ _ | exact off_mix | refine off_put rfl ?_ | refine off_putN ?_ | refine off_setL rfl ?_ | refine off_mix' rfl ?_)
        · show i + 1 ≤ (normS (allG m31 (closW oo few))).length; omega
        · omega
      replace hc5 := of_decide_eq_false hc5
      rw [show (normS (allG m31 (closW oo few))).take i = (normS (allG m31 (closW oo few))) from List.take_of_length_le (by omega)]
      refine W_exit (exAt_hit (W_seq (W_region ?_)))
      refine Rg_run rfl (o_moveh (v := .bool _) rfl) ?_
      refine Rg_run rfl (o_not rfl) ?_
      refine Rg_nil ?_
      refine W_cond_false (congrArg Value.bool (show (!((normS (allG m31 (closW oo few))).any (fun q => impliesS q ((normS (allG m31 e1)).getD j pz)))) = false by rw [grants_law hsub (gm (z := pz) (show j < (normS (allG m31 e1)).length by omega))]; rfl)) ?_
      refine W_skip (W_region ?_)
      refine Rg_run rfl (o_add rfl rfl (by have := allG_len2 hm31 e1; unfold I64; omega)) ?_
      refine Rg_run rfl (o_moveh (v := .int _ _) rfl) ?_
      refine Rg_nil ?_
      refine ⟨j + 1, ⟨?_, trivial⟩, ?_, ⟨?_, hXL44⟩, ?_⟩
      · first | rfl | (go_num) | (exact congrArg _ (by omega))
      · repeat (first | exact off_refl _ _ | exact off_mix | refine off_put rfl ?_ | refine off_putN ?_ | refine off_setL rfl ?_ | refine off_mix' rfl ?_)
      · show j + 1 ≤ (normS (allG m31 e1)).length; omega
      · omega
    replace hc4 := of_decide_eq_false hc4
    refine W_exit (exAt_hit (W_region ?_))
    refine Rg_run rfl (o_add rfl rfl (by have := hm26.len; unfold I64; omega)) ?_
    refine Rg_run rfl (o_moveh (v := .int _ _) rfl) ?_
    refine Rg_nil ?_
    refine ⟨k + 1, ⟨?_, trivial⟩, ?_, ⟨?_, hXL31⟩, ?_⟩
    · first | rfl | (go_num) | (exact congrArg _ (by omega))
    · repeat (first | exact off_refl _ _ | exact off_mix | refine off_put rfl ?_ | refine off_putN ?_ | refine off_setL rfl ?_ | refine off_mix' rfl ?_)
    · show k + 1 ≤ l60.length; omega
    · omega
  replace hc3 := of_decide_eq_false hc3
  refine W_exit (exAt_hit (W_seq ?_))
  apply W_draw (β := False) [(fun v w => ∃ p, v = .pointer (some ⟨p, 0, none⟩) ∧ GbIs w (.pointer (some ⟨p, 0, none⟩)) []), peq _, (fun v w => ∃ a c, v = .slice a 0 c), peq _, peq _, peq _] 6 mixed (by kernel_rfl) rfl ⟨((fun _ _ _ ⟨p, e, h⟩ x => ⟨p, e, h.ext x⟩)), peq_stable _, ((fun _ _ _ h _ => h)), peq_stable _, peq_stable _, peq_stable _, trivial⟩ ?ob26 ?fin26
  case ob26 =>
    refine OblL_cons (fun w61 x62 => ?_) ?_
    · skip
      have z63 := Bel.size x62
      refine bindP_nil ?_
      exact OpS_mem rfl (o_call0 Tryz.call29) ((gnew_ok _).mono (fun v w2 ⟨p, e, h, x⟩ => ⟨x, p, e, h⟩))
    refine OblL_cons (fun w64 x65 => ?_) ?_
    · skip
      have z66 := Bel.size x65
      have hb13 := hb13.ext x65
      refine bindP_nil ?_
      exact OpS_v rfl (o_loadS Tryz.isAgg36 Tryz.sizeOf36 rfl hb13.at rfl)
    refine OblL_cons (fun w67 x68 => ?_) ?_
    · skip
      have z69 := Bel.size x68
      have hq53 := hq53.ext x68
      refine bindP_mem (fun v96 hv96 => ?_)
      obtain ⟨p96, rfl, hk96⟩ := hv96
      refine bindP_eq ?_
      refine bindP_mem (fun v96 hv96 => ?_)
      obtain ⟨p96, rfl, hk96⟩ := hv96
      refine bindP_nil ?_
      exact OpS_mem rfl (o_call2 Tryz.call25 rfl rfl) ((gall_ok _ _ _ hk96 OkG.nil ⟨a53, c53, few⟩ _ hq53).mono (fun v w2 ⟨h, x⟩ => ⟨x, by obtain ⟨a, c, e, _⟩ := h.sl encP_ok; exact ⟨a, c, e⟩⟩))
    refine OblL_cons (fun w70 x71 => ?_) ?_
    · skip
      have z72 := Bel.size x71
      refine bindP_mem (fun v98 hv98 => ?_)
      obtain ⟨a98, c98, rfl⟩ := hv98
      refine bindP_nil ?_
      exact OpS_v rfl (o_llen Tryz.underlying70 rfl)
    refine OblL_cons (fun w73 x74 => ?_) ?_
    · skip
      have z75 := Bel.size x74
      refine bindP_eq (bindP_nil ?_)
      exact OpS_v rfl (o_eql rfl rfl)
    refine OblL_cons (fun w76 x77 => ?_) ?_
    · skip
      have z78 := Bel.size x77
      refine bindP_eq ?_
      refine bindP_mem (fun v98 hv98 => ?_)
      obtain ⟨a98, c98, rfl⟩ := hv98
      refine bindP_mem (fun v96 hv96 => ?_)
      obtain ⟨p96, rfl, hk96⟩ := hv96
      refine bindP_eq ?_
      refine bindP_mem (fun v98 hv98 => ?_)
      obtain ⟨a98, c98, rfl⟩ := hv98
      refine bindP_eq (bindP_eq (bindP_nil ?_))
      exact OpS_v rfl (o_assignh (v := .bool _) rfl)
    exact OblL_nil
  case fin26 =>
    intro w79 x80
    have z81 := Bel.size x80
    replace hX := Bel.ex hX x80
    replace hT := hT.ext x80
    replace hb5 := hb5.ext x80
    replace hbk31 := hbk31.ext x80
    replace hqpb := hqpb.ext x80
    replace hh1 := hh1.ext x80
    replace hh2 := hh2.ext x80
    replace hq53 := hq53.ext x80
    replace hb13 := hb13.ext x80
    replace hq57 := hq57.ext x80
    replace hs58 := hs58.ext x80
    replace hown60 := hown60.ext x80
    replace hws60 := hws60.ext x80
    refine bindP_mem (fun v96 hv96 => ?_)
    obtain ⟨p96, rfl, hk96⟩ := hv96
    refine bindP_eq ?_
    refine bindP_mem (fun v98 hv98 => ?_)
    obtain ⟨a98, c98, rfl⟩ := hv98
    refine bindP_eq (bindP_eq (bindP_eq (bindP_nil (Rg_nil (W_ret ?_)))))
    refine ⟨_, res_tmp rfl rfl, ?_⟩
    refine ⟨congrArg Value.bool ?_, hX⟩
    all_goals (rfl)

end Go.Proofs.YtncmjgmlnnenhaaGreatDoor
