/- Walks: what functions return. -/
import Derived.Test.YtdnkjdmfnmdpdaaGreatDoorWak5
import Derived.Test.YtdnkjdmfnmdpdaaGreatDoorWend
import Derived.Test.YtdnkjdmfnmdpdaaGreatDoorWl50
import Derived.Test.YtdnkjdmfnmdpdaaGreatDoorWmk50
import Derived.Test.YtdnkjdmfnmdpdaaGreatDoorWmk24m
set_option linter.unusedVariables false
set_option linter.unusedSimpArgs false
set_option linter.unnecessarySimpa false
namespace Go.Proofs.YtdnkjdmfnmdpdaaGreatDoor
open Go Go.Lx Go.RowKit Tryz
set_option maxRecDepth 100000
set_option maxHeartbeats 4000000 in
theorem law_ChangesetThen (w : World) (v0 : Value) (p : List UInt8) (hp0 : Rd encB 1 (Lt w.heap.size) w v0 p) (v1 : Value) (l : List RawC) (hl0 : Rd encRaw 6 (Lt w.heap.size) w v1 l) (v2 : Value) (m : List RawC) (hm0 : Rd encRaw 6 (Lt w.heap.size) w v2 m) : Ok Tryz.prog 4 #[v0, v1, v2] w fun v w' => v = .bool true ∧ Ext False w w' := by
 obtain ⟨ap, cpp, rfl, hp0⟩ := hp0; obtain ⟨ar, cr, rfl, hl0⟩ := hl0; obtain ⟨am, cm, rfl, hm0⟩ := hm0
 have hlp := hp0.len; have hll := hl0.len; have hlm := hm0.len
 replace hp0 := hp0.mono (F' := fun g => g < w.heap.size) (fun g h1 h2 => h1)
 replace hl0 := hl0.mono (F' := fun g => g < w.heap.size) (fun g h1 h2 => h1)
 replace hm0 := hm0.mono (F' := fun g => g < w.heap.size) (fun g h1 h2 => h1)
 refine Ok_of_W 80 func4 rfl rfl rfl ?_
 have hX : Ext False w w := Bel.refl _ _
 refine W_seq (W_region ?_)
 refine Rr o_assignc ?_
 refine Rg_nil (W_seq (W_seq (W_region ?_)))
 refine Rg_enter rfl (o_call0 call7) (Ok.mono (awake50_ok _) ?_)
 rintro _ w1 ⟨rfl, x2⟩
 replace hX := hX.ex x2
 replace hp0 := hp0.ext x2
 replace hl0 := hl0.ext x2
 replace hm0 := hm0.ext x2
 refine Rr (o_not rfl) ?_
 refine Rg_nil ?_
 refine W_cond_false rfl ?_
 refine W_skip (W_seq (W_region ?_))
 refine Rr (mvS rfl) ?_
 refine Rg_enter rfl (o_call1 call9 rfl) (Ok.mono (make24_ok _ _ p _ ⟨_, _, rfl, hp0⟩) ?_)
 rintro v23 w3 ⟨hst23, x4⟩
 replace hX := hX.ex x4
 replace hl0 := hl0.ext x4
 replace hm0 := hm0.ext x4
 obtain ⟨aU, nU, cU, aR, nR, cR, ad, aX, nX, cX, aY, nY, cY, aZ, nZ, cZ, aL, cL, L, aM, cM, M, aG, cG, G, hv23, hL, hM, hG, hGk, hl1, hl2⟩ := hst23
 subst hv23
 obtain ⟨n4, hn4⟩ : ∃ n, n = w3.heap.size := ⟨_, rfl⟩
 refine Rg_alst rfl rfl zeroValue38 rfl sizeOf38 (fun _ => rfl) rfl rfl ?_
 intro b7 w5 x6 hge7 hb7
 change Box _ _ _ (stC _ _ _ _ _ _ _ _ _ _) at hb7
 replace hX := hX.ex x6
 replace hl0 := hl0.ext x6
 replace hm0 := hm0.ext x6
 replace hL := hL.ext x6
 replace hM := hM.ext x6
 replace hG := hG.ext x6
 refine Rg_nil (W_seq (W_region ?_))
 refine Rr (mvS rfl) ?_
 refine Rr (o_loadS isAgg38 sizeOf38 rfl hb7.at rfl) ?_
 refine Rg_enter rfl (o_call2 call8 rfl rfl) (Ok.mono (make50_ok _ _ l _ _ _ ⟨_, _, rfl, hl0⟩ (st_pack hL hM hG hGk (by omega) (by omega))) ?_)
 rintro v26 w7 ⟨⟨O26, hown26, hO26, hOk26⟩, x8⟩
 replace hX := hX.ex x8
 replace hm0 := hm0.ext x8
 replace hL := hL.ext x8
 replace hM := hM.ext x8
 replace hG := hG.ext x8
 replace hb7 := hb7.ext x8
 refine Rg_enter rfl (o_call1 call23 rfl) (Ok.mono (rset5_ok _ _ O26 (hown26.trd encRo_ok) (by omega) (fun o ho => (hOk26 o ho).1)) ?_)
 rintro v27 w9 ⟨⟨X27, hvs27, hxl27, hown27⟩, x10⟩
 replace hX := hX.ex x10
 replace hm0 := hm0.ext x10
 replace hL := hL.ext x10
 replace hM := hM.ext x10
 replace hG := hG.ext x10
 replace hb7 := hb7.ext x10
 obtain ⟨a8q, c8q, hv8q, hs8q⟩ := hown27.sl encRo_ok
 subst hv8q
 refine Rr (asS rfl) ?_
 refine Rg_nil (W_seq (W_region ?_))
 refine Rr (mvS rfl) ?_
 refine Rr (o_loadS isAgg38 sizeOf38 rfl hb7.at rfl) ?_
 refine Rg_enter rfl (o_call2 call8 rfl rfl) (Ok.mono (make50_ok _ _ m _ _ _ ⟨_, _, rfl, hm0⟩ (st_pack hL hM hG hGk (by omega) (by omega))) ?_)
 rintro v30 w11 ⟨⟨O30, hown30, hO30, hOk30⟩, x12⟩
 replace hX := hX.ex x12
 replace hm0 := hm0.ext x12
 replace hL := hL.ext x12
 replace hM := hM.ext x12
 replace hG := hG.ext x12
 replace hb7 := hb7.ext x12
 replace hs8q := hs8q.ext x12
 refine Rg_enter rfl (o_call1 call23 rfl) (Ok.mono (rset5_ok _ _ O30 (hown30.trd encRo_ok) (by omega) (fun o ho => (hOk30 o ho).1)) ?_)
 rintro v31 w13 ⟨⟨X31, hvs31, hxl31, hown31⟩, x14⟩
 replace hX := hX.ex x14
 replace hm0 := hm0.ext x14
 replace hL := hL.ext x14
 replace hM := hM.ext x14
 replace hG := hG.ext x14
 replace hb7 := hb7.ext x14
 replace hs8q := hs8q.ext x14
 refine Rr (o_assignh (v := v31) rfl) ?_
 refine Rg_nil (W_seq (W_seq (W_region ?_)))
 obtain ⟨a9q, c9q, hv9q, hs9q⟩ := hown31.sl encRo_ok
 subst hv9q
 refine Rr (o_loadS isAgg38 sizeOf38 rfl hb7.at rfl) ?_
 refine Rr (mvS rfl) ?_
 refine Rg_enter rfl (o_call2 call24 rfl rfl) (Ok.mono (rend_ok aU nU cU aR nR cR ad aX nX cX aY nY cY aZ nZ cZ aL cL L aM cM M aG cG G _ _ _ X27 _ hL hM hG hGk (by omega) (by omega) hs8q.rd hvs27.v (by omega)) ?_)
 rintro v35 w15 ⟨hst35, x16⟩
 replace hX := hX.ex x16
 replace hm0 := hm0.ext x16
 replace hs8q := hs8q.ext x16
 replace hs9q := hs9q.ext x16
 obtain ⟨d', aU', nU', cU', aR', nR', cR', ad', aX', nX', cX', aY', nY', cY', aZ', nZ', cZ', aL', cL', L', aM', cM', M', aG', cG', G', e', hv35, hd', hL', hM', hG', hGk', hl1', hl2'⟩ := hst35
 subst hv35
 refine Rr (o_moveh (v := .tuple _) rfl) ?_
 refine Rr (o_extract rfl rfl) ?_
 refine Rr (o_extract rfl rfl) ?_
 refine Rg_alst rfl rfl zeroValue38 rfl sizeOf38 (fun _ => rfl) rfl rfl ?_
 intro b10 w17 x18 hge10 hb10
 change Box _ _ _ (stC _ _ _ _ _ _ _ _ _ _) at hb10
 replace hX := hX.ex x18
 replace hm0 := hm0.ext x18
 replace hs8q := hs8q.ext x18
 replace hs9q := hs9q.ext x18
 replace hL' := hL'.ext x18
 replace hM' := hM'.ext x18
 replace hG' := hG'.ext x18
 refine Rr (asI rfl) ?_
 refine Rg_nil (W_seq (W_region ?_))
 refine Rr (mvI rfl) ?_
 refine Rr (o_eql rfl rfl) ?_
 refine Rg_nil ?_
 refine W_cond rfl (fun hc2 => ?_) (fun hc2 => ?_)
 ·have he0 : e' = 0 := eq_of_beq hc2
  have hd10 := hd' he0
  subst hd10
  refine W_region ?_
  refine Rr (mvS rfl) ?_
  refine Rr (o_loadS isAgg38 sizeOf38 rfl hb10.at rfl) ?_
  refine Rg_enter rfl (o_call2 call8 rfl rfl) (Ok.mono (make50_ok _ _ m _ _ _ ⟨_, _, rfl, hm0⟩ (st_pack hL' hM' hG' hGk' (by omega) (by omega))) ?_)
  rintro v42 w19 ⟨⟨O42, hown42, hO42, hOk42⟩, x20⟩
  replace hX := hX.ex x20
  replace hs8q := hs8q.ext x20
  refine Rg_enter rfl (o_call1 call23 rfl) (Ok.mono (rset5_ok _ _ O42 (hown42.trd encRo_ok) (by omega) (fun o ho => (hOk42 o ho).1)) ?_)
  rintro v43 w21 ⟨⟨X43, hvs43, hxl43, hown43⟩, x22⟩
  replace hX := hX.ex x22
  replace hs8q := hs8q.ext x22
  refine Rr (o_assignh (v := v43) rfl) ?_
  refine Rg_nil (W_seq (W_region ?_))
  obtain ⟨a9r, c9r, hv9r, hs9r⟩ := hown43.sl encRo_ok
  subst hv9r
  refine Rr (mvS rfl) ?_
  refine Rg_enter rfl (o_call1 call25 rfl) (Ok.mono (lset_ok _ _ X27 hs8q.trd (by omega) hvs27) ?_)
  rintro _ w23 ⟨⟨a46, c46, rfl, hs46⟩, x24⟩
  replace hX := hX.ex x24
  replace hs8q := hs8q.ext x24
  replace hs9r := hs9r.ext x24
  refine Rr (o_moveh (v := .tuple _) rfl) ?_
  refine Rr (o_extract rfl rfl) ?_
  refine Rr (o_extract rfl rfl) ?_
  refine Rg_alst rfl rfl zeroValue63 rfl sizeOf63 (fun _ => rfl) rfl rfl ?_
  intro b12 w25 x26 hge12 hb12
  change Box _ _ _ (wsS _ _ _) at hb12
  replace hX := hX.ex x26
  replace hs8q := hs8q.ext x26
  replace hs9r := hs9r.ext x26
  replace hs46 := hs46.ext x26
  refine Rr (asB rfl) ?_
  refine Rg_nil (W_seq (W_region ?_))
  refine Rr (mvS rfl) ?_
  refine Rg_enter rfl (o_call1 call25 rfl) (Ok.mono (lset_ok _ _ X43 hs9r.trd (by omega) hvs43) ?_)
  rintro _ w27 ⟨⟨a51, c51, rfl, hs51⟩, x28⟩
  replace hX := hX.ex x28
  replace hs8q := hs8q.ext x28
  replace hs9r := hs9r.ext x28
  replace hs46 := hs46.ext x28
  replace hb12 := hb12.ext x28
  refine Rr (o_moveh (v := .tuple _) rfl) ?_
  refine Rr (o_extract rfl rfl) ?_
  refine Rr (o_extract rfl rfl) ?_
  refine Rg_alst rfl rfl zeroValue63 rfl sizeOf63 (fun _ => rfl) rfl rfl ?_
  intro b14 w29 x30 hge14 hb14
  change Box _ _ _ (wsS _ _ _) at hb14
  replace hX := hX.ex x30
  replace hs8q := hs8q.ext x30
  replace hs9r := hs9r.ext x30
  replace hs46 := hs46.ext x30
  replace hb12 := hb12.ext x30
  replace hs51 := hs51.ext x30
  refine Rr (asB rfl) ?_
  refine Rg_nil (W_seq (W_seq (W_region ?_)))
  refine Rr (mvB rfl) ?_
  refine Rr (o_not rfl) ?_
  refine Rr (mvB rfl) ?_
  refine Rg_on 2 56 rfl rfl ?_
  refine Rr (mvB rfl) ?_
  refine Rg_on 2 56 rfl rfl ?_
  refine Rr (o_not rfl) ?_
  refine Rr (o_pickF (v := .bool _) rfl rfl) ?_
  refine Rg_nil ?_
  refine W_cond_false rfl ?_
  refine W_skip (W_seq (W_region ?_))
  refine Rr (o_loadS isAgg63 sizeOf63 rfl hb12.at rfl) ?_
  refine Rr (o_loadS isAgg63 sizeOf63 rfl hb14.at rfl) ?_
  refine Rg_enter rfl (o_call2 call26 rfl rfl) (Ok.mono (cthens_ok a46 a51 c46 c51 _ _ X27 X43 _ hs46 hs51 hvs27 hvs43 (by omega) (by omega)) ?_)
  rintro _ w31 ⟨⟨a63, c63, rfl, hs63⟩, x32⟩
  replace hX := hX.ex x32
  replace hs8q := hs8q.ext x32
  replace hs9r := hs9r.ext x32
  refine Rr (o_moveh (v := .tuple _) rfl) ?_
  refine Rr (o_extract rfl rfl) ?_
  refine Rr (o_extract rfl rfl) ?_
  refine Rg_alst rfl rfl zeroValue63 rfl sizeOf63 (fun _ => rfl) rfl rfl ?_
  intro b16 w33 x34 hge16 hb16
  change Box _ _ _ (wsS _ _ _) at hb16
  replace hX := hX.ex x34
  replace hs8q := hs8q.ext x34
  replace hs9r := hs9r.ext x34
  replace hs63 := hs63.ext x34
  refine Rr (asI rfl) ?_
  refine Rg_nil (W_seq (W_region ?_))
  refine Rr (mvS rfl) ?_
  refine Rr (mvS rfl) ?_
  refine Rg_enter rfl (o_call2 call27 rfl rfl) (Ok.mono (rthen_ok _ _ _ _ X27 X43 _ hs8q.rd hs9r.rd hvs27 hvs43 (by omega) (by omega)) ?_)
  rintro _ w35 ⟨⟨u69, rfl, hown69⟩, x36⟩
  replace hX := hX.ex x36
  replace hs63 := hs63.ext x36
  replace hb16 := hb16.ext x36
  refine Rr (o_moveh (v := .tuple _) rfl) ?_
  refine Rr (o_extract rfl rfl) ?_
  refine Rr (o_extract rfl rfl) ?_
  refine Rr (o_assignh (v := u69) rfl) ?_
  refine Rr (asI rfl) ?_
  refine Rg_nil (W_seq (W_region ?_))
  refine Rr (mvI rfl) ?_
  refine Rr (mvI rfl) ?_
  refine Rr (o_eql rfl rfl) ?_
  refine Rr (mvB rfl) ?_
  refine Rg_on 3 75 rfl (congrArg Value.bool (beq_self_eq_true _)) ?_
  refine Rr (o_loadS isAgg63 sizeOf63 rfl hb16.at rfl) ?_
  refine Rg_on 3 75 rfl (congrArg Value.bool (beq_self_eq_true _)) ?_
  refine Rr (o_moveh (v := u69) rfl) ?_
  refine Rg_on 3 75 rfl (congrArg Value.bool (beq_self_eq_true _)) ?_
  refine Rg_enter rfl (o_call2 call19 rfl rfl) (Ok.mono (lsame_ok a63 c63 _ (thenS X27 X43).1 _ hs63 u69 (thenS X27 X43).1 (hown69.trd encRo_ok) (by have := thenS_len hvs27 hvs43; omega) (by have := thenS_len hvs27 hvs43; omega) (fun x hx => by have := (thenS_vo hvs27 hvs43 x hx).rng; omega)) ?_)
  rintro _ w37 ⟨rfl, x38⟩
  replace hX := hX.ex x38
  refine Rr (o_pickT (v := .bool _) (congrArg Value.bool (beq_self_eq_true _)) rfl) ?_
  refine Rr (asB rfl) ?_
  refine Rg_nil (W_ret ?_)
  refine ⟨_, res_tmp rfl rfl, ?_⟩
  refine ⟨congrArg Value.bool ?_, hX⟩
  all_goals (exact beq_self_eq_true _)
 skip
 refine W_skip (W_seq (W_region ?_))
 refine Rr (mvS rfl) ?_
 refine Rg_enter rfl (o_call1 call25 rfl) (Ok.mono (lset_ok _ _ X27 hs8q.trd (by omega) hvs27) ?_)
 rintro _ w39 ⟨⟨a46, c46, rfl, hs46⟩, x40⟩
 replace hX := hX.ex x40
 replace hs8q := hs8q.ext x40
 replace hs9q := hs9q.ext x40
 refine Rr (o_moveh (v := .tuple _) rfl) ?_
 refine Rr (o_extract rfl rfl) ?_
 refine Rr (o_extract rfl rfl) ?_
 refine Rg_alst rfl rfl zeroValue63 rfl sizeOf63 (fun _ => rfl) rfl rfl ?_
 intro b12 w41 x42 hge12 hb12
 change Box _ _ _ (wsS _ _ _) at hb12
 replace hX := hX.ex x42
 replace hs8q := hs8q.ext x42
 replace hs9q := hs9q.ext x42
 replace hs46 := hs46.ext x42
 refine Rr (asB rfl) ?_
 refine Rg_nil (W_seq (W_region ?_))
 refine Rr (mvS rfl) ?_
 refine Rg_enter rfl (o_call1 call25 rfl) (Ok.mono (lset_ok _ _ X31 hs9q.trd (by omega) hvs31) ?_)
 rintro _ w43 ⟨⟨a51, c51, rfl, hs51⟩, x44⟩
 replace hX := hX.ex x44
 replace hs8q := hs8q.ext x44
 replace hs9q := hs9q.ext x44
 replace hs46 := hs46.ext x44
 replace hb12 := hb12.ext x44
 refine Rr (o_moveh (v := .tuple _) rfl) ?_
 refine Rr (o_extract rfl rfl) ?_
 refine Rr (o_extract rfl rfl) ?_
 refine Rg_alst rfl rfl zeroValue63 rfl sizeOf63 (fun _ => rfl) rfl rfl ?_
 intro b14 w45 x46 hge14 hb14
 change Box _ _ _ (wsS _ _ _) at hb14
 replace hX := hX.ex x46
 replace hs8q := hs8q.ext x46
 replace hs9q := hs9q.ext x46
 replace hs46 := hs46.ext x46
 replace hb12 := hb12.ext x46
 replace hs51 := hs51.ext x46
 refine Rr (asB rfl) ?_
 refine Rg_nil (W_seq (W_seq (W_region ?_)))
 refine Rr (mvB rfl) ?_
 refine Rr (o_not rfl) ?_
 refine Rr (mvB rfl) ?_
 refine Rg_on 2 56 rfl rfl ?_
 refine Rr (mvB rfl) ?_
 refine Rg_on 2 56 rfl rfl ?_
 refine Rr (o_not rfl) ?_
 refine Rr (o_pickF (v := .bool _) rfl rfl) ?_
 refine Rg_nil ?_
 refine W_cond_false rfl ?_
 refine W_skip (W_seq (W_region ?_))
 refine Rr (o_loadS isAgg63 sizeOf63 rfl hb12.at rfl) ?_
 refine Rr (o_loadS isAgg63 sizeOf63 rfl hb14.at rfl) ?_
 refine Rg_enter rfl (o_call2 call26 rfl rfl) (Ok.mono (cthens_ok a46 a51 c46 c51 _ _ X27 X31 _ hs46 hs51 hvs27 hvs31 (by omega) (by omega)) ?_)
 rintro _ w47 ⟨⟨a63, c63, rfl, hs63⟩, x48⟩
 replace hX := hX.ex x48
 replace hs8q := hs8q.ext x48
 replace hs9q := hs9q.ext x48
 refine Rr (o_moveh (v := .tuple _) rfl) ?_
 refine Rr (o_extract rfl rfl) ?_
 refine Rr (o_extract rfl rfl) ?_
 refine Rg_alst rfl rfl zeroValue63 rfl sizeOf63 (fun _ => rfl) rfl rfl ?_
 intro b16 w49 x50 hge16 hb16
 change Box _ _ _ (wsS _ _ _) at hb16
 replace hX := hX.ex x50
 replace hs8q := hs8q.ext x50
 replace hs9q := hs9q.ext x50
 replace hs63 := hs63.ext x50
 refine Rr (asI rfl) ?_
 refine Rg_nil (W_seq (W_region ?_))
 refine Rr (mvS rfl) ?_
 refine Rr (mvS rfl) ?_
 refine Rg_enter rfl (o_call2 call27 rfl rfl) (Ok.mono (rthen_ok _ _ _ _ X27 X31 _ hs8q.rd hs9q.rd hvs27 hvs31 (by omega) (by omega)) ?_)
 rintro _ w51 ⟨⟨u69, rfl, hown69⟩, x52⟩
 replace hX := hX.ex x52
 replace hs63 := hs63.ext x52
 replace hb16 := hb16.ext x52
 refine Rr (o_moveh (v := .tuple _) rfl) ?_
 refine Rr (o_extract rfl rfl) ?_
 refine Rr (o_extract rfl rfl) ?_
 refine Rr (o_assignh (v := u69) rfl) ?_
 refine Rr (asI rfl) ?_
 refine Rg_nil (W_seq (W_region ?_))
 refine Rr (mvI rfl) ?_
 refine Rr (mvI rfl) ?_
 refine Rr (o_eql rfl rfl) ?_
 refine Rr (mvB rfl) ?_
 refine Rg_on 3 75 rfl (congrArg Value.bool (beq_self_eq_true _)) ?_
 refine Rr (o_loadS isAgg63 sizeOf63 rfl hb16.at rfl) ?_
 refine Rg_on 3 75 rfl (congrArg Value.bool (beq_self_eq_true _)) ?_
 refine Rr (o_moveh (v := u69) rfl) ?_
 refine Rg_on 3 75 rfl (congrArg Value.bool (beq_self_eq_true _)) ?_
 refine Rg_enter rfl (o_call2 call19 rfl rfl) (Ok.mono (lsame_ok a63 c63 _ (thenS X27 X31).1 _ hs63 u69 (thenS X27 X31).1 (hown69.trd encRo_ok) (by have := thenS_len hvs27 hvs31; omega) (by have := thenS_len hvs27 hvs31; omega) (fun x hx => by have := (thenS_vo hvs27 hvs31 x hx).rng; omega)) ?_)
 rintro _ w53 ⟨rfl, x54⟩
 replace hX := hX.ex x54
 refine Rr (o_pickT (v := .bool _) (congrArg Value.bool (beq_self_eq_true _)) rfl) ?_
 refine Rr (asB rfl) ?_
 refine Rg_nil (W_ret ?_)
 refine ⟨_, res_tmp rfl rfl, ?_⟩
 refine ⟨congrArg Value.bool ?_, hX⟩
 all_goals (exact beq_self_eq_true _)

end Go.Proofs.YtdnkjdmfnmdpdaaGreatDoor
