/- Walks: what functions return. -/
import Derived.Test.YtdnkjdmfnmdpdaaGreatDoorWak5
import Derived.Test.YtdnkjdmfnmdpdaaGreatDoorWl50
import Derived.Test.YtdnkjdmfnmdpdaaGreatDoorWmk50
import Derived.Test.YtdnkjdmfnmdpdaaGreatDoorWmk24m
import Derived.Test.YtdnkjdmfnmdpdaaGreatDoorTh
set_option linter.unusedVariables false
set_option linter.unusedSimpArgs false
set_option linter.unnecessarySimpa false
namespace Go.Proofs.YtdnkjdmfnmdpdaaGreatDoor
open Go Go.Lx Go.RowKit Tryz
set_option maxRecDepth 100000
theorem ckeq_ok (a b : Option Addr) (c d : Nat) (A C : Nat → Prop) (x y : List OKey) (w : World) (hx : Sl encCk 6 A w a c x) (hy : Sl encCk 6 C w b d y) : Ok Tryz.prog 21 #[.slice a x.length c, .slice b y.length d] w fun v w' => v = .bool (x == y) ∧ Ext False w w' := by
 have hlx := hx.len; have hly := hy.len
 replace hx := hx.mono (F' := fun g => g < w.heap.size) (fun g h1 h2 => h1)
 replace hy := hy.mono (F' := fun g => g < w.heap.size) (fun g h1 h2 => h1)
 refine Ok_of_W 26 func21 rfl rfl rfl ?_
 have hX : Ext False w w := Bel.refl _ _
 refine W_seq (W_region ?_)
 refine Rr o_assignc ?_
 refine Rg_nil (W_seq (W_seq (W_region ?_)))
 refine Rr (mvS rfl) ?_
 refine Rr (o_llen underlying70 rfl) ?_
 refine Rr (mvS rfl) ?_
 refine Rr (o_llen underlying70 rfl) ?_
 refine Rr (o_neq rfl rfl) ?_
 refine Rg_nil ?_
 refine W_cond rfl (fun hc1 => ?_) (fun hc1 => ?_)
 ·skip
  refine W_seq (W_region ?_)
  refine Rr o_assignc ?_
  refine Rg_nil (W_ret ?_)
  refine ⟨_, res_tmp rfl rfl, ?_⟩
  refine ⟨congrArg Value.bool ?_, hX⟩
  all_goals (exact (eqT_len (by simpa using hc1)).symm)
 have hle : (x.length : Int) = y.length := by simpa using hc1
 refine W_skip (W_seq (W_seq (W_region ?_)))
 refine Rr (mvS rfl) ?_
 refine Rr (o_llen underlying70 rfl) ?_
 refine Rr o_movec ?_
 refine Rg_nil (W_block ?_)
 refine W_for (α := Nat) [(4, 5), (13, 25)] (fun k => [(13, .int .i64 (k : Int))]) (fun k w' => (k ≤ x.length ∧ x.take k = y.take k) ∧ Ext False w w') (fun k => x.length - k) 0 ⟨rfl, trivial⟩ ⟨⟨by omega, by simp⟩, Bel.refl _ _⟩ ?_
 rintro k fb3 w2 ⟨⟨hk, hall⟩, hXL1⟩
 replace hX := hX.ex hXL1
 replace hx := hx.ext hXL1
 replace hy := hy.ext hXL1
 refine W_seq (W_region ?_)
 refine Rr (o_lss rfl rfl) ?_
 refine Rg_nil (W_seq ?_)
 refine W_cond rfl (fun hc2 => ?_) (fun hc2 => ?_)
 ·replace hc2 := of_decide_eq_true hc2
  refine W_skip (W_seq (W_block (W_seq (W_region ?_))))
  refine Rr (mvI rfl) ?_
  refine Rr (asI rfl) ?_
  refine Rg_nil (W_seq ?_)
  apply W_draw (β := False) [peq _, peq _, peq _, peq _, peq _, peq _, peq _, peq _, peq _] 9 mixed (by kernel_rfl) rfl ⟨peq_stable _, peq_stable _, peq_stable _, peq_stable _, peq_stable _, peq_stable _, peq_stable _, peq_stable _, peq_stable _, trivial⟩ ?ob6 ?fin6
  case ob6 =>
   refine OblL_cons (fun w4 x5 => ?_) ?_
   ·refine bindP_nil ?_
    exact OpS_v rfl (mvS rfl)
   refine OblL_cons (fun w6 x7 => ?_) ?_
   ·refine bindP_nil ?_
    exact OpS_v rfl (mvI rfl)
   refine OblL_cons (fun w8 x9 => ?_) ?_
   ·have hx := hx.ext x9
    refine bindP_eq (bindP_eq (bindP_nil ?_))
    exact OpS_v rfl (o_iaR underlying70 sizeOf55 hx rfl rfl omg)
   refine OblL_cons (fun w10 x11 => ?_) ?_
   ·have hx := hx.ext x11
    refine bindP_eq (bindP_nil ?_)
    exact OpS_v rfl (o_ldRS isAgg55 sizeOf55 hx rfl (getE okz (by omega)))
   refine OblL_cons (fun w12 x13 => ?_) ?_
   ·refine bindP_nil ?_
    exact OpS_v rfl (mvS rfl)
   refine OblL_cons (fun w14 x15 => ?_) ?_
   ·refine bindP_nil ?_
    exact OpS_v rfl (mvI rfl)
   refine OblL_cons (fun w16 x17 => ?_) ?_
   ·have hy := hy.ext x17
    refine bindP_eq (bindP_eq (bindP_nil ?_))
    exact OpS_v rfl (o_iaR underlying70 sizeOf55 hy rfl rfl omg)
   refine OblL_cons (fun w18 x19 => ?_) ?_
   ·have hy := hy.ext x19
    refine bindP_eq (bindP_nil ?_)
    exact OpS_v rfl (o_ldRS isAgg55 sizeOf55 hy rfl (getE okz (by omega)))
   refine OblL_cons (fun w20 x21 => ?_) ?_
   ·refine bindP_eq (bindP_eq (bindP_nil ?_))
    exact OpS_v rfl (o_tneq eq_ck rfl rfl)
   exact OblL_nil
  case fin6 =>
   intro w22 x23
   replace hX := hX.ex x23
   replace hXL1 := Bel.ex hXL1 x23
   refine bindP_eq (bindP_eq (bindP_eq (bindP_eq (bindP_eq (bindP_eq (bindP_eq (bindP_eq (bindP_eq ?_))))))))
   refine bindP_nil (Rg_nil ?_)
   refine W_cond rfl (fun hc3 => ?_) (fun hc3 => ?_)
   ·refine W_seq (W_region ?_)
    refine Rr o_assignc ?_
    refine Rg_nil (W_ret ?_)
    refine ⟨_, res_tmp rfl rfl, ?_⟩
    refine ⟨congrArg Value.bool ?_, hX⟩
    all_goals (exact (eqT_ne (z := okz) (k := k) (by simpa using hc3)).symm)
   refine W_skip (W_region ?_)
   refine Rr (o_add rfl rfl omg) ?_
   refine Rr (mvI rfl) ?_
   refine Rg_nil ?_
   refine ⟨k + 1, ⟨sT, trivial⟩, oT, ⟨?_, hXL1⟩, ?_⟩
   ·exact ⟨by omega, eqT_succ (z := okz) (by omega) (by omega) hall (by simpa using hc3)⟩
   ·omega
 replace hc2 := of_decide_eq_false hc2
 refine W_exit (exAt_hit (W_seq (W_region ?_)))
 refine Rr o_assignc ?_
 refine Rg_nil (W_ret ?_)
 refine ⟨_, res_tmp rfl rfl, ?_⟩
 refine ⟨congrArg Value.bool ?_, hX⟩
 all_goals (exact (eqT_end (k := k) (by omega) (by omega) hall).symm)

theorem ckeq_okV (v1 v2 : Value) (A C : Nat → Prop) (x y : List OKey) (w : World) (hx : Rd encCk 6 A w v1 x) (hy : Rd encCk 6 C w v2 y) : Ok Tryz.prog 21 #[v1, v2] w fun v w' => v = .bool (x == y) ∧ Ext False w w' := by
 obtain ⟨a, c, rfl, h1⟩ := hx
 obtain ⟨b, d, rfl, h2⟩ := hy
 exact ckeq_ok _ _ _ _ _ _ _ _ _ h1 h2
theorem lkey_ok (κ : OKey) (hk : 0 ≤ κ.k ∧ κ.k ≤ 255) (w : World) : Ok Tryz.prog 14 #[.agg (encRk κ).toArray] w fun v w' => v = .agg (encCk κ).toArray ∧ Ext False w w' := by
 refine Ok_of_W 13 func14 rfl rfl rfl ?_
 have hX : Ext False w w := Bel.refl _ _
 refine W_seq (W_region ?_)
 refine Rg_newB rfl (o_box (v := .agg _) rfl) ?_
 intro b1 w1 x2 hge1 hb1
 have hlt1 := hb1.lt
 change Box _ _ _ (encRk _) at hb1
 have z3 := x2.size
 replace hX := hX.ex x2
 refine Rg_newB rfl (o_alloc zeroValue55) ?_
 intro b2 w4 x5 hge2 hb2
 have hlt2 := hb2.lt
 change Box _ _ _ ([.int _ _, .int _ _, .int _ _, str _, str _, .bool _]) at hb2
 have z6 := x5.size
 replace hX := hX.ex x5
 replace hb1 := hb1.ext x5
 refine Rg_nil (W_seq (W_region ?_))
 refine Rr (o_fa underlying59 rfl sizeOf3 rfl) ?_
 refine Rr (o_load1 isAgg3 rfl (hb1.at.get 0 rfl)) ?_
 refine Rr (o_convS underlying3 underlying47 rfl (wrap_k8 hk.1 hk.2)) ?_
 refine Rr (o_fa underlying59 rfl sizeOf3 rfl) ?_
 refine Rr (o_load1 isAgg3 rfl (hb1.at.get 1 rfl)) ?_
 refine Rr (o_fa underlying59 rfl sizeOf3 rfl) ?_
 refine Rr (o_load1 isAgg3 rfl (hb1.at.get 2 rfl)) ?_
 refine Rr (o_fa underlying59 rfl sizeOf42 rfl) ?_
 refine Rr (o_loadS isAgg42 sizeOf42 rfl (hb1.at.sub 3 3) rfl) ?_
 refine Rr (o_build (cells := encCk κ) (vs := [(0, .int _ _), (1, .int _ _), (2, .int _ _), (3, .agg _)]) rfl (by kernel_rfl)) ?_
 refine Rg_storeW (v := .agg _) rfl sizeOf55 rfl rfl hb2 rfl rfl rfl ?_
 intro w7 c8 hb2
 change Box _ _ _ (encCk _) at hb2
 have z9 := Bel.size c8
 replace hX := Bel.out hX c8 om2
 refine Rg_nil (W_ret ?_)
 refine ⟨_, res_1 (v := .agg _) rfl (rv_cellS isAgg55 sizeOf55 rfl hb2.at rfl), ?_⟩
 exact ⟨rfl, hX⟩

set_option maxHeartbeats 4000000 in
theorem law_ChangesetOps (w : World) (v0 : Value) (p : List UInt8) (hp0 : Rd encB 1 (Lt w.heap.size) w v0 p) (v1 : Value) (l : List RawC) (hl0 : Rd encRaw 6 (Lt w.heap.size) w v1 l) (kd : Nat) (hkd : kd < 256) (z : Int) (hz : -2147483648 ≤ z ∧ z ≤ 2147483647) : Ok Tryz.prog 3 #[v0, v1, .agg #[.int .u8 (kd : Int), .int .i32 z]] w fun v w' => v = .bool true ∧ Ext False w w' := by
 obtain ⟨ap, cpp, rfl, hp0⟩ := hp0; obtain ⟨ar, cr, rfl, hl0⟩ := hl0
 have hlp := hp0.len; have hll := hl0.len
 replace hp0 := hp0.mono (F' := fun g => g < w.heap.size) (fun g h1 h2 => h1)
 replace hl0 := hl0.mono (F' := fun g => g < w.heap.size) (fun g h1 h2 => h1)
 refine Ok_of_W 172 func3 rfl rfl rfl ?_
 have hX : Ext False w w := Bel.refl _ _
 refine W_seq (W_region ?_)
 refine Rg_newB rfl (o_box (v := .agg _) rfl) ?_
 intro b5 w1 x2 hge5 hb5
 have hlt5 := hb5.lt
 have z3 := x2.size
 replace hX := hX.ex x2
 replace hp0 := hp0.ext x2
 replace hl0 := hl0.ext x2
 refine Rr o_assignc ?_
 refine Rg_nil (W_seq (W_seq (W_region ?_)))
 refine Rg_enter rfl (o_call0 call7) (Ok.mono (awake50_ok _) ?_)
 rintro _ w4 ⟨rfl, x5⟩
 have z6 := x5.size
 replace hX := hX.ex x5
 replace hp0 := hp0.ext x5
 replace hl0 := hl0.ext x5
 replace hb5 := hb5.ext x5
 refine Rr (o_not rfl) ?_
 refine Rg_nil ?_
 refine W_cond_false rfl ?_
 refine W_skip (W_seq (W_region ?_))
 refine Rr (mvS rfl) ?_
 refine Rr (mvS rfl) ?_
 refine Rg_enter rfl (o_call1 call9 rfl) (Ok.mono (make24_ok _ _ p _ ⟨_, _, rfl, hp0⟩) ?_)
 rintro v23 w7 ⟨hst23, x8⟩
 have z9 := x8.size
 replace hX := hX.ex x8
 replace hl0 := hl0.ext x8
 replace hb5 := hb5.ext x8
 obtain ⟨aU, nU, cU, aR, nR, cR, ad, aX, nX, cX, aY, nY, cY, aZ, nZ, cZ, aL, cL, L0, aM, cM, M0, aG, cG, G0, hv23, hL, hM, hG, hGk, hl1, hl2⟩ := hst23
 subst hv23
 obtain ⟨n4, hn4⟩ : ∃ n, n = w7.heap.size := ⟨_, rfl⟩
 refine Rg_enter rfl (o_call2 call8 rfl rfl) (Ok.mono (make50_ok _ _ l _ _ _ ⟨_, _, rfl, hl0⟩ (st_pack hL hM hG hGk (by omega) (by omega))) ?_)
 rintro v24 w10 ⟨⟨O24, hown24, hO24, hOk24⟩, x11⟩
 have z12 := x11.size
 replace hX := hX.ex x11
 replace hb5 := hb5.ext x11
 refine Rr (o_assignh (v := v24) rfl) ?_
 refine Rg_nil ?_
 refine W_join (α := Value × List COp) [(7, 8), (25, 87)] (fun q => [(7, q.1)]) (fun q w' => (q.2.length ≤ 11 ∧ ∀ o ∈ q.2, o.p.ok ∧ o.k ≤ 255) ∧ Bel False (fun g => n4 ≤ g) w10 w' ∧ (Own encRo 8 44 (fun g => n4 ≤ g) w' q.1 q.2)) ?_ ?_
 ·have hXJ13 : Bel False (fun g => n4 ≤ g) w10 w10 := Bel.refl _ _
  refine W_seq (W_region ?_)
  replace hown24 := hown24.mono (D' := fun g => n4 ≤ g) (fun g h1 h2 => by have := h2.1; omega)
  obtain ⟨a24, c24, hv24, -⟩ := hown24.sl encRo_ok
  subst hv24
  refine Rr (o_moveh (v := .slice a24 O24.length c24) rfl) ?_
  refine Rr (o_llenO underlying27 rfl hown24) ?_
  refine Rr (o_gtr rfl rfl) ?_
  refine Rg_nil ?_
  refine W_cond rfl (fun hc2 => ?_) (fun hc2 => ?_)
  ·have hpos : 0 < O24.length := by have := of_decide_eq_true hc2; omega
   refine W_seq (W_region ?_)
   have hoi := hOk24 _ (gm (z := coz) (Nat.mod_lt (z % 4294967296).toNat hpos))
   obtain ⟨g24, o24, he24, -⟩ := (hown24.slA encRo_ok).el ((z % 4294967296).toNat % O24.length) _ (show O24[((z % 4294967296).toNat % O24.length)]? = some (O24.getD ((z % 4294967296).toNat % O24.length) coz) from getE coz (Nat.mod_lt (z % 4294967296).toNat hpos))
   subst he24
   refine Rr (o_moveh (v := .slice (some ⟨g24, o24, none⟩) O24.length c24) rfl) ?_
   refine Rr (o_fa underlying25 rfl sizeOf21 rfl) ?_
   refine Rr (o_load1 isAgg21 rfl (hb5.at.get 1 rfl)) ?_
   refine Rr (o_conv32 underlying21 underlying45 rfl) ?_
   refine Rr (o_moveh (v := .slice (some ⟨g24, o24, none⟩) O24.length c24) rfl) ?_
   refine Rr (o_llenO underlying27 rfl hown24) ?_
   refine Rr (o_convS underlying3 underlying45 rfl (wrap_u32 (by omega))) ?_
   refine Rr (o_rem32 (a := (z % 4294967296).toNat) (b := O24.length) rfl rfl hpos (by omega)) ?_
   refine Rr (o_convS underlying45 underlying3 rfl (wrap_in (by have := Nat.mod_lt (z % 4294967296).toNat hpos; unfold I64; omega))) ?_
   refine Rr (o_iaO (i := ((z % 4294967296).toNat % O24.length)) underlying27 sizeOf44 hown24 rfl rfl (Nat.mod_lt _ hpos)) ?_
   refine Rr (o_assignh (v := .pointer _) rfl) ?_
   refine Rg_nil (W_seq (W_region ?_))
   refine Rr (o_fa underlying25 rfl sizeOf5 rfl) ?_
   refine Rr (o_load1 isAgg5 rfl (hb5.at.get 0 rfl)) ?_
   refine Rr (o_rem8 (a := kd) (b := 12) rfl rfl (by decide) hkd) ?_
   refine Rg_nil (W_block (W_seq (W_region ?_)))
   refine Rr (o_eql rfl rfl) ?_
   refine Rr (asB rfl) ?_
   refine Rg_nil ?_
   refine W_cond rfl (fun hc3 => ?_) (fun hc3 => ?_)
   ·skip
    refine W_region ?_
    refine Rr (o_moveh (v := .pointer _) rfl) ?_
    refine Rr (o_fa underlying25 rfl sizeOf21 rfl) ?_
    refine Rr (o_load1 isAgg21 rfl (hb5.at.get 1 rfl)) ?_
    refine Rr (o_rem32i (a := z) (b := 5) rfl rfl (by decide) (by decide)) ?_
    refine Rr (o_convS underlying21 underlying3 rfl (wrap_in (by have h1 := Int.tmod_lt_of_pos z (show (0 : Int) < 5 by decide); have h2 := Int.lt_tmod_of_pos z (show (0 : Int) < 5 by decide); unfold I64; omega))) ?_
    refine Rr (o_nilc rfl) ?_
    refine Rr (o_faE underlying44 rfl sizeOf3 (hown24.slA encRo_ok) rfl (show O24[((z % 4294967296).toNat % O24.length)]? = some (O24.getD ((z % 4294967296).toNat % O24.length) coz) from getE coz (Nat.mod_lt (z % 4294967296).toNat hpos))) ?_
    refine Rg_elstF (i := ((z % 4294967296).toNat % O24.length)) (j := 1) ({ (O24.getD ((z % 4294967296).toNat % O24.length) coz) with k := z.tmod 5 }) ((O24.getD ((z % 4294967296).toNat % O24.length) coz)) rfl encRo_ok sizeOf3 rfl rfl rfl rfl hown24 (show O24[((z % 4294967296).toNat % O24.length)]? = some (O24.getD ((z % 4294967296).toNat % O24.length) coz) from getE coz (Nat.mod_lt (z % 4294967296).toNat hpos)) rfl (by decide) ?_
    intro w14 x15 hown24
    have z16 := x15.size
    replace hX := Bel.out hX x15 om2
    replace hXJ13 := Bel.out hXJ13 x15 om2
    refine Rg_nil ?_
    refine ⟨(.slice (some ⟨g24, o24, none⟩) O24.length c24, O24.set ((z % 4294967296).toNat % O24.length) { (O24.getD ((z % 4294967296).toNat % O24.length) coz) with k := z.tmod 5 }), ⟨sT, trivial⟩, oT, ⟨?_, hXJ13, ?_⟩⟩
    ·exact ⟨by show (O24.set _ _).length ≤ 11; rw [List.length_set]; omega, set_all (fun o h => ⟨(hOk24 o h).1, (hOk24 o h).2.2⟩) ⟨hoi.1, by show z.tmod 5 ≤ 255; have := Int.tmod_lt_of_pos z (show (0 : Int) < 5 by decide); omega⟩⟩
    ·exact hown24.mono (fun g h1 h2 => by omega)
   skip
   refine W_seq (W_region ?_)
   refine Rr (o_eql rfl rfl) ?_
   refine Rr (asB rfl) ?_
   refine Rg_nil ?_
   refine W_cond rfl (fun hc4 => ?_) (fun hc4 => ?_)
   ·skip
    refine W_region ?_
    refine Rr (o_moveh (v := .pointer _) rfl) ?_
    refine Rr (o_fa underlying25 rfl sizeOf21 rfl) ?_
    refine Rr (o_load1 isAgg21 rfl (hb5.at.get 1 rfl)) ?_
    refine Rr (o_convS underlying21 underlying3 rfl (wrap_in (by unfold I64; omega))) ?_
    refine Rr (o_nilc rfl) ?_
    refine Rr (o_faE underlying44 rfl sizeOf3 (hown24.slA encRo_ok) rfl (show O24[((z % 4294967296).toNat % O24.length)]? = some (O24.getD ((z % 4294967296).toNat % O24.length) coz) from getE coz (Nat.mod_lt (z % 4294967296).toNat hpos))) ?_
    refine Rg_elstF (i := ((z % 4294967296).toNat % O24.length)) (j := 2) ({ (O24.getD ((z % 4294967296).toNat % O24.length) coz) with a := z }) ((O24.getD ((z % 4294967296).toNat % O24.length) coz)) rfl encRo_ok sizeOf3 rfl rfl rfl rfl hown24 (show O24[((z % 4294967296).toNat % O24.length)]? = some (O24.getD ((z % 4294967296).toNat % O24.length) coz) from getE coz (Nat.mod_lt (z % 4294967296).toNat hpos)) rfl (by decide) ?_
    intro w17 x18 hown24
    have z19 := x18.size
    replace hX := Bel.out hX x18 om2
    replace hXJ13 := Bel.out hXJ13 x18 om2
    refine Rg_nil ?_
    refine ⟨(.slice (some ⟨g24, o24, none⟩) O24.length c24, O24.set ((z % 4294967296).toNat % O24.length) { (O24.getD ((z % 4294967296).toNat % O24.length) coz) with a := z }), ⟨sT, trivial⟩, oT, ⟨?_, hXJ13, ?_⟩⟩
    ·exact ⟨by show (O24.set _ _).length ≤ 11; rw [List.length_set]; omega, set_all (fun o h => ⟨(hOk24 o h).1, (hOk24 o h).2.2⟩) ⟨hoi.1, hoi.2.2⟩⟩
    ·exact hown24.mono (fun g h1 h2 => by omega)
   skip
   refine W_seq (W_region ?_)
   refine Rr (o_eql rfl rfl) ?_
   refine Rr (asB rfl) ?_
   refine Rg_nil ?_
   refine W_cond rfl (fun hc5 => ?_) (fun hc5 => ?_)
   ·skip
    refine W_region ?_
    refine Rr (o_moveh (v := .pointer _) rfl) ?_
    refine Rr (o_fa underlying25 rfl sizeOf21 rfl) ?_
    refine Rr (o_load1 isAgg21 rfl (hb5.at.get 1 rfl)) ?_
    refine Rr (o_convS underlying21 underlying3 rfl (wrap_in (by unfold I64; omega))) ?_
    refine Rr (o_nilc rfl) ?_
    refine Rr (o_faE underlying44 rfl sizeOf3 (hown24.slA encRo_ok) rfl (show O24[((z % 4294967296).toNat % O24.length)]? = some (O24.getD ((z % 4294967296).toNat % O24.length) coz) from getE coz (Nat.mod_lt (z % 4294967296).toNat hpos))) ?_
    refine Rg_elstF (i := ((z % 4294967296).toNat % O24.length)) (j := 3) ({ (O24.getD ((z % 4294967296).toNat % O24.length) coz) with b := z }) ((O24.getD ((z % 4294967296).toNat % O24.length) coz)) rfl encRo_ok sizeOf3 rfl rfl rfl rfl hown24 (show O24[((z % 4294967296).toNat % O24.length)]? = some (O24.getD ((z % 4294967296).toNat % O24.length) coz) from getE coz (Nat.mod_lt (z % 4294967296).toNat hpos)) rfl (by decide) ?_
    intro w20 x21 hown24
    have z22 := x21.size
    replace hX := Bel.out hX x21 om2
    replace hXJ13 := Bel.out hXJ13 x21 om2
    refine Rg_nil ?_
    refine ⟨(.slice (some ⟨g24, o24, none⟩) O24.length c24, O24.set ((z % 4294967296).toNat % O24.length) { (O24.getD ((z % 4294967296).toNat % O24.length) coz) with b := z }), ⟨sT, trivial⟩, oT, ⟨?_, hXJ13, ?_⟩⟩
    ·exact ⟨by show (O24.set _ _).length ≤ 11; rw [List.length_set]; omega, set_all (fun o h => ⟨(hOk24 o h).1, (hOk24 o h).2.2⟩) ⟨hoi.1, hoi.2.2⟩⟩
    ·exact hown24.mono (fun g h1 h2 => by omega)
   skip
   refine W_seq (W_region ?_)
   refine Rr (o_eql rfl rfl) ?_
   refine Rr (asB rfl) ?_
   refine Rg_nil ?_
   refine W_cond rfl (fun hc6 => ?_) (fun hc6 => ?_)
   ·skip
    refine W_region ?_
    refine Rr (o_moveh (v := .pointer _) rfl) ?_
    refine Rr (o_fa underlying25 rfl sizeOf21 rfl) ?_
    refine Rr (o_load1 isAgg21 rfl (hb5.at.get 1 rfl)) ?_
    refine Rr (o_convS underlying21 underlying3 rfl (wrap_in (by unfold I64; omega))) ?_
    refine Rr (o_nilc rfl) ?_
    refine Rr (o_faE underlying44 rfl sizeOf3 (hown24.slA encRo_ok) rfl (show O24[((z % 4294967296).toNat % O24.length)]? = some (O24.getD ((z % 4294967296).toNat % O24.length) coz) from getE coz (Nat.mod_lt (z % 4294967296).toNat hpos))) ?_
    refine Rg_elstF (i := ((z % 4294967296).toNat % O24.length)) (j := 4) ({ (O24.getD ((z % 4294967296).toNat % O24.length) coz) with u := z }) ((O24.getD ((z % 4294967296).toNat % O24.length) coz)) rfl encRo_ok sizeOf3 rfl rfl rfl rfl hown24 (show O24[((z % 4294967296).toNat % O24.length)]? = some (O24.getD ((z % 4294967296).toNat % O24.length) coz) from getE coz (Nat.mod_lt (z % 4294967296).toNat hpos)) rfl (by decide) ?_
    intro w23 x24 hown24
    have z25 := x24.size
    replace hX := Bel.out hX x24 om2
    replace hXJ13 := Bel.out hXJ13 x24 om2
    refine Rg_nil ?_
    refine ⟨(.slice (some ⟨g24, o24, none⟩) O24.length c24, O24.set ((z % 4294967296).toNat % O24.length) { (O24.getD ((z % 4294967296).toNat % O24.length) coz) with u := z }), ⟨sT, trivial⟩, oT, ⟨?_, hXJ13, ?_⟩⟩
    ·exact ⟨by show (O24.set _ _).length ≤ 11; rw [List.length_set]; omega, set_all (fun o h => ⟨(hOk24 o h).1, (hOk24 o h).2.2⟩) ⟨hoi.1, hoi.2.2⟩⟩
    ·exact hown24.mono (fun g h1 h2 => by omega)
   skip
   refine W_seq (W_region ?_)
   refine Rr (o_eql rfl rfl) ?_
   refine Rr (asB rfl) ?_
   refine Rg_nil ?_
   refine W_cond rfl (fun hc7 => ?_) (fun hc7 => ?_)
   ·skip
    refine W_region ?_
    refine Rr (o_moveh (v := .pointer _) rfl) ?_
    refine Rr (o_nilc rfl) ?_
    refine Rr (o_faE underlying44 rfl sizeOf42 (hown24.slA encRo_ok) rfl (show O24[((z % 4294967296).toNat % O24.length)]? = some (O24.getD ((z % 4294967296).toNat % O24.length) coz) from getE coz (Nat.mod_lt (z % 4294967296).toNat hpos))) ?_
    refine Rr (o_faE underlying42 rfl sizeOf9 (hown24.slA encRo_ok) rfl (show O24[((z % 4294967296).toNat % O24.length)]? = some (O24.getD ((z % 4294967296).toNat % O24.length) coz) from getE coz (Nat.mod_lt (z % 4294967296).toNat hpos))) ?_
    refine Rg_elstF (i := ((z % 4294967296).toNat % O24.length)) (j := 5) ({ (O24.getD ((z % 4294967296).toNat % O24.length) coz) with p := { (O24.getD ((z % 4294967296).toNat % O24.length) coz).p with act := [98, 121] } }) ((O24.getD ((z % 4294967296).toNat % O24.length) coz)) rfl encRo_ok sizeOf9 rfl rfl rfl rfl hown24 (show O24[((z % 4294967296).toNat % O24.length)]? = some (O24.getD ((z % 4294967296).toNat % O24.length) coz) from getE coz (Nat.mod_lt (z % 4294967296).toNat hpos)) rfl (by decide) ?_
    intro w26 x27 hown24
    have z28 := x27.size
    replace hX := Bel.out hX x27 om2
    replace hXJ13 := Bel.out hXJ13 x27 om2
    refine Rg_nil ?_
    refine ⟨(.slice (some ⟨g24, o24, none⟩) O24.length c24, O24.set ((z % 4294967296).toNat % O24.length) { (O24.getD ((z % 4294967296).toNat % O24.length) coz) with p := { (O24.getD ((z % 4294967296).toNat % O24.length) coz).p with act := [98, 121] } }), ⟨sT, trivial⟩, oT, ⟨?_, hXJ13, ?_⟩⟩
    ·exact ⟨by show (O24.set _ _).length ≤ 11; rw [List.length_set]; omega, set_all (fun o h => ⟨(hOk24 o h).1, (hOk24 o h).2.2⟩) ⟨⟨by show (2 : Nat) ≤ 1000000; decide, hoi.1.2⟩, hoi.2.2⟩⟩
    ·exact hown24.mono (fun g h1 h2 => by omega)
   skip
   refine W_seq (W_region ?_)
   refine Rr (o_eql rfl rfl) ?_
   refine Rr (asB rfl) ?_
   refine Rg_nil ?_
   refine W_cond rfl (fun hc8 => ?_) (fun hc8 => ?_)
   ·skip
    refine W_region ?_
    refine Rr (o_moveh (v := .slice (some ⟨g24, o24, none⟩) O24.length c24) rfl) ?_
    refine Rr (o_moveh (v := .pointer _) rfl) ?_
    refine Rr (o_nilc rfl) ?_
    refine Rr (o_ldRS isAgg44 sizeOf44 (hown24.slA encRo_ok) rfl (show O24[((z % 4294967296).toNat % O24.length)]? = some (O24.getD ((z % 4294967296).toNat % O24.length) coz) from getE coz (Nat.mod_lt (z % 4294967296).toNat hpos))) ?_
    refine Rg_bs (vs := [.agg _]) ([(O24.getD ((z % 4294967296).toNat % O24.length) coz)]) rfl encRo_ok el_ro rfl rfl ⟨rfl, trivial⟩ rfl rfl rfl rfl ?_
    intro a86 w29 x30 hown86
    have z31 := x30.size
    replace hX := hX.ex x30
    replace hXJ13 := Bel.ex hXJ13 x30
    replace hown24 := hown24.ext x30
    replace hown86 := hown86.mono (D' := fun g => n4 ≤ g) (fun g h1 h2 => by omega)
    refine Rg_app rfl encRo_ok el_ro rfl rfl hown24 (hown86.slA encRo_ok) rfl (by rw [List.length_singleton]; omega) omU ?_
    intro v87 w32 x33 hown24
    have z34 := x33.size
    replace hX := Bel.out hX x33 om2
    replace hXJ13 := Bel.out hXJ13 x33 om2
    refine Rr (o_assignh (v := v87) rfl) ?_
    refine Rg_nil ?_
    refine ⟨(v87, O24 ++ [(O24.getD ((z % 4294967296).toNat % O24.length) coz)]), ⟨sT, trivial⟩, oT, ⟨?_, hXJ13, ?_⟩⟩
    ·exact ⟨by show (O24 ++ [_]).length ≤ 11; rw [List.length_append, List.length_singleton]; omega, fun o ho => (List.mem_append.1 ho).elim (fun h => ⟨(hOk24 o h).1, (hOk24 o h).2.2⟩) (fun h => by rw [List.mem_singleton.1 h]; exact ⟨hoi.1, hoi.2.2⟩)⟩
    ·exact hown24.mono (fun g h1 h2 => by omega)
   skip
   refine W_skip ?_
   refine ⟨(.slice (some ⟨g24, o24, none⟩) O24.length c24, O24), ⟨sT, trivial⟩, oT, ⟨?_, hXJ13, ?_⟩⟩
   ·exact ⟨by show O24.length ≤ 11; omega, fun o ho => ⟨(hOk24 o ho).1, (hOk24 o ho).2.2⟩⟩
   ·exact hown24.mono (fun g h1 h2 => by omega)
  skip
  refine W_skip ?_
  refine ⟨(.slice a24 O24.length c24, O24), ⟨sT, trivial⟩, oT, ⟨?_, hXJ13, ?_⟩⟩
  ·exact ⟨by show O24.length ≤ 11; omega, fun o ho => ⟨(hOk24 o ho).1, (hOk24 o ho).2.2⟩⟩
  ·exact hown24.mono (fun g h1 h2 => by omega)
 rintro ⟨t, L⟩ fb36 w35 ⟨⟨hLl, hLk⟩, hXJ37, hown7⟩
 dsimp only at *
 have z38 := Bel.size hXJ37
 replace hX := Bel.out hX hXJ37 om2
 refine W_seq (W_seq (W_region ?_))
 obtain ⟨a7q, c7q, hv7q, hs7q⟩ := hown7.sl encRo_ok
 subst hv7q
 refine Rr (mvS rfl) ?_
 refine Rr (o_llen underlying27 rfl) ?_
 refine Rr o_movec ?_
 refine Rg_nil (W_block ?_)
 refine W_for (α := Nat) [(6, 6), (10, 10), (90, 112)] (fun k => [(90, .int .i64 (k : Int))]) (fun k w' => (k ≤ L.length ∧ ∀ j, j < k → 0 ≤ (L.getD j coz).k) ∧ Ext False w35 w') (fun k => L.length - k) 0 ⟨rfl, trivial⟩ ⟨⟨Nat.zero_le _, fun j h => absurd h (Nat.not_lt_zero _)⟩, Bel.refl _ _⟩ ?_
 rintro k fb41 w40 ⟨⟨hk, hall⟩, hXL39⟩
 have z42 := Bel.size hXL39
 replace hX := hX.ex hXL39
 replace hs7q := hs7q.ext hXL39
 refine W_seq (W_region ?_)
 refine Rr (o_lss rfl rfl) ?_
 refine Rg_nil (W_seq ?_)
 refine W_cond rfl (fun hc9 => ?_) (fun hc9 => ?_)
 ·have hk1 : k < L.length := by have := of_decide_eq_true hc9; omega
  refine W_skip (W_seq (W_block (W_seq (W_region ?_))))
  refine Rr (o_iaR underlying27 sizeOf44 hs7q rfl rfl omg) ?_
  refine Rr (o_ldRS isAgg44 sizeOf44 hs7q rfl (getE coz (by omega))) ?_
  refine Rg_alst rfl rfl zeroValue44 rfl sizeOf44 (fun _ => rfl) rfl rfl ?_
  intro b10 w43 x44 hge10 hb10
  have hlt10 := hb10.lt
  change Box _ _ _ (encRo _) at hb10
  have z45 := x44.size
  replace hX := hX.ex x44
  replace hXL39 := Bel.ex hXL39 x44
  refine Rg_nil (W_seq (W_seq (W_region ?_)))
  obtain ⟨o, ho⟩ : ∃ o, o = (L.getD k coz) := ⟨_, rfl⟩
  rw [← ho] at hb10
  have hok := hLk o (ho ▸ gm (show k < L.length by omega))
  refine Rr (o_fa underlying44 rfl sizeOf3 rfl) ?_
  refine Rr (o_load1 isAgg3 rfl (hb10.at.get 1 rfl)) ?_
  refine Rr (o_lss rfl rfl) ?_
  refine Rg_nil ?_
  refine W_cond rfl (fun hc10 => ?_) (fun hc10 => ?_)
  ·skip
   refine W_seq (W_region ?_)
   refine Rr o_assignc ?_
   refine Rg_nil (W_ret ?_)
   refine ⟨_, res_tmp rfl rfl, ?_⟩
   refine ⟨congrArg Value.bool ?_, hX⟩
   all_goals (rfl)
  have hk0 : 0 ≤ o.k := by have := of_decide_eq_false hc10; omega
  refine W_skip (W_seq ?_)
  apply W_drawC (β := False) (fun _ => 0) [peqC _, peqC _, peqC _, peqC _, peqC _, peqC _, peqC _, peqC _, peqC _, peqC _, peqC _, peqC _, peqC _, peqC _, peqC _] [0, 0, 0, 0, 0, 0, 0, 0, 0, 0, 0, 0, 0, 0, 0] 15 mixed (by kernel_rfl) (by kernel_rfl) rfl ⟨peqC_stable _ _, peqC_stable _ _, peqC_stable _ _, peqC_stable _ _, peqC_stable _ _, peqC_stable _ _, peqC_stable _ _, peqC_stable _ _, peqC_stable _ _, peqC_stable _ _, peqC_stable _ _, peqC_stable _ _, peqC_stable _ _, peqC_stable _ _, peqC_stable _ _, trivial⟩ ?ob24 ?fin24
  case ob24 =>
   refine OblC_cons (fun w46 c48 x47 hc049 hk50 => ?_) ?_
   ·replace x47 := RelG.ext0 x47
    have z51 := x47.size
    have hb10 := hb10.ext x47
    refine bindC_nil ?_
    exact OpC_v rfl (o_loadS isAgg44 sizeOf44 rfl hb10.at rfl)
   refine OblC_cons (fun w52 c54 x53 hc055 hk56 => ?_) ?_
   ·replace x53 := RelG.ext0 x53
    have z57 := x53.size
    refine bindC_eq (bindC_nil ?_)
    exact OpC_call rfl (o_call1 call10 rfl) (lop_ok o ⟨hk0, hok.2⟩ _)
   refine OblC_cons (fun w58 c60 x59 hc061 hk62 => ?_) ?_
   ·replace x59 := RelG.ext0 x59
    have z63 := x59.size
    refine bindC_eq (bindC_eq (bindC_nil ?_))
    exact OpC_call rfl (o_call1 call11 rfl) (ccheck_ok o hok.1 _)
   refine OblC_cons (fun w64 c66 x65 hc067 hk68 => ?_) ?_
   ·replace x65 := RelG.ext0 x65
    have z69 := x65.size
    have hb10 := hb10.ext x65
    refine bindC_nil ?_
    exact OpC_v rfl (o_loadS isAgg44 sizeOf44 rfl hb10.at rfl)
   refine OblC_cons (fun w70 c72 x71 hc073 hk74 => ?_) ?_
   ·replace x71 := RelG.ext0 x71
    have z75 := x71.size
    refine bindC_eq (bindC_eq (bindC_nil ?_))
    exact OpC_call rfl (o_call1 call12 rfl) (rcheckO_ok o hok.1 _)
   refine OblC_cons (fun w76 c78 x77 hc079 hk80 => ?_) ?_
   ·replace x77 := RelG.ext0 x77
    have z81 := x77.size
    refine bindC_eq (bindC_eq (bindC_nil ?_))
    exact OpC_v rfl (o_neq rfl rfl)
   refine OblC_cons (fun w82 c84 x83 hc085 hk86 => ?_) ?_
   ·replace x83 := RelG.ext0 x83
    have z87 := x83.size
    refine bindC_eq (bindC_eq (bindC_nil ?_))
    exact OpC_v rfl (mvB rfl)
   refine OblC_cons (fun w88 c90 x89 hc091 hk92 => ?_) ?_
   ·replace x89 := RelG.ext0 x89
    have z93 := x89.size
    have hb10 := hb10.ext x89
    refine bindC_eq (bindC_nil ?_)
    refine OpC_on 6 103 rfl (congrArg Value.bool (bne_self_eq_false (checkO o))) ?_
    exact OpC_v rfl (o_loadS isAgg44 sizeOf44 rfl hb10.at rfl)
   refine OblC_cons (fun w94 c96 x95 hc097 hk98 => ?_) ?_
   ·replace x95 := RelG.ext0 x95
    have z99 := x95.size
    refine bindC_eq (bindC_eq (bindC_eq (bindC_nil ?_)))
    refine OpC_on 6 103 rfl (congrArg Value.bool (bne_self_eq_false (checkO o))) ?_
    exact OpC_call rfl (o_call1 call10 rfl) (lop_ok o ⟨hk0, hok.2⟩ _)
   refine OblC_cons (fun w100 c102 x101 hc0103 hk104 => ?_) ?_
   ·replace x101 := RelG.ext0 x101
    have z105 := x101.size
    refine bindC_eq (bindC_eq (bindC_eq (bindC_nil ?_)))
    refine OpC_on 6 103 rfl (congrArg Value.bool (bne_self_eq_false (checkO o))) ?_
    exact OpC_call rfl (o_call1 call13 rfl) (ckey_ok (False) o _)
   refine OblC_cons (fun w106 c108 x107 hc0109 hk110 => ?_) ?_
   ·replace x107 := RelG.ext0 x107
    have z111 := x107.size
    have hb10 := hb10.ext x107
    refine bindC_eq (bindC_nil ?_)
    refine OpC_on 6 103 rfl (congrArg Value.bool (bne_self_eq_false (checkO o))) ?_
    exact OpC_v rfl (o_loadS isAgg44 sizeOf44 rfl hb10.at rfl)
   refine OblC_cons (fun w112 c114 x113 hc0115 hk116 => ?_) ?_
   ·replace x113 := RelG.ext0 x113
    have z117 := x113.size
    refine bindC_eq (bindC_eq (bindC_eq (bindC_nil ?_)))
    refine OpC_on 6 103 rfl (congrArg Value.bool (bne_self_eq_false (checkO o))) ?_
    exact OpC_call rfl (o_call1 call15 rfl) (rkey_ok o _)
   refine OblC_cons (fun w118 c120 x119 hc0121 hk122 => ?_) ?_
   ·replace x119 := RelG.ext0 x119
    have z123 := x119.size
    refine bindC_eq (bindC_eq (bindC_eq (bindC_nil ?_)))
    refine OpC_on 6 103 rfl (congrArg Value.bool (bne_self_eq_false (checkO o))) ?_
    exact OpC_call rfl (o_call1 call14 rfl) (lkey_ok o.key ⟨hk0, hok.2⟩ _)
   refine OblC_cons (fun w124 c126 x125 hc0127 hk128 => ?_) ?_
   ·replace x125 := RelG.ext0 x125
    have z129 := x125.size
    refine bindC_eq (bindC_eq (bindC_eq (bindC_nil ?_)))
    refine OpC_on 6 103 rfl (congrArg Value.bool (bne_self_eq_false (checkO o))) ?_
    exact OpC_v rfl (o_tneq eq_ck rfl rfl)
   refine OblC_cons (fun w130 c132 x131 hc0133 hk134 => ?_) ?_
   ·replace x131 := RelG.ext0 x131
    have z135 := x131.size
    refine bindC_eq (bindC_eq (bindC_nil ?_))
    exact OpC_v rfl (o_pickF (v := .bool _) (congrArg Value.bool (bne_self_eq_false (checkO o))) rfl)
   exact OblC_nil
  case fin24 =>
   intro w136 c138 x137 hc0139
   replace x137 := RelG.ext0 x137
   have z140 := x137.size
   replace hX := hX.ex x137
   replace hXL39 := Bel.ex hXL39 x137
   refine bindC_eq (bindC_eq (bindC_eq (bindC_eq (bindC_eq (bindC_eq (bindC_eq (bindC_eq (bindC_eq ?_))))))))
   refine bindC_eq (bindC_eq (bindC_eq (bindC_eq (bindC_eq (bindC_eq (bindC_nil (Rg_nil ?_)))))))
   refine W_cond_false (congrArg Value.bool (bne_self_eq_false o.key)) ?_
   refine W_skip (W_region ?_)
   refine Rr (o_add rfl rfl omg) ?_
   refine Rr (mvI rfl) ?_
   refine Rg_nil ?_
   refine ⟨k + 1, ⟨sT, trivial⟩, oT, ⟨?_, hXL39⟩, ?_⟩
   ·exact ⟨by omega, fun j hj => (Nat.lt_succ_iff_lt_or_eq.1 hj).elim (hall j) (fun e => by rw [e, ← ho]; exact hk0)⟩
   ·omega
 have hk1 : ¬ k < L.length := by have := of_decide_eq_false hc9; omega
 refine W_exit (exAt_hit (W_seq (W_region ?_)))
 have hkL : k = L.length := by omega
 have hkk : ∀ x ∈ L, 0 ≤ x.k ∧ x.k ≤ 255 := fun x hx => ⟨all_getD (Q := fun o : COp => 0 ≤ o.k) (z := coz) (fun j hj => hall j (by omega)) x hx, (hLk x hx).2⟩
 refine Rr (mvS rfl) ?_
 refine Rg_enter rfl (o_call1 call17 rfl) (Ok.mono (lops_ok _ _ L hs7q.trd (by omega) hkk) ?_)
 rintro v115 w141 ⟨hown115, x142⟩
 have z143 := x142.size
 replace hX := hX.ex x142
 replace hs7q := hs7q.ext x142
 replace hown115 := hown115.mono (D' := fun g => w.heap.size ≤ g) (fun g h1 h2 => by omega)
 refine Rg_enter rfl (o_call1 call16 rfl) (Ok.mono (cof_ok _ _ L (hown115.trd encCo_ok) (by omega) (fun x hx => (hLk x hx).1)) ?_)
 rintro _ w144 ⟨⟨a116, c116, rfl, hs116⟩, x145⟩
 have z146 := x145.size
 replace hX := hX.ex x145
 replace hs7q := hs7q.ext x145
 refine Rr (o_moveh (v := .tuple _) rfl) ?_
 refine Rr (o_extract rfl rfl) ?_
 refine Rr (o_extract rfl rfl) ?_
 refine Rg_alst rfl rfl zeroValue63 rfl sizeOf63 (fun _ => rfl) rfl rfl ?_
 intro b11 w147 x148 hge11 hb11
 have hlt11 := hb11.lt
 change Box _ _ _ (wsS _ _ _) at hb11
 have z149 := x148.size
 replace hX := hX.ex x148
 replace hs7q := hs7q.ext x148
 replace hs116 := hs116.ext x148
 refine Rr (asI rfl) ?_
 refine Rg_nil (W_seq (W_region ?_))
 refine Rr (mvS rfl) ?_
 refine Rg_enter rfl (o_call1 call18 rfl) (Ok.mono (rof_ok _ _ L hs7q.trd (by omega) (fun x hx => (hLk x hx).1)) ?_)
 rintro _ w150 ⟨⟨u121, rfl, hown121⟩, x151⟩
 have z152 := x151.size
 replace hX := hX.ex x151
 replace hs116 := hs116.ext x151
 replace hb11 := hb11.ext x151
 refine Rr (o_moveh (v := .tuple _) rfl) ?_
 refine Rr (o_extract rfl rfl) ?_
 refine Rr (o_extract rfl rfl) ?_
 refine Rr (o_assignh (v := u121) rfl) ?_
 refine Rr (asI rfl) ?_
 refine Rg_nil (W_seq (W_seq (W_region ?_)))
 refine Rr (mvI rfl) ?_
 refine Rr (mvI rfl) ?_
 refine Rr (o_neq rfl rfl) ?_
 refine Rr (mvB rfl) ?_
 refine Rg_on 3 127 rfl (congrArg Value.bool (bne_self_eq_false (ofO L).2)) ?_
 refine Rr (o_loadS isAgg63 sizeOf63 rfl hb11.at rfl) ?_
 refine Rg_on 3 127 rfl (congrArg Value.bool (bne_self_eq_false (ofO L).2)) ?_
 refine Rr (o_moveh (v := u121) rfl) ?_
 refine Rg_on 3 127 rfl (congrArg Value.bool (bne_self_eq_false (ofO L).2)) ?_
 refine Rg_enter rfl (o_call2 call19 rfl rfl) (Ok.mono (lsame_ok a116 c116 _ (ofO L).1 _ hs116 u121 (ofO L).1 (hown121.trd encRo_ok) (by have := ofO_len L; omega) (by have := ofO_len L; omega) (fun x hx => hkk x (ofO_mem x hx))) ?_)
 rintro _ w153 ⟨rfl, x154⟩
 have z155 := x154.size
 replace hX := hX.ex x154
 replace hs116 := hs116.ext x154
 replace hb11 := hb11.ext x154
 replace hown121 := hown121.ext x154
 refine Rg_on 3 127 rfl (congrArg Value.bool (bne_self_eq_false (ofO L).2)) ?_
 refine Rr (o_not rfl) ?_
 refine Rr (o_pickF (v := .bool _) (congrArg Value.bool (bne_self_eq_false (ofO L).2)) rfl) ?_
 refine Rr (mvB rfl) ?_
 refine Rg_on 9 133 rfl (congrArg Value.bool (by rw [beq_self_eq_true] <;> rfl)) ?_
 refine Rr (o_loadS isAgg63 sizeOf63 rfl hb11.at rfl) ?_
 refine Rg_on 9 133 rfl (congrArg Value.bool (by rw [beq_self_eq_true] <;> rfl)) ?_
 refine Rg_enter rfl (o_call1 call20 rfl) (Ok.mono (cempty_ok a116 c116 _ (ofO L).1 _ hs116) ?_)
 rintro _ w156 ⟨rfl, x157⟩
 have z158 := x157.size
 replace hX := hX.ex x157
 replace hs116 := hs116.ext x157
 replace hb11 := hb11.ext x157
 replace hown121 := hown121.ext x157
 refine Rg_on 9 133 rfl (congrArg Value.bool (by rw [beq_self_eq_true] <;> rfl)) ?_
 refine Rr (o_moveh (v := u121) rfl) ?_
 refine Rg_on 9 133 rfl (congrArg Value.bool (by rw [beq_self_eq_true] <;> rfl)) ?_
 refine Rr (o_llenO underlying27 rfl hown121) ?_
 refine Rg_on 9 133 rfl (congrArg Value.bool (by rw [beq_self_eq_true] <;> rfl)) ?_
 refine Rr (o_eql rfl rfl) ?_
 refine Rg_on 9 133 rfl (congrArg Value.bool (by rw [beq_self_eq_true] <;> rfl)) ?_
 refine Rr (o_bneq underlying4 rfl rfl) ?_
 refine Rr (o_pickF (v := .bool _) (congrArg Value.bool (by rw [beq_self_eq_true] <;> rfl)) rfl) ?_
 refine Rg_nil ?_
 refine W_cond_false (congrArg Value.bool (bne_self_eq_false (((ofO L).1.length : Int) == 0))) ?_
 refine W_skip (W_seq (W_region ?_))
 refine Rr o_assignc ?_
 refine Rg_nil (W_seq (W_seq (W_region ?_)))
 obtain ⟨W, hW⟩ : ∃ W, W = (ofO L).1 := ⟨_, rfl⟩
 have hWl : W.length ≤ L.length := hW ▸ ofO_len L
 rw [← hW] at hs116 hown121 hb11
 obtain ⟨a13q, c13q, hv13q, hs13q⟩ := hown121.sl encRo_ok
 subst hv13q
 obtain ⟨n5, hn5⟩ : ∃ n, n = w156.heap.size := ⟨_, rfl⟩
 refine Rr (mvS rfl) ?_
 refine Rr (o_llen underlying27 rfl) ?_
 refine Rr o_movec ?_
 refine Rg_nil (W_block ?_)
 refine W_for (α := Nat × Value) [(15, 15), (17, 18), (143, 167)] (fun q => [(143, .int .i64 (q.1 : Int)), (15, q.2)]) (fun q w' => (q.1 ≤ W.length) ∧ Bel False (fun g => n5 ≤ g) w156 w' ∧ (Own encCk 6 55 (fun g => n5 ≤ g) w' q.2 (compL ((W.take q.1).map COp.key)))) (fun q => W.length - q.1) (0, .slice none 0 0) ⟨rfl, rfl, trivial⟩ ⟨Nat.zero_le _, Bel.refl _ _, Own.nil _ _⟩ ?_
 rintro ⟨k, t⟩ fb161 w160 ⟨hk, hXL159, hown15⟩
 dsimp only at *
 have z162 := Bel.size hXL159
 replace hX := Bel.out hX hXL159 om2
 replace hs116 := hs116.keep hXL159 om3
 replace hb11 := hb11.keep hXL159 om1
 replace hs13q := hs13q.keep hXL159 om3
 obtain ⟨Z, hZ⟩ : ∃ Z, Z = compL ((W.take k).map COp.key) := ⟨_, rfl⟩
 have hcl := compL_len ((W.take k).map COp.key)
 rw [List.length_map, List.length_take, ← hZ] at hcl
 rw [← hZ] at hown15
 obtain ⟨a15, c15, ht15, -⟩ := hown15.sl encCk_ok
 subst ht15
 refine W_seq (W_region ?_)
 refine Rr (o_lss rfl rfl) ?_
 refine Rg_nil (W_seq ?_)
 refine W_cond rfl (fun hc13 => ?_) (fun hc13 => ?_)
 ·have hk1 : k < W.length := by have := of_decide_eq_true hc13; omega
  refine W_skip (W_seq (W_block (W_seq (W_region ?_))))
  refine Rr (o_iaR underlying27 sizeOf44 hs13q rfl rfl omg) ?_
  refine Rr (o_ldRS isAgg44 sizeOf44 hs13q rfl (getE coz (by omega))) ?_
  refine Rg_alst rfl rfl zeroValue44 rfl sizeOf44 (fun _ => rfl) rfl rfl ?_
  intro b17 w163 x164 hge17 hb17
  replace hown15 := hown15.mono (D' := fun g => n5 ≤ g ∧ g ≠ b17) (fun g h1 h2 => by omega)
  have hlt17 := hb17.lt
  change Box _ _ _ (encRo _) at hb17
  have z165 := x164.size
  replace hX := hX.ex x164
  replace hXL159 := Bel.ex hXL159 x164
  replace hown15 := hown15.ext x164
  refine Rg_nil (W_seq (W_region ?_))
  refine (Decidable.em (Z = [])).elim (fun hem => ?_) (fun hem => ?_)
  ·obtain ⟨o, ho⟩ : ∃ o, o = (W.getD k coz) := ⟨_, rfl⟩
   rw [← ho] at hb17
   refine Rr (o_loadS isAgg44 sizeOf44 rfl hb17.at rfl) ?_
   refine Rg_enter rfl (o_call1 call15 rfl) (Ok.mono (rkey_ok o _) ?_)
   rintro _ w166 ⟨rfl, x167⟩
   have z168 := x167.size
   replace hX := hX.ex x167
   replace hXL159 := Bel.ex hXL159 x167
   replace hown15 := hown15.ext x167
   refine Rg_enter rfl (o_call1 call14 rfl) (Ok.mono (lkey_ok o.key (hkk _ (ofO_mem _ (hW ▸ (ho ▸ gm hk1)))) _) ?_)
   rintro _ w169 ⟨rfl, x170⟩
   have z171 := x170.size
   replace hX := hX.ex x170
   replace hXL159 := Bel.ex hXL159 x170
   replace hown15 := hown15.ext x170
   refine Rg_alst rfl rfl zeroValue55 rfl sizeOf55 (fun _ => rfl) rfl rfl ?_
   intro b18 w172 x173 hge18 hb18
   replace hown15 := hown15.mono (D' := fun g => n5 ≤ g ∧ g ≠ b17 ∧ g ≠ b18) (fun g h1 h2 => by omega)
   have hlt18 := hb18.lt
   change Box _ _ _ (encCk _) at hb18
   have z174 := x173.size
   replace hX := hX.ex x173
   replace hXL159 := Bel.ex hXL159 x173
   replace hown15 := hown15.ext x173
   refine Rg_nil (W_seq ?_)
   apply W_draw (β := False) [peq _, peq _, peq _, peq _, peq _, peq _, peq _, peq _, peq _, peq _, peq _, peq _, peq _] 13 mixed (by kernel_rfl) rfl ⟨peq_stable _, peq_stable _, peq_stable _, peq_stable _, peq_stable _, peq_stable _, peq_stable _, peq_stable _, peq_stable _, peq_stable _, peq_stable _, peq_stable _, peq_stable _, trivial⟩ ?ob36 ?fin36
   case ob36 =>
    refine OblL_cons (fun w175 x176 => ?_) ?_
    ·have z177 := x176.size
     refine bindP_nil ?_
     exact OpS_v rfl (o_moveh (v := .slice a15 Z.length c15) rfl)
    refine OblL_cons (fun w178 x179 => ?_) ?_
    ·have z180 := x179.size
     have hown15 := hown15.ext x179
     refine bindP_eq (bindP_nil ?_)
     exact OpS_v rfl (o_llenO underlying70 rfl hown15)
    refine OblL_cons (fun w181 x182 => ?_) ?_
    ·have z183 := x182.size
     refine bindP_eq (bindP_nil ?_)
     exact OpS_v rfl (o_eql rfl rfl)
    refine OblL_cons (fun w184 x185 => ?_) ?_
    ·have z186 := x185.size
     refine bindP_eq (bindP_nil ?_)
     exact OpS_v rfl (mvB rfl)
    refine OblL_cons (fun w187 x188 => ?_) ?_
    ·have z189 := x188.size
     refine bindP_eq (bindP_nil ?_)
     exact OpS_off 3 153 rfl (congrArg Value.bool (by rw [hem] <;> rfl)) rfl
    refine OblL_cons (fun w190 x191 => ?_) ?_
    ·have z192 := x191.size
     refine bindP_eq (bindP_nil ?_)
     exact OpS_off 3 153 rfl (congrArg Value.bool (by rw [hem] <;> rfl)) rfl
    refine OblL_cons (fun w193 x194 => ?_) ?_
    ·have z195 := x194.size
     refine bindP_eq (bindP_eq (bindP_nil ?_))
     exact OpS_off 3 153 rfl (congrArg Value.bool (by rw [hem] <;> rfl)) rfl
    refine OblL_cons (fun w196 x197 => ?_) ?_
    ·have z198 := x197.size
     refine bindP_eq (bindP_eq (bindP_nil ?_))
     exact OpS_off 3 153 rfl (congrArg Value.bool (by rw [hem] <;> rfl)) rfl
    refine OblL_cons (fun w199 x200 => ?_) ?_
    ·have z201 := x200.size
     refine bindP_eq (bindP_eq (bindP_eq (bindP_nil ?_)))
     exact OpS_off 3 153 rfl (congrArg Value.bool (by rw [hem] <;> rfl)) rfl
    refine OblL_cons (fun w202 x203 => ?_) ?_
    ·have z204 := x203.size
     refine bindP_eq (bindP_eq (bindP_nil ?_))
     exact OpS_off 3 153 rfl (congrArg Value.bool (by rw [hem] <;> rfl)) rfl
    refine OblL_cons (fun w205 x206 => ?_) ?_
    ·have z207 := x206.size
     refine bindP_eq (bindP_nil ?_)
     exact OpS_off 3 153 rfl (congrArg Value.bool (by rw [hem] <;> rfl)) rfl
    refine OblL_cons (fun w208 x209 => ?_) ?_
    ·have z210 := x209.size
     refine bindP_eq (bindP_eq (bindP_eq (bindP_nil ?_)))
     exact OpS_off 3 153 rfl (congrArg Value.bool (by rw [hem] <;> rfl)) rfl
    refine OblL_cons (fun w211 x212 => ?_) ?_
    ·have z213 := x212.size
     refine bindP_eq (bindP_eq (bindP_nil ?_))
     exact OpS_v rfl (o_pickT (v := .bool _) (congrArg Value.bool (by rw [hem] <;> rfl)) rfl)
    exact OblL_nil
   case fin36 =>
    intro w214 x215
    have z216 := x215.size
    replace hX := hX.ex x215
    replace hXL159 := Bel.ex hXL159 x215
    replace hown15 := hown15.ext x215
    replace hb18 := hb18.ext x215
    refine bindP_eq (bindP_eq (bindP_eq (bindP_eq (bindP_eq (bindP_eq (bindP_eq (bindP_eq (bindP_eq ?_))))))))
    refine bindP_eq (bindP_eq (bindP_eq (bindP_eq (bindP_nil (Rg_nil ?_)))))
    refine W_cond_true rfl ?_
    refine W_region ?_
    refine Rr (o_moveh (v := .slice a15 Z.length c15) rfl) ?_
    refine Rr (o_loadS isAgg55 sizeOf55 rfl hb18.at rfl) ?_
    refine Rg_bs (vs := [.agg _]) ([o.key]) rfl encCk_ok el_ck rfl rfl ⟨rfl, trivial⟩ rfl rfl rfl rfl ?_
    intro a165 w217 x218 hown165
    have z219 := x218.size
    replace hX := hX.ex x218
    replace hXL159 := Bel.ex hXL159 x218
    replace hown15 := hown15.ext x218
    replace hown165 := hown165.mono (D' := fun g => n5 ≤ g) (fun g h1 h2 => by omega)
    refine Rg_app rfl encCk_ok el_ck rfl rfl hown15 (hown165.slA encCk_ok) rfl (by rw [List.length_singleton]; omega) omU ?_
    intro v166 w220 x221 hown15
    have z222 := x221.size
    replace hX := Bel.out hX x221 om2
    replace hXL159 := Bel.out hXL159 x221 om2
    refine Rr (o_assignh (v := v166) rfl) ?_
    refine Rg_nil (W_region ?_)
    refine Rr (o_add rfl rfl omg) ?_
    refine Rr (mvI rfl) ?_
    refine Rg_nil ?_
    refine ⟨(k + 1, v166), ⟨sT, sT, trivial⟩, oT, ⟨?_, hXL159, ?_⟩, ?_⟩
    ·show k + 1 ≤ W.length; omega
    ·rw [ck_yes hk1 (by rw [← hZ, ← ho]; exact .inl hem), ← hZ, ← ho]; exact hown15.mono (fun g h1 h2 => by omega)
    ·show W.length - (k + 1) < W.length - k; omega
  obtain ⟨o, ho⟩ : ∃ o, o = (W.getD k coz) := ⟨_, rfl⟩
  rw [← ho] at hb17
  refine Rr (o_loadS isAgg44 sizeOf44 rfl hb17.at rfl) ?_
  refine Rg_enter rfl (o_call1 call15 rfl) (Ok.mono (rkey_ok o _) ?_)
  rintro _ w223 ⟨rfl, x224⟩
  have z225 := x224.size
  replace hX := hX.ex x224
  replace hXL159 := Bel.ex hXL159 x224
  replace hown15 := hown15.ext x224
  refine Rg_enter rfl (o_call1 call14 rfl) (Ok.mono (lkey_ok o.key (hkk _ (ofO_mem _ (hW ▸ (ho ▸ gm hk1)))) _) ?_)
  rintro _ w226 ⟨rfl, x227⟩
  have z228 := x227.size
  replace hX := hX.ex x227
  replace hXL159 := Bel.ex hXL159 x227
  replace hown15 := hown15.ext x227
  refine Rg_alst rfl rfl zeroValue55 rfl sizeOf55 (fun _ => rfl) rfl rfl ?_
  intro b18 w229 x230 hge18 hb18
  replace hown15 := hown15.mono (D' := fun g => n5 ≤ g ∧ g ≠ b17 ∧ g ≠ b18) (fun g h1 h2 => by omega)
  have hlt18 := hb18.lt
  change Box _ _ _ (encCk _) at hb18
  have z231 := x230.size
  replace hX := hX.ex x230
  replace hXL159 := Bel.ex hXL159 x230
  replace hown15 := hown15.ext x230
  refine Rg_nil (W_seq ?_)
  apply W_draw (β := False) [peq _, peq _, peq _, peq _, peq _, peq _, peq _, peq _, peq _, peq _, peq _, peq _, peq _] 13 mixed (by kernel_rfl) rfl ⟨peq_stable _, peq_stable _, peq_stable _, peq_stable _, peq_stable _, peq_stable _, peq_stable _, peq_stable _, peq_stable _, peq_stable _, peq_stable _, peq_stable _, peq_stable _, trivial⟩ ?ob36 ?fin36
  case ob36 =>
   refine OblL_cons (fun w232 x233 => ?_) ?_
   ·have z234 := x233.size
    refine bindP_nil ?_
    exact OpS_v rfl (o_moveh (v := .slice a15 Z.length c15) rfl)
   refine OblL_cons (fun w235 x236 => ?_) ?_
   ·have z237 := x236.size
    have hown15 := hown15.ext x236
    refine bindP_eq (bindP_nil ?_)
    exact OpS_v rfl (o_llenO underlying70 rfl hown15)
   refine OblL_cons (fun w238 x239 => ?_) ?_
   ·have z240 := x239.size
    refine bindP_eq (bindP_nil ?_)
    exact OpS_v rfl (o_eql rfl rfl)
   refine OblL_cons (fun w241 x242 => ?_) ?_
   ·have z243 := x242.size
    refine bindP_eq (bindP_nil ?_)
    exact OpS_v rfl (mvB rfl)
   refine OblL_cons (fun w244 x245 => ?_) ?_
   ·have z246 := x245.size
    refine bindP_eq (bindP_nil ?_)
    refine OpS_on 3 153 rfl (congrArg Value.bool (by rw [len_ne hem] <;> rfl)) ?_
    exact OpS_v rfl (o_moveh (v := .slice a15 Z.length c15) rfl)
   refine OblL_cons (fun w247 x248 => ?_) ?_
   ·have z249 := x248.size
    refine bindP_eq (bindP_nil ?_)
    refine OpS_on 3 153 rfl (congrArg Value.bool (by rw [len_ne hem] <;> rfl)) ?_
    exact OpS_v rfl (o_moveh (v := .slice a15 Z.length c15) rfl)
   refine OblL_cons (fun w250 x251 => ?_) ?_
   ·have z252 := x251.size
    have hown15 := hown15.ext x251
    refine bindP_eq (bindP_eq (bindP_nil ?_))
    refine OpS_on 3 153 rfl (congrArg Value.bool (by rw [len_ne hem] <;> rfl)) ?_
    exact OpS_v rfl (o_llenO underlying70 rfl hown15)
   refine OblL_cons (fun w253 x254 => ?_) ?_
   ·have z255 := x254.size
    refine bindP_eq (bindP_eq (bindP_nil ?_))
    refine OpS_on 3 153 rfl (congrArg Value.bool (by rw [len_ne hem] <;> rfl)) ?_
    exact OpS_v rfl (o_subN (p := Z.length) (b := 1) rfl rfl (by have := List.length_pos_iff.2 hem; omega) (by omega))
   refine OblL_cons (fun w256 x257 => ?_) ?_
   ·have z258 := x257.size
    have hown15 := hown15.ext x257
    refine bindP_eq (bindP_eq (bindP_eq (bindP_nil ?_)))
    refine OpS_on 3 153 rfl (congrArg Value.bool (by rw [len_ne hem] <;> rfl)) ?_
    exact OpS_v rfl (o_iaO (i := Z.length - 1) underlying70 sizeOf55 hown15 rfl rfl (by have := List.length_pos_iff.2 hem; omega))
   refine OblL_cons (fun w259 x260 => ?_) ?_
   ·have z261 := x260.size
    have hown15 := hown15.ext x260
    refine bindP_eq (bindP_eq (bindP_nil ?_))
    refine OpS_on 3 153 rfl (congrArg Value.bool (by rw [len_ne hem] <;> rfl)) ?_
    exact OpS_v rfl (o_ldRS isAgg55 sizeOf55 (hown15.slA encCk_ok) rfl (getE okz (by have := List.length_pos_iff.2 hem; omega)))
   refine OblL_cons (fun w262 x263 => ?_) ?_
   ·have z264 := x263.size
    have hb18 := hb18.ext x263
    refine bindP_eq (bindP_nil ?_)
    refine OpS_on 3 153 rfl (congrArg Value.bool (by rw [len_ne hem] <;> rfl)) ?_
    exact OpS_v rfl (o_loadS isAgg55 sizeOf55 rfl hb18.at rfl)
   refine OblL_cons (fun w265 x266 => ?_) ?_
   ·have z267 := x266.size
    refine bindP_eq (bindP_eq (bindP_eq (bindP_nil ?_)))
    refine OpS_on 3 153 rfl (congrArg Value.bool (by rw [len_ne hem] <;> rfl)) ?_
    exact OpS_v rfl (o_tneq eq_ck rfl rfl)
   refine OblL_cons (fun w268 x269 => ?_) ?_
   ·have z270 := x269.size
    refine bindP_eq (bindP_eq (bindP_nil ?_))
    exact OpS_v rfl (o_pickF (v := .bool _) (congrArg Value.bool (by rw [len_ne hem] <;> rfl)) rfl)
   exact OblL_nil
  case fin36 =>
   intro w271 x272
   have z273 := x272.size
   replace hX := hX.ex x272
   replace hXL159 := Bel.ex hXL159 x272
   replace hown15 := hown15.ext x272
   replace hb18 := hb18.ext x272
   refine bindP_eq (bindP_eq (bindP_eq (bindP_eq (bindP_eq (bindP_eq (bindP_eq (bindP_eq (bindP_eq ?_))))))))
   refine bindP_eq (bindP_eq (bindP_eq (bindP_eq (bindP_nil (Rg_nil ?_)))))
   refine W_cond rfl (fun hc15 => ?_) (fun hc15 => ?_)
   ·have hlast := bne_iff_ne.1 hc15
    refine W_region ?_
    refine Rr (o_moveh (v := .slice a15 Z.length c15) rfl) ?_
    refine Rr (o_loadS isAgg55 sizeOf55 rfl hb18.at rfl) ?_
    refine Rg_bs (vs := [.agg _]) ([o.key]) rfl encCk_ok el_ck rfl rfl ⟨rfl, trivial⟩ rfl rfl rfl rfl ?_
    intro a165 w274 x275 hown165
    have z276 := x275.size
    replace hX := hX.ex x275
    replace hXL159 := Bel.ex hXL159 x275
    replace hown15 := hown15.ext x275
    replace hown165 := hown165.mono (D' := fun g => n5 ≤ g) (fun g h1 h2 => by omega)
    refine Rg_app rfl encCk_ok el_ck rfl rfl hown15 (hown165.slA encCk_ok) rfl (by rw [List.length_singleton]; omega) omU ?_
    intro v166 w277 x278 hown15
    have z279 := x278.size
    replace hX := Bel.out hX x278 om2
    replace hXL159 := Bel.out hXL159 x278 om2
    refine Rr (o_assignh (v := v166) rfl) ?_
    refine Rg_nil (W_region ?_)
    refine Rr (o_add rfl rfl omg) ?_
    refine Rr (mvI rfl) ?_
    refine Rg_nil ?_
    refine ⟨(k + 1, v166), ⟨sT, sT, trivial⟩, oT, ⟨?_, hXL159, ?_⟩, ?_⟩
    ·show k + 1 ≤ W.length; omega
    ·rw [ck_yes hk1 (by rw [← hZ, ← ho]; exact .inr hlast), ← hZ, ← ho]; exact hown15.mono (fun g h1 h2 => by omega)
    ·show W.length - (k + 1) < W.length - k; omega
   have hlast := bne_eq_false_iff_eq.1 hc15
   refine W_skip (W_region ?_)
   refine Rr (o_add rfl rfl omg) ?_
   refine Rr (mvI rfl) ?_
   refine Rg_nil ?_
   refine ⟨(k + 1, .slice a15 Z.length c15), ⟨sT, sT, trivial⟩, oT, ⟨?_, hXL159, ?_⟩, ?_⟩
   ·show k + 1 ≤ W.length; omega
   ·rw [ck_no hk1 (by rw [← hZ]; exact hem) (by rw [← hZ, ← ho]; exact hlast), ← hZ]; exact hown15.mono (fun g h1 h2 => by omega)
   ·show W.length - (k + 1) < W.length - k; omega
 have hk1 : ¬ k < W.length := by have := of_decide_eq_false hc13; omega
 refine W_exit (exAt_hit (W_seq (W_region ?_)))
 refine Rr (o_loadS isAgg63 sizeOf63 rfl hb11.at rfl) ?_
 refine Rg_enter rfl (o_call1 call22 rfl) (Ok.mono (ckeys_ok a116 c116 _ W _ hs116 (by omega)) ?_)
 rintro v169 w280 ⟨hown169, x281⟩
 have z282 := x281.size
 replace hX := hX.ex x281
 replace hown15 := hown15.ext x281
 replace hown169 := hown169.mono (D' := fun g => n5 ≤ g) (fun g h1 h2 => by omega)
 refine Rr (o_moveh (v := .slice a15 Z.length c15) rfl) ?_
 refine Rg_enter rfl (o_call2 call21 rfl rfl) (Ok.mono (ckeq_okV _ _ _ _ _ _ _ (hown169.rd encCk_ok) (hown15.rd encCk_ok)) ?_)
 rintro _ w283 ⟨rfl, x284⟩
 have z285 := x284.size
 replace hX := hX.ex x284
 refine Rr (asB rfl) ?_
 refine Rg_nil (W_ret ?_)
 refine ⟨_, res_tmp rfl rfl, ?_⟩
 refine ⟨congrArg Value.bool ?_, hX⟩
 all_goals
  have hkW : k = W.length := by omega
  rw [hZ, hkW, List.take_length]
  exact beq_self_eq_true (keysO W)

end Go.Proofs.YtdnkjdmfnmdpdaaGreatDoor
