/- Walks: what functions return. -/
import Derived.Test.YtecjjgljkepajaaGreatDoorWmset
import Derived.Test.YtecjjgljkepajaaGreatDoorWr51r
import Derived.Test.YtecjjgljkepajaaGreatDoorWmk50
import Derived.Test.YtecjjgljkepajaaGreatDoorWmk24m
import Derived.Test.YtecjjgljkepajaaGreatDoorWl50
import Derived.Test.YtecjjgljkepajaaGreatDoorSt
set_option linter.unusedVariables false
set_option linter.unusedSimpArgs false
set_option linter.unnecessarySimpa false
namespace Go.Proofs.YtecjjgljkepajaaGreatDoor
open Go Go.Lx Go.RowKit
set_option maxRecDepth 100000
theorem cofV_ok (v : Value) (l : List COp) (w : World) (hl : Rd encCo 8 (Lt w.heap.size) w v l) (hn : l.length ≤ 100000) (hvs : VS l) : Ok Tryz.prog 23 #[v] w fun v w' => (∃ a c, v = .tuple #[.agg #[.slice a l.length c], .int .i64 0] ∧ Sl encCo 8 (Fsh w w') w' a c l) ∧ Ext False w w' :=
 (cof_ok w v l hl hn (fun x hx => (hvs.v x hx).ok)).mono fun v w' h => by rw [hvs.of] at h; exact h
set_option maxHeartbeats 4000000 in
theorem lsets_ok (w : World) (v0 : Value) (p : List UInt8) (hp0 : Rd encB 1 (Lt w.heap.size) w v0 p) (v1 : Value) (l : List RawC) (hl0 : Rd encRaw 6 (Lt w.heap.size) w v1 l) (v2 : Value) (m : List RawC) (hm0 : Rd encRaw 6 (Lt w.heap.size) w v2 m) : Ok Tryz.prog 7 #[v0, v1, v2] w fun v w' => (∃ a1 c1 a2 c2 a3 c3 a4 c4 X Y, v = .tuple #[.agg #[.slice a1 (X : List COp).length c1], .agg #[.slice a2 (Y : List COp).length c2], .slice a3 X.length c3, .slice a4 Y.length c4, .bool true] ∧ (VS X ∧ VS Y ∧ X.length ≤ 10 ∧ Y.length ≤ 10) ∧ Sl encCo 8 (Fsh w w') w' a1 c1 X ∧ Sl encCo 8 (Fsh w w') w' a2 c2 Y ∧ Sl encRo 8 (Fsh w w') w' a3 c3 X ∧ Sl encRo 8 (Fsh w w') w' a4 c4 Y) ∧ Ext False w w' := by
 obtain ⟨ap, cpp, rfl, hp0⟩ := hp0; obtain ⟨ar, cr, rfl, hl0⟩ := hl0; obtain ⟨am, cm, rfl, hm0⟩ := hm0
 have hlp := hp0.len; have hll := hl0.len; have hlm := hm0.len
 replace hp0 := hp0.mono (F' := fun g => g < w.heap.size) (fun g h1 h2 => h1)
 replace hl0 := hl0.mono (F' := fun g => g < w.heap.size) (fun g h1 h2 => h1)
 replace hm0 := hm0.mono (F' := fun g => g < w.heap.size) (fun g h1 h2 => h1)
 refine Ok_of_W 41 Tryz.func7 rfl rfl rfl ?_
 have hX : Ext False w w := Bel.refl _ _
 refine W_seq (W_region ?_)
 refine Rg_newB rfl (o_alloc Tryz.zeroValue27) ?_
 intro b6 w1 x2 hge6 hb6
 have hlt6 := hb6.lt
 change Box _ _ _ ([.slice _ _ _]) at hb6
 have z3 := x2.size
 replace hX := hX.ex x2
 replace hp0 := hp0.ext x2
 replace hl0 := hl0.ext x2
 replace hm0 := hm0.ext x2
 refine Rg_newB rfl (o_alloc Tryz.zeroValue27) ?_
 intro b7 w4 x5 hge7 hb7
 have hlt7 := hb7.lt
 change Box _ _ _ ([.slice _ _ _]) at hb7
 have z6 := x5.size
 replace hX := hX.ex x5
 replace hp0 := hp0.ext x5
 replace hl0 := hl0.ext x5
 replace hm0 := hm0.ext x5
 replace hb6 := hb6.ext x5
 refine Rr o_assignc ?_
 refine Rr o_assignc ?_
 refine Rr o_assignc ?_
 refine Rg_nil (W_seq (W_region ?_))
 refine Rr (mvS rfl) ?_
 refine Rg_enter rfl (o_call1 Tryz.call25 rfl) (Ok.mono (make24_ok _ _ p _ ⟨_, _, rfl, hp0⟩) ?_)
 rintro v14 w7 ⟨hst14, x8⟩
 have z9 := x8.size
 replace hX := hX.ex x8
 replace hl0 := hl0.ext x8
 replace hm0 := hm0.ext x8
 replace hb6 := hb6.ext x8
 replace hb7 := hb7.ext x8
 obtain ⟨aU, nU, cU, aR, nR, cR, ad, aX, nX, cX, aY, nY, cY, aZ, nZ, cZ, aL, cL, L, aM, cM, M, aG, cG, G, hv14, hL, hM, hG, hGk, hl1, hl2⟩ := hst14
 subst hv14
 refine Rg_alst rfl rfl Tryz.zeroValue77 rfl Tryz.sizeOf77 (fun _ => rfl) rfl rfl ?_
 intro b11 w10 x11 hge11 hb11
 have hlt11 := hb11.lt
 change Box _ _ _ (stC _ _ _ _ _ _ _ _ _ _) at hb11
 have z12 := x11.size
 replace hX := hX.ex x11
 replace hl0 := hl0.ext x11
 replace hm0 := hm0.ext x11
 replace hb6 := hb6.ext x11
 replace hb7 := hb7.ext x11
 replace hL := hL.ext x11
 replace hM := hM.ext x11
 replace hG := hG.ext x11
 refine Rg_nil (W_seq ?_)
 obtain ⟨n4, hn4⟩ : ∃ n, n = w10.heap.size := ⟨_, rfl⟩
 apply W_drawC (β := False) (fun _ => 0) [peqC _, peqC _, (postW (ListIs encRo 8 n4 (fun O => O.length ≤ 10 ∧ ∀ o ∈ O, o.p.ok))), (postW (ListIs encRo 8 n4 (fun X => VS X ∧ X.length ≤ 10))), peqC _, peqC _, (postW (ListIs encRo 8 n4 (fun O => O.length ≤ 10 ∧ ∀ o ∈ O, o.p.ok))), (postW (ListIs encRo 8 n4 (fun X => VS X ∧ X.length ≤ 10))), (postW (ListIs encRo 8 n4 (fun X => VS X ∧ X.length ≤ 10)))] [0, 0, 0, 0, 0, 0, 0, 0, 0] 9 mixed (by kernel_rfl) (by kernel_rfl) rfl ⟨peqC_stable _ _, peqC_stable _ _, (postW_stable (ListIs.keepS _ _ _ _)), (postW_stable (ListIs.keepS _ _ _ _)), peqC_stable _ _, peqC_stable _ _, (postW_stable (ListIs.keepS _ _ _ _)), (postW_stable (ListIs.keepS _ _ _ _)), (postW_stable (ListIs.keepS _ _ _ _)), trivial⟩ ?ob2 ?fin2
 case ob2 =>
  refine OblC_cons (fun w13 c15 x14 hc016 hk17 => ?_) ?_
  ·replace x14 := RelG.ext0 x14
   have z18 := x14.size
   refine bindC_nil ?_
   exact OpC_v rfl (mvS rfl)
  refine OblC_cons (fun w19 c21 x20 hc022 hk23 => ?_) ?_
  ·replace x20 := RelG.ext0 x20
   have z24 := x20.size
   have hb11 := hb11.ext x20
   refine bindC_nil ?_
   exact OpC_v rfl (o_loadS Tryz.isAgg77 Tryz.sizeOf77 rfl hb11.at rfl)
  refine OblC_cons (fun w25 c27 x26 hc028 hk29 => ?_) ?_
  ·replace x26 := RelG.ext0 x26
   have z30 := x26.size
   have hl0 := hl0.ext x26
   have hL := hL.ext x26
   have hM := hM.ext x26
   have hG := hG.ext x26
   refine bindC_eq (bindC_eq (bindC_nil ?_))
   exact OpC_W (S := ListIs encRo 8 n4 (fun O => O.length ≤ 10 ∧ ∀ o ∈ O, o.p.ok)) rfl (o_call2 Tryz.call27 rfl rfl) ((make50_ok _ _ l _ _ _ ⟨_, _, rfl, hl0⟩ (st_pack hL hM hG hGk hl1 hl2)).mono (fun v w2 ⟨⟨O, h1, h2, h3⟩, x⟩ => ⟨⟨fun g hg => by have := hg.1; omega, O, h1.rd encRo_ok, h2, h3⟩, x⟩))
  refine OblC_cons (fun w31 c33 x32 hc034 hk35 => ?_) ?_
  ·replace x32 := RelG.ext0 x32
   have z36 := x32.size
   refine bindC_mem (fun v17 hv17 => ?_)
   obtain ⟨F17, hF17, hn17, M17, hr17, hl17, hok17⟩ := hv17
   refine bindC_mem (fun v17 hv17 => ?_)
   obtain ⟨F17, hF17, hn17, M17, hr17, hl17, hok17⟩ := hv17
   refine bindC_nil ?_
   exact OpC_W (S := ListIs encRo 8 n4 (fun X => VS X ∧ X.length ≤ 10)) rfl (o_call1 Tryz.call26 rfl) ((rset5_ok _ _ M17 hr17.top (by omega) hok17).mono (fun v w2 ⟨⟨X, h1, h2, h3⟩, x⟩ => ⟨⟨fun g hg => by have := hg.1; omega, X, h3.rd encRo_ok, h1, by omega⟩, x⟩))
  refine OblC_cons (fun w37 c39 x38 hc040 hk41 => ?_) ?_
  ·replace x38 := RelG.ext0 x38
   have z42 := x38.size
   refine bindC_nil ?_
   exact OpC_v rfl (mvS rfl)
  refine OblC_cons (fun w43 c45 x44 hc046 hk47 => ?_) ?_
  ·replace x44 := RelG.ext0 x44
   have z48 := x44.size
   have hb11 := hb11.ext x44
   refine bindC_nil ?_
   exact OpC_v rfl (o_loadS Tryz.isAgg77 Tryz.sizeOf77 rfl hb11.at rfl)
  refine OblC_cons (fun w49 c51 x50 hc052 hk53 => ?_) ?_
  ·replace x50 := RelG.ext0 x50
   have z54 := x50.size
   have hm0 := hm0.ext x50
   have hL := hL.ext x50
   have hM := hM.ext x50
   have hG := hG.ext x50
   refine bindC_eq (bindC_eq ?_)
   refine bindC_mem (fun v18 hv18 => ?_)
   obtain ⟨F18, hF18, hn18, X18, ⟨a18, c18, rfl, hs18⟩, hvs18, hxl18⟩ := hv18
   refine bindC_nil ?_
   exact OpC_W (S := ListIs encRo 8 n4 (fun O => O.length ≤ 10 ∧ ∀ o ∈ O, o.p.ok)) rfl (o_call2 Tryz.call27 rfl rfl) ((make50_ok _ _ m _ _ _ ⟨_, _, rfl, hm0⟩ (st_pack hL hM hG hGk hl1 hl2)).mono (fun v w2 ⟨⟨O, h1, h2, h3⟩, x⟩ => ⟨⟨fun g hg => by have := hg.1; omega, O, h1.rd encRo_ok, h2, h3⟩, x⟩))
  refine OblC_cons (fun w55 c57 x56 hc058 hk59 => ?_) ?_
  ·replace x56 := RelG.ext0 x56
   have z60 := x56.size
   refine bindC_mem (fun v21 hv21 => ?_)
   obtain ⟨F21, hF21, hn21, M21, hr21, hl21, hok21⟩ := hv21
   refine bindC_mem (fun v21 hv21 => ?_)
   obtain ⟨F21, hF21, hn21, M21, hr21, hl21, hok21⟩ := hv21
   refine bindC_nil ?_
   exact OpC_W (S := ListIs encRo 8 n4 (fun X => VS X ∧ X.length ≤ 10)) rfl (o_call1 Tryz.call26 rfl) ((rset5_ok _ _ M21 hr21.top (by omega) hok21).mono (fun v w2 ⟨⟨X, h1, h2, h3⟩, x⟩ => ⟨⟨fun g hg => by have := hg.1; omega, X, h3.rd encRo_ok, h1, by omega⟩, x⟩))
  refine OblC_cons (fun w61 c63 x62 hc064 hk65 => ?_) ?_
  ·replace x62 := RelG.ext0 x62
   have z66 := x62.size
   refine bindC_mem (fun v18 hv18 => ?_)
   obtain ⟨F18, hF18, hn18, X18, ⟨a18, c18, rfl, hs18⟩, hvs18, hxl18⟩ := hv18
   refine bindC_mem (fun v22 hv22 => ?_)
   refine bindC_eq (bindC_eq ?_)
   refine bindC_mem (fun v17 hv17 => ?_)
   obtain ⟨F17, hF17, hn17, M17, hr17, hl17, hok17⟩ := hv17
   refine bindC_mem (fun v18 hv18 => ?_)
   obtain ⟨F18, hF18, hn18, X18, ⟨a18, c18, rfl, hs18⟩, hvs18, hxl18⟩ := hv18
   refine bindC_nil ?_
   exact OpC_vp rfl (o_assignh rfl) ⟨F18, hF18, hn18, X18, ⟨a18, c18, rfl, hs18⟩, hvs18, hxl18⟩
  exact OblC_nil
 case fin2 =>
  intro w67 c69 x68 hc070
  replace x68 := RelG.ext0 x68
  have z71 := x68.size
  replace hX := hX.ex x68
  replace hb6 := hb6.ext x68
  replace hb7 := hb7.ext x68
  refine bindC_eq (bindC_eq ?_)
  refine bindC_mem (fun v17 hv17 => ?_)
  obtain ⟨F17, hF17, hn17, M17, hr17, hl17, hok17⟩ := hv17
  refine bindC_mem (fun v18 hv18 => ?_)
  obtain ⟨F18, hF18, hn18, X18, ⟨a18, c18, rfl, hs18⟩, hvs18, hxl18⟩ := hv18
  refine bindC_eq (bindC_eq ?_)
  refine bindC_mem (fun v21 hv21 => ?_)
  obtain ⟨F21, hF21, hn21, M21, hr21, hl21, hok21⟩ := hv21
  refine bindC_mem (fun v22 hv22 => ?_)
  refine bindC_mem (fun v8 hv8 => ?_)
  refine bindC_nil ?_
  obtain ⟨F22, hF22, hn22, X22, ⟨a22, c22, rfl, hs22⟩, hvs22, hxl22⟩ := hv22
  replace hs22 := hs22.mono (F' := fun g => n4 ≤ g) (fun g _ h => hn22 g h)
  obtain ⟨F8, hF8, hn8, X8, ⟨a8, c8, rfl, hs8⟩, hvs8, hxl8⟩ := hv8
  replace hs8 := hs8.mono (F' := fun g => n4 ≤ g) (fun g _ h => hn8 g h)
  refine Rr (asS rfl) ?_
  refine Rg_nil (W_seq (W_region ?_))
  refine Rr (mvS rfl) ?_
  refine Rg_enter rfl (o_call1 Tryz.call28 rfl) (Ok.mono (lset_ok _ _ X8 hs8.trd (by omega) hvs8) ?_)
  rintro _ w72 ⟨⟨a25, c25, rfl, hs25⟩, x73⟩
  have z74 := x73.size
  replace hX := hX.ex x73
  replace hb6 := hb6.ext x73
  replace hb7 := hb7.ext x73
  replace hs22 := hs22.ext x73
  replace hs8 := hs8.ext x73
  refine Rr (o_moveh (v := .tuple _) rfl) ?_
  refine Rr (o_extract rfl rfl) ?_
  refine Rr (o_extract rfl rfl) ?_
  refine Rg_storeW (v := .agg _) rfl Tryz.sizeOf27 rfl rfl hb6 rfl rfl rfl ?_
  intro w75 c76 hb6
  change Box _ _ _ (wsS _ _ _) at hb6
  have z77 := Bel.size c76
  replace hX := Bel.out hX c76 (fun g h1 h2 => by first | exact h2 | omega)
  replace hb7 := hb7.keep c76 (fun h => by omega)
  replace hs22 := hs22.keep c76 (fun g h1 h2 h3 => by omega)
  replace hs8 := hs8.keep c76 (fun g h1 h2 h3 => by omega)
  replace hs25 := hs25.keep c76 (fun g h1 h2 h3 => by omega)
  refine Rr (asB rfl) ?_
  refine Rg_nil (W_seq (W_region ?_))
  refine Rr (mvS rfl) ?_
  refine Rg_enter rfl (o_call1 Tryz.call28 rfl) (Ok.mono (lset_ok _ _ X22 hs22.trd (by omega) hvs22) ?_)
  rintro _ w78 ⟨⟨a30, c30, rfl, hs30⟩, x79⟩
  have z80 := x79.size
  replace hX := hX.ex x79
  replace hb6 := hb6.ext x79
  replace hb7 := hb7.ext x79
  replace hs22 := hs22.ext x79
  replace hs8 := hs8.ext x79
  replace hs25 := hs25.ext x79
  refine Rr (o_moveh (v := .tuple _) rfl) ?_
  refine Rr (o_extract rfl rfl) ?_
  refine Rr (o_extract rfl rfl) ?_
  refine Rg_storeW (v := .agg _) rfl Tryz.sizeOf27 rfl rfl hb7 rfl rfl rfl ?_
  intro w81 c82 hb7
  change Box _ _ _ (wsS _ _ _) at hb7
  have z83 := Bel.size c82
  replace hX := Bel.out hX c82 (fun g h1 h2 => by first | exact h2 | omega)
  replace hb6 := hb6.keep c82 (fun h => by omega)
  replace hs22 := hs22.keep c82 (fun g h1 h2 h3 => by omega)
  replace hs8 := hs8.keep c82 (fun g h1 h2 h3 => by omega)
  replace hs25 := hs25.keep c82 (fun g h1 h2 h3 => by omega)
  replace hs30 := hs30.keep c82 (fun g h1 h2 h3 => by omega)
  refine Rr (asB rfl) ?_
  refine Rg_nil (W_seq ?_)
  apply W_drawC (β := False) (fun b => if b = b6 then 1 else if b = b7 then 2 else 0) [peqC _, peqC _, peqC _, peqC _, peqC _, peqC _, peqC _, peqC _, (postAt b6 1 _ (wsS _ _ _)), (postAt b7 2 _ (wsS _ _ _)), peqC _, peqC _] [0, 0, 0, 0, 0, 0, 0, 0, 1, 2, 0, 0] 12 mixed (by kernel_rfl) (by kernel_rfl) rfl ⟨peqC_stable _ _, peqC_stable _ _, peqC_stable _ _, peqC_stable _ _, peqC_stable _ _, peqC_stable _ _, peqC_stable _ _, peqC_stable _ _, (postAt_stable), (postAt_stable), peqC_stable _ _, peqC_stable _ _, trivial⟩ ?ob5 ?fin5
  case ob5 =>
   refine OblC_cons (fun w84 c86 x85 hc087 hk88 => ?_) ?_
   ·replace x85 := Bel.mono x85 (D' := fun g => g = b6 ∨ g = b7) (fun g hg h => Classical.byContradiction fun hn => h (by (try simp only [not_or] at hn); simp [hn]))
    have z89 := x85.size
    have hb6 := hb6.blk (hk88 1 (by decide) (by kernel_rfl) _ hb6.lt (by first | (simp [colAt]; done) | (simp [colAt]; omega)))
    refine bindC_nil ?_
    exact OpC_v rfl (o_loadS Tryz.isAgg27 Tryz.sizeOf27 rfl hb6.at rfl)
   refine OblC_cons (fun w90 c92 x91 hc093 hk94 => ?_) ?_
   ·replace x91 := Bel.mono x91 (D' := fun g => g = b6 ∨ g = b7) (fun g hg h => Classical.byContradiction fun hn => h (by (try simp only [not_or] at hn); simp [hn]))
    have z95 := x91.size
    have hb7 := hb7.blk (hk94 2 (by decide) (by kernel_rfl) _ hb7.lt (by first | (simp [colAt]; done) | (simp [colAt]; omega)))
    refine bindC_nil ?_
    exact OpC_v rfl (o_loadS Tryz.isAgg27 Tryz.sizeOf27 rfl hb7.at rfl)
   refine OblC_cons (fun w96 c98 x97 hc099 hk100 => ?_) ?_
   ·replace x97 := Bel.mono x97 (D' := fun g => g = b6 ∨ g = b7) (fun g hg h => Classical.byContradiction fun hn => h (by (try simp only [not_or] at hn); simp [hn]))
    have z101 := x97.size
    refine bindC_nil ?_
    exact OpC_v rfl (mvS rfl)
   refine OblC_cons (fun w102 c104 x103 hc0105 hk106 => ?_) ?_
   ·replace x103 := Bel.mono x103 (D' := fun g => g = b6 ∨ g = b7) (fun g hg h => Classical.byContradiction fun hn => h (by (try simp only [not_or] at hn); simp [hn]))
    have z107 := x103.size
    refine bindC_nil ?_
    exact OpC_v rfl (mvS rfl)
   refine OblC_cons (fun w108 c110 x109 hc0111 hk112 => ?_) ?_
   ·replace x109 := Bel.mono x109 (D' := fun g => g = b6 ∨ g = b7) (fun g hg h => Classical.byContradiction fun hn => h (by (try simp only [not_or] at hn); simp [hn]))
    have z113 := x109.size
    refine bindC_nil ?_
    exact OpC_v rfl (mvB rfl)
   refine OblC_cons (fun w114 c116 x115 hc0117 hk118 => ?_) ?_
   ·replace x115 := Bel.mono x115 (D' := fun g => g = b6 ∨ g = b7) (fun g hg h => Classical.byContradiction fun hn => h (by (try simp only [not_or] at hn); simp [hn]))
    have z119 := x115.size
    refine bindC_eq (bindC_nil ?_)
    exact OpC_v rfl (mvB rfl)
   refine OblC_cons (fun w120 c122 x121 hc0123 hk124 => ?_) ?_
   ·replace x121 := Bel.mono x121 (D' := fun g => g = b6 ∨ g = b7) (fun g hg h => Classical.byContradiction fun hn => h (by (try simp only [not_or] at hn); simp [hn]))
    have z125 := x121.size
    refine bindC_eq (bindC_nil ?_)
    refine OpC_on 5 38 rfl rfl ?_
    exact OpC_v rfl (mvB rfl)
   refine OblC_cons (fun w126 c128 x127 hc0129 hk130 => ?_) ?_
   ·replace x127 := Bel.mono x127 (D' := fun g => g = b6 ∨ g = b7) (fun g hg h => Classical.byContradiction fun hn => h (by (try simp only [not_or] at hn); simp [hn]))
    have z131 := x127.size
    refine bindC_eq (bindC_eq (bindC_nil ?_))
    exact OpC_v rfl (o_pickT (v := .bool _) rfl rfl)
   refine OblC_cons (fun w132 c134 x133 hc0135 hk136 => ?_) ?_
   ·replace x133 := Bel.mono x133 (D' := fun g => g = b6 ∨ g = b7) (fun g hg h => Classical.byContradiction fun hn => h (by (try simp only [not_or] at hn); simp [hn]))
    have z137 := x133.size
    refine bindC_eq (bindC_eq (bindC_eq (bindC_nil ?_)))
    exact OpC_storeW (v := .agg _) (by decide) Tryz.sizeOf27 rfl rfl (hb6.blk (hk136 1 (by decide) (by kernel_rfl) _ hb6.lt (by first | (simp [colAt]; done) | (simp [colAt]; omega)))) ((hc0135 b6 hb6.lt).trans (by first | (simp [colAt]; done) | (simp [colAt]; omega))) rfl rfl rfl
   refine OblC_cons (fun w138 c140 x139 hc0141 hk142 => ?_) ?_
   ·replace x139 := Bel.mono x139 (D' := fun g => g = b6 ∨ g = b7) (fun g hg h => Classical.byContradiction fun hn => h (by (try simp only [not_or] at hn); simp [hn]))
    have z143 := x139.size
    refine bindC_eq ?_
    refine bindC_st (fun _ hst8 => ?_)
    refine bindC_eq (bindC_eq ?_)
    refine bindC_st (fun _ hst8 => ?_)
    refine bindC_nil ?_
    exact OpC_storeW (v := .agg _) (by decide) Tryz.sizeOf27 rfl rfl (hb7.blk (hk142 2 (by decide) (by kernel_rfl) _ hb7.lt (by first | (simp [colAt]; done) | (simp [colAt]; omega)))) ((hc0141 b7 hb7.lt).trans (by first | (simp [colAt]; done) | (simp [colAt]; omega))) rfl rfl rfl
   refine OblC_cons (fun w144 c146 x145 hc0147 hk148 => ?_) ?_
   ·replace x145 := Bel.mono x145 (D' := fun g => g = b6 ∨ g = b7) (fun g hg h => Classical.byContradiction fun hn => h (by (try simp only [not_or] at hn); simp [hn]))
    have z149 := x145.size
    refine bindC_eq ?_
    refine bindC_st (fun _ hst9 => ?_)
    refine bindC_eq (bindC_eq (bindC_eq ?_))
    refine bindC_st (fun _ hst8 => ?_)
    refine bindC_st (fun _ hst9 => ?_)
    refine bindC_nil ?_
    exact OpC_v rfl (asS rfl)
   refine OblC_cons (fun w150 c152 x151 hc0153 hk154 => ?_) ?_
   ·replace x151 := Bel.mono x151 (D' := fun g => g = b6 ∨ g = b7) (fun g hg h => Classical.byContradiction fun hn => h (by (try simp only [not_or] at hn); simp [hn]))
    have z155 := x151.size
    refine bindC_eq (bindC_eq (bindC_eq (bindC_eq (bindC_eq (bindC_eq ?_)))))
    refine bindC_st (fun _ hst8 => ?_)
    refine bindC_st (fun _ hst9 => ?_)
    refine bindC_eq (bindC_nil ?_)
    exact OpC_v rfl (asS rfl)
   exact OblC_nil
  case fin5 =>
   intro w156 c158 x157 hc0159
   replace x157 := Bel.mono x157 (D' := fun g => g = b6 ∨ g = b7) (fun g hg h => Classical.byContradiction fun hn => h (by (try simp only [not_or] at hn); simp [hn]))
   have z160 := x157.size
   replace hX := Bel.out hX x157 (fun g h1 h2 => by first | exact h2 | omega)
   replace hs22 := hs22.keep x157 (fun g h1 h2 h3 => by omega)
   replace hs8 := hs8.keep x157 (fun g h1 h2 h3 => by omega)
   replace hs25 := hs25.keep x157 (fun g h1 h2 h3 => by omega)
   replace hs30 := hs30.keep x157 (fun g h1 h2 h3 => by omega)
   refine bindC_eq (bindC_eq (bindC_eq (bindC_eq (bindC_eq (bindC_eq (bindC_eq (bindC_eq ?_)))))))
   refine bindC_lk rfl (fun hst8 => ?_)
   refine bindC_lk rfl (fun hst9 => ?_)
   refine bindC_eq (bindC_eq (bindC_nil ?_))
   have hb6 := hst8.1
   have hb7 := hst9.1
   refine Rr (asB rfl) ?_
   refine Rg_nil (W_ret ?_)
   refine ⟨_, res_T (vs := [.agg _, .agg _, .slice _ _ _, .slice _ _ _, .bool _]) rfl ⟨rv_cellS Tryz.isAgg27 Tryz.sizeOf27 rfl hb6.at rfl, rv_cellS Tryz.isAgg27 Tryz.sizeOf27 rfl hb7.at rfl, rfl, rfl, rfl, trivial⟩ (by simp), ?_⟩
   exact ⟨⟨a25, c25, a30, c30, a8, c8, a22, c22, X8, X22, rfl, ⟨hvs8, hvs22, hxl8, hxl22⟩, hs25.mono (fun g h1 h2 => ⟨by have := h2.1; omega, h1⟩), hs30.mono (fun g h1 h2 => ⟨by have := h2.1; omega, h1⟩), hs8.mono (fun g h1 h2 => ⟨by omega, h1⟩), hs22.mono (fun g h1 h2 => ⟨by omega, h1⟩)⟩, hX⟩

theorem lawop_ok (x : Bool) (u n : Int) (w : World) : Ok Tryz.prog 22 #[.bool x, .int .i64 u, .int .i64 n] w fun v w' => v = .agg (encCo (awO x u n)).toArray ∧ Ext False w w' := by
 refine Ok_of_W 11 Tryz.func22 rfl rfl rfl ?_
 have hX : Ext False w w := Bel.refl _ _
 refine W_seq (W_region ?_)
 refine Rg_newB rfl (o_alloc Tryz.zeroValue59) ?_
 intro b6 w1 x2 hge6 hb6
 have hlt6 := hb6.lt
 change Box _ _ _ ([.bool _, .int _ _, .int _ _, .int _ _, .int _ _, str _, str _, .bool _]) at hb6
 have z3 := x2.size
 replace hX := hX.ex x2
 refine Rg_nil (W_seq (W_region ?_))
 refine Rr (mvB rfl) ?_
 refine Rr (mvI rfl) ?_
 refine Rr (mvI rfl) ?_
 refine Rr (o_build (cells := encCo (awO x u n)) (vs := [(0, .bool _), (1, .int _ _), (2, .int _ _), (3, .int _ _), (4, .int _ _)]) rfl (by kernel_rfl)) ?_
 refine Rg_storeW (v := .agg _) rfl Tryz.sizeOf59 rfl rfl hb6 rfl rfl rfl ?_
 intro w4 c5 hb6
 change Box _ _ _ (encCo _) at hb6
 have z6 := Bel.size c5
 replace hX := Bel.out hX c5 (fun g h1 h2 => by first | exact h2 | omega)
 refine Rg_nil (W_ret ?_)
 refine ⟨_, res_1 (v := .agg _) rfl (rv_cellS Tryz.isAgg59 Tryz.sizeOf59 rfl hb6.at rfl), ?_⟩
 exact ⟨rfl, hX⟩

theorem msetsA_ok (a b : Option Addr) (c d : Nat) (G H : Nat → Prop) (w : World) (hs : Sl encCo 8 G w a c awA) (ht : Sl encCo 8 H w b d awB) : Ok Tryz.prog 8 #[.agg #[.slice a awA.length c], .agg #[.slice b awB.length d]] w fun v w' => (∃ a' c' u, v = .tuple #[.agg #[.slice a' ([awO true 2 5, awG] : List COp).length c'], u] ∧ Sl encCo 8 (Fsh w w') w' a' c' [awO true 2 5, awG] ∧ Own encCc 22 61 (Fsh w w') w' u [(⟨⟨1, 1, 2, pz⟩, awO true 1 9, awO true 1 7⟩ : Cfl)]) ∧ Ext False w w' := by
 have h := msets_ok a b c d G H awA awB w hs ht awA_vs awB_vs (by decide) (by decide)
 rw [aw_both, aw_cfl] at h
 exact h
theorem mresA_ok (a b : Option Addr) (c d : Nat) (G H : Nat → Prop) (w : World) (hs : Sl encCo 8 G w a c awA) (ht : Sl encCo 8 H w b d awB) (v2 : Value) (hch0 : Rd encBl 1 (Lt w.heap.size) w v2 [true]) : Ok Tryz.prog 15 #[.agg #[.slice a awA.length c], .agg #[.slice b awB.length d], v2] w fun v w' => (∃ a' c', v = .tuple #[.agg #[.slice a' ([awO false 1 5, awO true 1 9, awO true 2 5, awG] : List COp).length c'], .int .i64 0] ∧ Sl encCo 8 (Fsh w w') w' a' c' [awO false 1 5, awO true 1 9, awO true 2 5, awG]) ∧ Ext False w w' := by
 have h := mres_ok a b c d G H awA awB w hs ht awA_vs awB_vs (by decide) (by decide) v2 [true] hch0
 rw [aw_res] at h
 exact h
theorem mcommA_ok (a b : Option Addr) (c d : Nat) (G H : Nat → Prop) (w : World) (hs : Sl encCo 8 G w a c awA) (ht : Sl encCo 8 H w b d awB) : Ok Tryz.prog 12 #[.agg #[.slice a awA.length c], .agg #[.slice b awB.length d]] w fun v w' => v = .bool false ∧ Ext False w w' := by
 have h := mcomm_ok a b c d G H awA awB w hs ht awA_vs awB_vs (by decide) (by decide)
 rw [aw_com] at h
 exact h
set_option maxHeartbeats 4000000 in
theorem awake51_ok (w : World) : Ok Tryz.prog 6 #[] w fun v w' => v = .bool true ∧ Ext False w w' := by
 refine Ok_of_W 108 Tryz.func6 rfl rfl rfl ?_
 have hX : Ext False w w := Bel.refl _ _
 refine W_seq (W_region ?_)
 refine Rr o_assignc ?_
 refine Rg_nil (W_seq (W_region ?_))
 refine Rr o_assignf ?_
 refine Rg_nil (W_seq (W_region ?_))
 refine Rr (o_build (cells := encP awG.p) (vs := [(0, str _), (1, str _)]) rfl (by kernel_rfl)) ?_
 refine Rr (o_build (cells := encCo awG) (vs := [(0, .bool _), (1, .int _ _), (2, .int _ _), (5, .agg _)]) rfl (by kernel_rfl)) ?_
 refine Rg_alst rfl rfl Tryz.zeroValue59 rfl Tryz.sizeOf59 (fun _ => rfl) rfl rfl ?_
 intro b2 w1 x2 hge2 hb2
 have hlt2 := hb2.lt
 change Box _ _ _ (encCo _) at hb2
 have z3 := x2.size
 replace hX := hX.ex x2
 refine Rg_nil (W_seq ?_)
 obtain ⟨n4, hn4⟩ : ∃ n, n = w1.heap.size := ⟨_, rfl⟩
 apply W_drawC (β := False) (fun _ => 0) [peqC _, peqC _, peqC _, peqC _, peqC _, (fun v w c => ∃ a, v = .slice a 3 3 ∧ postOwn encCo 8 59 0 (awA) v w c), (postW (TSetIs n4 awA 0)), (postW (TSetIs n4 awA 0)), (postW (SetIs n4 awA)), (postP (fun v => v = .int .i64 0)), (postBoxK w1 27 [.slice none 0 0] 1), (postBoxS w1 27 (fun u => [u]) (ListIs encCo 8 n4 (fun M => M = awA)) 1)] [0, 0, 0, 0, 0, 0, 0, 0, 0, 0, 1, 1] 12 mixed (by kernel_rfl) (by kernel_rfl) rfl ⟨peqC_stable _ _, peqC_stable _ _, peqC_stable _ _, peqC_stable _ _, peqC_stable _ _, (postBs_stable), (postW_stable (TSetIs.keepS _ _ _)), (postW_stable (TSetIs.keepS _ _ _)), (postW_stable (SetIs.keepS _ _)), (postP_stable), (postBoxK_stable), (postBoxS_stable (ListIs.keepS _ _ _ _)), trivial⟩ ?ob3 ?fin3
 case ob3 =>
  refine OblC_cons (fun w4 c6 x5 hc07 hk8 => ?_) ?_
  ·replace x5 := RelG.ext0 x5
   have z9 := x5.size
   refine bindC_nil ?_
   exact OpC_v rfl (o_moveh (v := .func _ _ _) rfl)
  refine OblC_cons (fun w10 c12 x11 hc013 hk14 => ?_) ?_
  ·replace x11 := RelG.ext0 x11
   have z15 := x11.size
   refine bindC_eq (bindC_nil ?_)
   exact OpC_call rfl (o_clo3 Tryz.call22 rfl rfl rfl rfl) (lawop_ok false 1 5 _)
  refine OblC_cons (fun w16 c18 x17 hc019 hk20 => ?_) ?_
  ·replace x17 := RelG.ext0 x17
   have z21 := x17.size
   refine bindC_nil ?_
   exact OpC_v rfl (o_moveh (v := .func _ _ _) rfl)
  refine OblC_cons (fun w22 c24 x23 hc025 hk26 => ?_) ?_
  ·replace x23 := RelG.ext0 x23
   have z27 := x23.size
   refine bindC_eq (bindC_eq (bindC_nil ?_))
   exact OpC_call rfl (o_clo3 Tryz.call22 rfl rfl rfl rfl) (lawop_ok true 1 9 _)
  refine OblC_cons (fun w28 c30 x29 hc031 hk32 => ?_) ?_
  ·replace x29 := RelG.ext0 x29
   have z33 := x29.size
   have hb2 := hb2.ext x29
   refine bindC_nil ?_
   exact OpC_v rfl (o_loadS Tryz.isAgg59 Tryz.sizeOf59 rfl hb2.at rfl)
  refine OblC_cons (fun w34 c36 x35 hc037 hk38 => ?_) ?_
  ·replace x35 := RelG.ext0 x35
   have z39 := x35.size
   refine bindC_eq (bindC_eq (bindC_eq (bindC_nil ?_)))
   exact OpC_bs (vs := [.agg _, .agg _, .agg _]) (awA) encCo_ok el_co rfl rfl ⟨rfl, ⟨rfl, ⟨rfl, trivial⟩⟩⟩ rfl rfl rfl rfl
  refine OblC_cons (fun w40 c42 x41 hc043 hk44 => ?_) ?_
  ·replace x41 := RelG.ext0 x41
   have z45 := x41.size
   refine bindC_mem (fun v19 hv19 => ?_)
   obtain ⟨a19, rfl, ho19⟩ := hv19
   refine bindC_eq (bindC_nil ?_)
   exact OpC_W (S := TSetIs n4 awA 0) rfl (o_call1 Tryz.call23 rfl) ((cofV_ok _ awA _ (Own.trd ho19 encCo_ok) (by decide) awA_vs).mono (fun v w2 ⟨⟨a, c, h1, h2⟩, x⟩ => ⟨⟨fun g hg => by have := hg.1; omega, a, c, h1, h2⟩, x⟩))
  refine OblC_cons (fun w46 c48 x47 hc049 hk50 => ?_) ?_
  ·replace x47 := RelG.ext0 x47
   have z51 := x47.size
   refine bindC_mem (fun v20 hv20 => ?_)
   obtain ⟨F20, hF20, hn20, a20, c20, rfl, hs20⟩ := hv20
   refine bindC_nil ?_
   exact OpC_vp rfl (o_moveh rfl) ⟨F20, hF20, hn20, a20, c20, rfl, hs20⟩
  refine OblC_cons (fun w52 c54 x53 hc055 hk56 => ?_) ?_
  ·replace x53 := RelG.ext0 x53
   have z57 := x53.size
   refine bindC_mem (fun v13 hv13 => ?_)
   obtain ⟨F13, hF13, hn13, a13, c13, rfl, hs13⟩ := hv13
   refine bindC_nil ?_
   exact OpC_vp rfl (o_extract rfl rfl) ⟨F13, hF13, hn13, a13, c13, rfl, hs13⟩
  refine OblC_cons (fun w58 c60 x59 hc061 hk62 => ?_) ?_
  ·replace x59 := RelG.ext0 x59
   have z63 := x59.size
   refine bindC_mem (fun v13 hv13 => ?_)
   obtain ⟨F13, hF13, hn13, a13, c13, rfl, hs13⟩ := hv13
   refine bindC_nil ?_
   exact OpC_vp rfl (o_extract rfl rfl) rfl
  refine OblC_cons (fun w64 c66 x65 hc067 hk68 => ?_) ?_
  ·replace x65 := RelG.ext0 x65
   have z69 := x65.size
   refine bindC_nil ?_
   exact OpC_boxK (kc := 1) (Bel.size x65) rfl (o_alloc Tryz.zeroValue27)
  refine OblC_cons (fun w70 c72 x71 hc073 hk74 => ?_) ?_
  ·replace x71 := RelG.ext0 x71
   have z75 := x71.size
   refine bindC_mem (fun v3 hv3 => ?_)
   obtain ⟨b3, rfl, hge3, hb3, hcb3⟩ := hv3
   refine bindC_mem (fun v21 hv21 => ?_)
   obtain ⟨F21, hF21, hn21, a21, c21, rfl, hs21⟩ := hv21
   refine bindC_mem (fun v20 hv20 => ?_)
   obtain ⟨F20, hF20, hn20, a20, c20, rfl, hs20⟩ := hv20
   refine bindC_eq (bindC_eq (bindC_eq (bindC_eq (bindC_eq ?_))))
   refine bindC_mem (fun v19 hv19 => ?_)
   obtain ⟨a19, rfl, ho19⟩ := hv19
   refine bindC_mem (fun v20 hv20 => ?_)
   obtain ⟨F20, hF20, hn20, a20, c20, rfl, hs20⟩ := hv20
   refine bindC_mem (fun v13 hv13 => ?_)
   obtain ⟨F13, hF13, hn13, a13, c13, rfl, hs13⟩ := hv13
   refine bindC_mem (fun v21 hv21 => ?_)
   obtain ⟨F21, hF21, hn21, a21, c21, rfl, hs21⟩ := hv21
   refine bindC_mem (fun v3 hv3 => ?_)
   obtain ⟨b3, rfl, hge3, hb3, hcb3⟩ := hv3
   refine bindC_nil ?_
   exact postBoxS_of (f := fun u => [u]) (u := .slice a21 awA.length c21) (ListIs.keepS _ _ _ _) (OpC_storeLk (v := .agg _) (by decide) Tryz.sizeOf27 rfl rfl hge3 hb3 hcb3 rfl rfl rfl) rfl hF21 ⟨hn21, awA, ⟨a21, c21, rfl, hs21⟩, rfl⟩
  exact OblC_nil
 case fin3 =>
  intro w76 c78 x77 hc079
  replace x77 := RelG.ext0 x77
  have z80 := x77.size
  replace hX := hX.ex x77
  replace hb2 := hb2.ext x77
  refine bindC_eq (bindC_eq (bindC_eq (bindC_eq (bindC_eq ?_))))
  refine bindC_mem (fun v19 hv19 => ?_)
  obtain ⟨a19, rfl, ho19⟩ := hv19
  refine bindC_mem (fun v20 hv20 => ?_)
  obtain ⟨F20, hF20, hn20, a20, c20, rfl, hs20⟩ := hv20
  refine bindC_mem (fun v13 hv13 => ?_)
  obtain ⟨F13, hF13, hn13, a13, c13, rfl, hs13⟩ := hv13
  refine bindC_mem (fun v21 hv21 => ?_)
  obtain ⟨F21, hF21, hn21, a21, c21, rfl, hs21⟩ := hv21
  refine bindC_mem (fun v22 hv22 => ?_)
  have he22 : v22 = _ := hv22
  subst he22
  refine bindC_mem (fun v3 _ => ?_)
  refine bindC_lk (v := v3) rfl (fun hst11 => ?_)
  refine bindC_nil ?_
  obtain ⟨b3, rfl, hge3, hcb3, u3, hb3, F3, hF3, hn3, M3, ⟨a3, c3, rfl, hs3⟩, rfl⟩ := hst11
  change Box _ _ _ (wsS a3 awA.length c3) at hb3
  replace hs3 := hs3.mono (F' := fun g => n4 ≤ g) (fun g _ h => hn3 g h)
  have hlt3 := hb3.lt
  refine Rr (asI rfl) ?_
  refine Rg_nil (W_seq (W_region ?_))
  refine Rr (o_moveh (v := .func _ _ _) rfl) ?_
  refine Rg_enter rfl (o_clo3 Tryz.call22 rfl rfl rfl rfl) (Ok.mono (lawop_ok false 1 5 _) ?_)
  rintro _ w81 ⟨rfl, x82⟩
  have z83 := x82.size
  replace hX := hX.ex x82
  replace hb2 := hb2.ext x82
  replace hb3 := hb3.ext x82
  replace hs3 := hs3.ext x82
  refine Rr (o_moveh (v := .func _ _ _) rfl) ?_
  refine Rg_enter rfl (o_clo3 Tryz.call22 rfl rfl rfl rfl) (Ok.mono (lawop_ok true 1 7 _) ?_)
  rintro _ w84 ⟨rfl, x85⟩
  have z86 := x85.size
  replace hX := hX.ex x85
  replace hb2 := hb2.ext x85
  replace hb3 := hb3.ext x85
  replace hs3 := hs3.ext x85
  refine Rr (o_moveh (v := .func _ _ _) rfl) ?_
  refine Rg_enter rfl (o_clo3 Tryz.call22 rfl rfl rfl rfl) (Ok.mono (lawop_ok true 2 5 _) ?_)
  rintro _ w87 ⟨rfl, x88⟩
  have z89 := x88.size
  replace hX := hX.ex x88
  replace hb2 := hb2.ext x88
  replace hb3 := hb3.ext x88
  replace hs3 := hs3.ext x88
  refine Rg_bs (vs := [.agg _, .agg _, .agg _]) (awB) rfl encCo_ok el_co rfl rfl ⟨rfl, ⟨rfl, ⟨rfl, trivial⟩⟩⟩ rfl rfl rfl rfl ?_
  intro a30 w90 x91 hown30
  have z92 := x91.size
  replace hX := hX.ex x91
  replace hb2 := hb2.ext x91
  replace hb3 := hb3.ext x91
  replace hs3 := hs3.ext x91
  replace hown30 := hown30.mono (D' := fun g => w.heap.size ≤ g) (fun g h1 h2 => by omega)
  refine Rg_enter rfl (o_call1 Tryz.call23 rfl) (Ok.mono (cofV_ok _ awB _ (hown30.trd encCo_ok) (by decide) awB_vs) ?_)
  rintro _ w93 ⟨⟨a31, c31, rfl, hs31⟩, x94⟩
  have z95 := x94.size
  replace hX := hX.ex x94
  replace hb2 := hb2.ext x94
  replace hb3 := hb3.ext x94
  replace hs3 := hs3.ext x94
  refine Rr (o_moveh (v := .tuple _) rfl) ?_
  refine Rr (o_extract rfl rfl) ?_
  refine Rr (o_extract rfl rfl) ?_
  refine Rg_alst rfl rfl Tryz.zeroValue27 rfl Tryz.sizeOf27 (fun _ => rfl) rfl rfl ?_
  intro b5 w96 x97 hge5 hb5
  have hlt5 := hb5.lt
  change Box _ _ _ (wsS _ _ _) at hb5
  have z98 := x97.size
  replace hX := hX.ex x97
  replace hb2 := hb2.ext x97
  replace hb3 := hb3.ext x97
  replace hs3 := hs3.ext x97
  replace hs31 := hs31.ext x97
  refine Rr (asI rfl) ?_
  refine Rg_nil (W_seq (W_region ?_))
  refine Rr (o_loadS Tryz.isAgg27 Tryz.sizeOf27 rfl hb3.at rfl) ?_
  refine Rr (o_loadS Tryz.isAgg27 Tryz.sizeOf27 rfl hb5.at rfl) ?_
  refine Rg_enter rfl (o_call2 Tryz.call8 rfl rfl) (Ok.mono (msetsA_ok a3 a31 c3 c31 _ _ _ hs3 hs31) ?_)
  rintro _ w99 ⟨⟨a37, c37, u37, rfl, hs37, hown37⟩, x100⟩
  have z101 := x100.size
  replace hX := hX.ex x100
  replace hb2 := hb2.ext x100
  replace hb3 := hb3.ext x100
  replace hs3 := hs3.ext x100
  replace hs31 := hs31.ext x100
  replace hb5 := hb5.ext x100
  refine Rr (o_moveh (v := .tuple _) rfl) ?_
  obtain ⟨a37q, c37q, hv37q, hs37q⟩ := hown37.sl encCc_ok
  subst hv37q
  refine Rr (o_extract rfl rfl) ?_
  refine Rr (o_extract rfl rfl) ?_
  refine Rg_alst rfl rfl Tryz.zeroValue27 rfl Tryz.sizeOf27 (fun _ => rfl) rfl rfl ?_
  intro b7 w102 x103 hge7 hb7
  have hlt7 := hb7.lt
  change Box _ _ _ (wsS _ _ _) at hb7
  have z104 := x103.size
  replace hX := hX.ex x103
  replace hb2 := hb2.ext x103
  replace hb3 := hb3.ext x103
  replace hs3 := hs3.ext x103
  replace hs31 := hs31.ext x103
  replace hb5 := hb5.ext x103
  replace hs37 := hs37.ext x103
  replace hs37q := hs37q.ext x103
  refine Rr (asS rfl) ?_
  refine Rg_nil (W_seq (W_region ?_))
  refine Rr (o_loadS Tryz.isAgg27 Tryz.sizeOf27 rfl hb3.at rfl) ?_
  refine Rr (o_loadS Tryz.isAgg27 Tryz.sizeOf27 rfl hb5.at rfl) ?_
  refine Rg_bs (vs := [.bool _]) (([true] : List Bool)) rfl encBl_ok el_bl rfl rfl ⟨rfl, trivial⟩ rfl rfl rfl rfl ?_
  intro a43 w105 x106 hown43
  have z107 := x106.size
  replace hX := hX.ex x106
  replace hb2 := hb2.ext x106
  replace hb3 := hb3.ext x106
  replace hs3 := hs3.ext x106
  replace hs31 := hs31.ext x106
  replace hb5 := hb5.ext x106
  replace hs37 := hs37.ext x106
  replace hs37q := hs37q.ext x106
  replace hb7 := hb7.ext x106
  replace hown43 := hown43.mono (D' := fun g => w.heap.size ≤ g) (fun g h1 h2 => by omega)
  refine Rg_enter rfl (o_call3 Tryz.call15 rfl rfl rfl) (Ok.mono (mresA_ok a3 a31 c3 c31 _ _ _ hs3 hs31 _ (hown43.trd encBl_ok)) ?_)
  rintro _ w108 ⟨⟨a44, c44, rfl, hs44⟩, x109⟩
  have z110 := x109.size
  replace hX := hX.ex x109
  replace hb2 := hb2.ext x109
  replace hb3 := hb3.ext x109
  replace hs3 := hs3.ext x109
  replace hs31 := hs31.ext x109
  replace hb5 := hb5.ext x109
  replace hs37 := hs37.ext x109
  replace hs37q := hs37q.ext x109
  replace hb7 := hb7.ext x109
  refine Rr (o_moveh (v := .tuple _) rfl) ?_
  refine Rr (o_extract rfl rfl) ?_
  refine Rr (o_extract rfl rfl) ?_
  refine Rg_alst rfl rfl Tryz.zeroValue27 rfl Tryz.sizeOf27 (fun _ => rfl) rfl rfl ?_
  intro b9 w111 x112 hge9 hb9
  have hlt9 := hb9.lt
  change Box _ _ _ (wsS _ _ _) at hb9
  have z113 := x112.size
  replace hX := hX.ex x112
  replace hb2 := hb2.ext x112
  replace hb3 := hb3.ext x112
  replace hs3 := hs3.ext x112
  replace hs31 := hs31.ext x112
  replace hb5 := hb5.ext x112
  replace hs37 := hs37.ext x112
  replace hs37q := hs37q.ext x112
  replace hb7 := hb7.ext x112
  replace hs44 := hs44.ext x112
  refine Rr (asI rfl) ?_
  refine Rg_nil (W_seq ?_)
  apply W_drawC (β := False) (fun _ => 0) [peqC _, peqC _, peqC _, peqC _, peqC _, peqC _, peqC _, peqC _, peqC _, peqC _, peqC _, peqC _, (postW (ListIs encCo 8 0 (fun M => M = [awO true 2 5, awG]))), peqC _, peqC _, peqC _, (fun v w c => ∃ a, v = .slice a 2 2 ∧ postOwn encCo 8 59 0 ([awO true 2 5, awG]) v w c), peqC _, peqC _, peqC _, peqC _, peqC _, peqC _, peqC _, peqC _, peqC _, peqC _, peqC _, peqC _, peqC _, peqC _, peqC _, peqC _, peqC _, peqC _, peqC _, peqC _, peqC _, peqC _, peqC _, peqC _, peqC _, peqC _, peqC _, (postW (ListIs encCo 8 0 (fun M => M = [awO false 1 5, awO true 1 9, awO true 2 5, awG]))), peqC _, peqC _, peqC _, peqC _, peqC _, peqC _, peqC _, (fun v w c => ∃ a, v = .slice a 4 4 ∧ postOwn encCo 8 59 0 ([awO false 1 5, awO true 1 9, awO true 2 5, awG]) v w c), peqC _, peqC _, peqC _, peqC _, peqC _, peqC _, peqC _, peqC _] [0, 0, 0, 0, 0, 0, 0, 0, 0, 0, 0, 0, 0, 0, 0, 0, 0, 0, 0, 0, 0, 0, 0, 0, 0, 0, 0, 0, 0, 0, 0, 0, 0, 0, 0, 0, 0, 0, 0, 0, 0, 0, 0, 0, 0, 0, 0, 0, 0, 0, 0, 0, 0, 0, 0, 0, 0, 0, 0, 0, 0] 61 mixed (by kernel_rfl) (by kernel_rfl) rfl ⟨peqC_stable _ _, peqC_stable _ _, peqC_stable _ _, peqC_stable _ _, peqC_stable _ _, peqC_stable _ _, peqC_stable _ _, peqC_stable _ _, peqC_stable _ _, peqC_stable _ _, peqC_stable _ _, peqC_stable _ _, (postW_stable (ListIs.keepS _ _ _ _)), peqC_stable _ _, peqC_stable _ _, peqC_stable _ _, (postBs_stable), peqC_stable _ _, peqC_stable _ _, peqC_stable _ _, peqC_stable _ _, peqC_stable _ _, peqC_stable _ _, peqC_stable _ _, peqC_stable _ _, peqC_stable _ _, peqC_stable _ _, peqC_stable _ _, peqC_stable _ _, peqC_stable _ _, peqC_stable _ _, peqC_stable _ _, peqC_stable _ _, peqC_stable _ _, peqC_stable _ _, peqC_stable _ _, peqC_stable _ _, peqC_stable _ _, peqC_stable _ _, peqC_stable _ _, peqC_stable _ _, peqC_stable _ _, peqC_stable _ _, peqC_stable _ _, (postW_stable (ListIs.keepS _ _ _ _)), peqC_stable _ _, peqC_stable _ _, peqC_stable _ _, peqC_stable _ _, peqC_stable _ _, peqC_stable _ _, peqC_stable _ _, (postBs_stable), peqC_stable _ _, peqC_stable _ _, peqC_stable _ _, peqC_stable _ _, peqC_stable _ _, peqC_stable _ _, peqC_stable _ _, peqC_stable _ _, trivial⟩ ?ob7 ?fin7
  case ob7 =>
   refine OblC_cons (fun w114 c116 x115 hc0117 hk118 => ?_) ?_
   ·replace x115 := RelG.ext0 x115
    have z119 := x115.size
    refine bindC_nil ?_
    exact OpC_v rfl (mvI rfl)
   refine OblC_cons (fun w120 c122 x121 hc0123 hk124 => ?_) ?_
   ·replace x121 := RelG.ext0 x121
    have z125 := x121.size
    refine bindC_eq (bindC_nil ?_)
    exact OpC_v rfl (o_eql rfl rfl)
   refine OblC_cons (fun w126 c128 x127 hc0129 hk130 => ?_) ?_
   ·replace x127 := RelG.ext0 x127
    have z131 := x127.size
    refine bindC_eq (bindC_nil ?_)
    exact OpC_v rfl (mvB rfl)
   refine OblC_cons (fun w132 c134 x133 hc0135 hk136 => ?_) ?_
   ·replace x133 := RelG.ext0 x133
    have z137 := x133.size
    refine bindC_eq (bindC_nil ?_)
    refine OpC_on 2 49 rfl (congrArg Value.bool (by decide)) ?_
    exact OpC_v rfl (mvI rfl)
   refine OblC_cons (fun w138 c140 x139 hc0141 hk142 => ?_) ?_
   ·replace x139 := RelG.ext0 x139
    have z143 := x139.size
    refine bindC_eq (bindC_eq (bindC_nil ?_))
    refine OpC_on 2 49 rfl (congrArg Value.bool (by decide)) ?_
    exact OpC_v rfl (o_eql rfl rfl)
   refine OblC_cons (fun w144 c146 x145 hc0147 hk148 => ?_) ?_
   ·replace x145 := RelG.ext0 x145
    have z149 := x145.size
    refine bindC_eq (bindC_eq (bindC_nil ?_))
    exact OpC_v rfl (o_pickT (v := .bool _) (congrArg Value.bool (by decide)) rfl)
   refine OblC_cons (fun w150 c152 x151 hc0153 hk154 => ?_) ?_
   ·replace x151 := RelG.ext0 x151
    have z155 := x151.size
    refine bindC_eq (bindC_eq (bindC_nil ?_))
    exact OpC_v rfl (mvB rfl)
   refine OblC_cons (fun w156 c158 x157 hc0159 hk160 => ?_) ?_
   ·replace x157 := RelG.ext0 x157
    have z161 := x157.size
    refine bindC_eq (bindC_nil ?_)
    refine OpC_on 6 53 rfl (congrArg Value.bool (by decide)) ?_
    exact OpC_v rfl (mvI rfl)
   refine OblC_cons (fun w162 c164 x163 hc0165 hk166 => ?_) ?_
   ·replace x163 := RelG.ext0 x163
    have z167 := x163.size
    refine bindC_eq (bindC_eq (bindC_nil ?_))
    refine OpC_on 6 53 rfl (congrArg Value.bool (by decide)) ?_
    exact OpC_v rfl (o_eql rfl rfl)
   refine OblC_cons (fun w168 c170 x169 hc0171 hk172 => ?_) ?_
   ·replace x169 := RelG.ext0 x169
    have z173 := x169.size
    refine bindC_eq (bindC_eq (bindC_nil ?_))
    exact OpC_v rfl (o_pickT (v := .bool _) (congrArg Value.bool (by decide)) rfl)
   refine OblC_cons (fun w174 c176 x175 hc0177 hk178 => ?_) ?_
   ·replace x175 := RelG.ext0 x175
    have z179 := x175.size
    refine bindC_eq (bindC_eq (bindC_nil ?_))
    exact OpC_v rfl (mvB rfl)
   refine OblC_cons (fun w180 c182 x181 hc0183 hk184 => ?_) ?_
   ·replace x181 := RelG.ext0 x181
    have z185 := x181.size
    have hb7 := hb7.ext x181
    refine bindC_eq (bindC_nil ?_)
    refine OpC_on 10 57 rfl (congrArg Value.bool (by decide)) ?_
    exact OpC_v rfl (o_loadS Tryz.isAgg27 Tryz.sizeOf27 rfl hb7.at rfl)
   refine OblC_cons (fun w186 c188 x187 hc0189 hk190 => ?_) ?_
   ·replace x187 := RelG.ext0 x187
    have z191 := x187.size
    have hs37 := hs37.ext x187
    refine bindC_eq (bindC_eq (bindC_eq (bindC_nil ?_)))
    refine OpC_on 10 57 rfl (congrArg Value.bool (by decide)) ?_
    exact OpC_W (S := ListIs encCo 8 0 (fun M => M = [awO true 2 5, awG])) rfl (o_call1 Tryz.call20 rfl) ((cops_ok a37 c37 _ ([awO true 2 5, awG]) _ hs37 (by decide)).mono (fun v w2 ⟨h, x⟩ => ⟨⟨fun _ _ => Nat.zero_le _, _, h.rd encCo_ok, rfl⟩, x⟩))
   refine OblC_cons (fun w192 c194 x193 hc0195 hk196 => ?_) ?_
   ·replace x193 := RelG.ext0 x193
    have z197 := x193.size
    refine bindC_eq (bindC_nil ?_)
    refine OpC_on 10 57 rfl (congrArg Value.bool (by decide)) ?_
    exact OpC_v rfl (o_moveh (v := .func _ _ _) rfl)
   refine OblC_cons (fun w198 c200 x199 hc0201 hk202 => ?_) ?_
   ·replace x199 := RelG.ext0 x199
    have z203 := x199.size
    refine bindC_eq ?_
    refine bindC_mem (fun v59 hv59 => ?_)
    obtain ⟨F59, hF59, -, M59, ⟨a59, c59, rfl, hs59⟩, rfl⟩ := hv59
    refine bindC_eq (bindC_nil ?_)
    refine OpC_on 10 57 rfl (congrArg Value.bool (by decide)) ?_
    exact OpC_call rfl (o_clo3 Tryz.call22 rfl rfl rfl rfl) (lawop_ok true 2 5 _)
   refine OblC_cons (fun w204 c206 x205 hc0207 hk208 => ?_) ?_
   ·replace x205 := RelG.ext0 x205
    have z209 := x205.size
    have hb2 := hb2.ext x205
    refine bindC_eq (bindC_nil ?_)
    refine OpC_on 10 57 rfl (congrArg Value.bool (by decide)) ?_
    exact OpC_v rfl (o_loadS Tryz.isAgg59 Tryz.sizeOf59 rfl hb2.at rfl)
   refine OblC_cons (fun w210 c212 x211 hc0213 hk214 => ?_) ?_
   ·replace x211 := RelG.ext0 x211
    have z215 := x211.size
    refine bindC_eq (bindC_eq (bindC_eq (bindC_nil ?_)))
    refine OpC_on 10 57 rfl (congrArg Value.bool (by decide)) ?_
    exact OpC_bs (vs := [.agg _, .agg _]) ([awO true 2 5, awG]) encCo_ok el_co rfl rfl ⟨rfl, ⟨rfl, trivial⟩⟩ rfl rfl rfl rfl
   refine OblC_cons (fun w216 c218 x217 hc0219 hk220 => ?_) ?_
   ·replace x217 := RelG.ext0 x217
    have z221 := x217.size
    refine bindC_mem (fun v59 hv59 => ?_)
    obtain ⟨F59, hF59, -, M59, ⟨a59, c59, rfl, hs59⟩, rfl⟩ := hv59
    refine bindC_mem (fun v63 hv63 => ?_)
    obtain ⟨a63, rfl, ho63⟩ := hv63
    refine bindC_eq (bindC_eq (bindC_nil ?_))
    refine OpC_on 10 57 rfl (congrArg Value.bool (by decide)) ?_
    exact OpC_call rfl (o_call2 Tryz.call24 rfl rfl) (coeq_ok a59 a63 c59 2 _ _ [awO true 2 5, awG] [awO true 2 5, awG] _ hs59 (Own.slA ho63 encCo_ok))
   refine OblC_cons (fun w222 c224 x223 hc0225 hk226 => ?_) ?_
   ·replace x223 := RelG.ext0 x223
    have z227 := x223.size
    refine bindC_eq (bindC_eq (bindC_nil ?_))
    exact OpC_v rfl (o_pickT (v := .bool _) (congrArg Value.bool (by decide)) rfl)
   refine OblC_cons (fun w228 c230 x229 hc0231 hk232 => ?_) ?_
   ·replace x229 := RelG.ext0 x229
    have z233 := x229.size
    refine bindC_eq (bindC_eq (bindC_nil ?_))
    exact OpC_v rfl (mvB rfl)
   refine OblC_cons (fun w234 c236 x235 hc0237 hk238 => ?_) ?_
   ·replace x235 := RelG.ext0 x235
    have z239 := x235.size
    refine bindC_eq (bindC_nil ?_)
    refine OpC_on 19 66 rfl (congrArg Value.bool (beq_self_eq_true ([awO true 2 5, awG] : List COp))) ?_
    exact OpC_v rfl (mvS rfl)
   refine OblC_cons (fun w240 c242 x241 hc0243 hk244 => ?_) ?_
   ·replace x241 := RelG.ext0 x241
    have z245 := x241.size
    refine bindC_eq (bindC_eq (bindC_nil ?_))
    refine OpC_on 19 66 rfl (congrArg Value.bool (beq_self_eq_true ([awO true 2 5, awG] : List COp))) ?_
    exact OpC_v rfl (o_llen Tryz.underlying31 rfl)
   refine OblC_cons (fun w246 c248 x247 hc0249 hk250 => ?_) ?_
   ·replace x247 := RelG.ext0 x247
    have z251 := x247.size
    refine bindC_eq (bindC_eq (bindC_nil ?_))
    refine OpC_on 19 66 rfl (congrArg Value.bool (beq_self_eq_true ([awO true 2 5, awG] : List COp))) ?_
    exact OpC_v rfl (o_eql rfl rfl)
   refine OblC_cons (fun w252 c254 x253 hc0255 hk256 => ?_) ?_
   ·replace x253 := RelG.ext0 x253
    have z257 := x253.size
    refine bindC_eq (bindC_eq (bindC_nil ?_))
    exact OpC_v rfl (o_pickT (v := .bool _) (congrArg Value.bool (beq_self_eq_true ([awO true 2 5, awG] : List COp))) rfl)
   refine OblC_cons (fun w258 c260 x259 hc0261 hk262 => ?_) ?_
   ·replace x259 := RelG.ext0 x259
    have z263 := x259.size
    refine bindC_eq (bindC_eq (bindC_nil ?_))
    exact OpC_v rfl (mvB rfl)
   refine OblC_cons (fun w264 c266 x265 hc0267 hk268 => ?_) ?_
   ·replace x265 := RelG.ext0 x265
    have z269 := x265.size
    refine bindC_eq (bindC_nil ?_)
    refine OpC_on 24 71 rfl (congrArg Value.bool (by decide)) ?_
    exact OpC_v rfl (mvS rfl)
   refine OblC_cons (fun w270 c272 x271 hc0273 hk274 => ?_) ?_
   ·replace x271 := RelG.ext0 x271
    have z275 := x271.size
    have hs37q := hs37q.ext x271
    refine bindC_eq (bindC_eq (bindC_nil ?_))
    refine OpC_on 24 71 rfl (congrArg Value.bool (by decide)) ?_
    exact OpC_v rfl (o_iaR (i := 0) Tryz.underlying31 Tryz.sizeOf61 hs37q rfl rfl (by decide))
   refine OblC_cons (fun w276 c278 x277 hc0279 hk280 => ?_) ?_
   ·replace x277 := RelG.ext0 x277
    have z281 := x277.size
    have hs37q := hs37q.ext x277
    refine bindC_eq (bindC_eq (bindC_nil ?_))
    refine OpC_on 24 71 rfl (congrArg Value.bool (by decide)) ?_
    exact OpC_v rfl (o_faE Tryz.underlying61 rfl Tryz.sizeOf59 hs37q rfl (show [(⟨⟨1, 1, 2, pz⟩, awO true 1 9, awO true 1 7⟩ : Cfl)][0]? = some (⟨⟨1, 1, 2, pz⟩, awO true 1 9, awO true 1 7⟩ : Cfl) from rfl))
   refine OblC_cons (fun w282 c284 x283 hc0285 hk286 => ?_) ?_
   ·replace x283 := RelG.ext0 x283
    have z287 := x283.size
    have hs37q := hs37q.ext x283
    refine bindC_eq (bindC_eq (bindC_nil ?_))
    refine OpC_on 24 71 rfl (congrArg Value.bool (by decide)) ?_
    exact OpC_v rfl (o_ldES (j := 6) Tryz.isAgg59 Tryz.sizeOf59 hs37q rfl (show [(⟨⟨1, 1, 2, pz⟩, awO true 1 9, awO true 1 7⟩ : Cfl)][0]? = some (⟨⟨1, 1, 2, pz⟩, awO true 1 9, awO true 1 7⟩ : Cfl) from rfl) rfl rfl)
   refine OblC_cons (fun w288 c290 x289 hc0291 hk292 => ?_) ?_
   ·replace x289 := RelG.ext0 x289
    have z293 := x289.size
    refine bindC_eq (bindC_nil ?_)
    refine OpC_on 24 71 rfl (congrArg Value.bool (by decide)) ?_
    exact OpC_v rfl (o_moveh (v := .func _ _ _) rfl)
   refine OblC_cons (fun w294 c296 x295 hc0297 hk298 => ?_) ?_
   ·replace x295 := RelG.ext0 x295
    have z299 := x295.size
    refine bindC_eq (bindC_eq (bindC_eq (bindC_nil ?_)))
    refine OpC_on 24 71 rfl (congrArg Value.bool (by decide)) ?_
    exact OpC_call rfl (o_clo3 Tryz.call22 rfl rfl rfl rfl) (lawop_ok true 1 9 _)
   refine OblC_cons (fun w300 c302 x301 hc0303 hk304 => ?_) ?_
   ·replace x301 := RelG.ext0 x301
    have z305 := x301.size
    refine bindC_eq (bindC_eq (bindC_eq (bindC_nil ?_)))
    refine OpC_on 24 71 rfl (congrArg Value.bool (by decide)) ?_
    exact OpC_v rfl (o_teql eq_co rfl rfl)
   refine OblC_cons (fun w306 c308 x307 hc0309 hk310 => ?_) ?_
   ·replace x307 := RelG.ext0 x307
    have z311 := x307.size
    refine bindC_eq (bindC_eq (bindC_nil ?_))
    exact OpC_v rfl (o_pickT (v := .bool _) (congrArg Value.bool (by decide)) rfl)
   refine OblC_cons (fun w312 c314 x313 hc0315 hk316 => ?_) ?_
   ·replace x313 := RelG.ext0 x313
    have z317 := x313.size
    refine bindC_eq (bindC_eq (bindC_nil ?_))
    exact OpC_v rfl (mvB rfl)
   refine OblC_cons (fun w318 c320 x319 hc0321 hk322 => ?_) ?_
   ·replace x319 := RelG.ext0 x319
    have z323 := x319.size
    refine bindC_eq (bindC_nil ?_)
    refine OpC_on 33 80 rfl (congrArg Value.bool (beq_self_eq_true (awO true 1 9))) ?_
    exact OpC_v rfl (mvS rfl)
   refine OblC_cons (fun w324 c326 x325 hc0327 hk328 => ?_) ?_
   ·replace x325 := RelG.ext0 x325
    have z329 := x325.size
    have hs37q := hs37q.ext x325
    refine bindC_eq (bindC_eq (bindC_nil ?_))
    refine OpC_on 33 80 rfl (congrArg Value.bool (beq_self_eq_true (awO true 1 9))) ?_
    exact OpC_v rfl (o_iaR (i := 0) Tryz.underlying31 Tryz.sizeOf61 hs37q rfl rfl (by decide))
   refine OblC_cons (fun w330 c332 x331 hc0333 hk334 => ?_) ?_
   ·replace x331 := RelG.ext0 x331
    have z335 := x331.size
    have hs37q := hs37q.ext x331
    refine bindC_eq (bindC_eq (bindC_nil ?_))
    refine OpC_on 33 80 rfl (congrArg Value.bool (beq_self_eq_true (awO true 1 9))) ?_
    exact OpC_v rfl (o_faE Tryz.underlying61 rfl Tryz.sizeOf59 hs37q rfl (show [(⟨⟨1, 1, 2, pz⟩, awO true 1 9, awO true 1 7⟩ : Cfl)][0]? = some (⟨⟨1, 1, 2, pz⟩, awO true 1 9, awO true 1 7⟩ : Cfl) from rfl))
   refine OblC_cons (fun w336 c338 x337 hc0339 hk340 => ?_) ?_
   ·replace x337 := RelG.ext0 x337
    have z341 := x337.size
    have hs37q := hs37q.ext x337
    refine bindC_eq (bindC_eq (bindC_nil ?_))
    refine OpC_on 33 80 rfl (congrArg Value.bool (beq_self_eq_true (awO true 1 9))) ?_
    exact OpC_v rfl (o_ldES (j := 14) Tryz.isAgg59 Tryz.sizeOf59 hs37q rfl (show [(⟨⟨1, 1, 2, pz⟩, awO true 1 9, awO true 1 7⟩ : Cfl)][0]? = some (⟨⟨1, 1, 2, pz⟩, awO true 1 9, awO true 1 7⟩ : Cfl) from rfl) rfl rfl)
   refine OblC_cons (fun w342 c344 x343 hc0345 hk346 => ?_) ?_
   ·replace x343 := RelG.ext0 x343
    have z347 := x343.size
    refine bindC_eq (bindC_nil ?_)
    refine OpC_on 33 80 rfl (congrArg Value.bool (beq_self_eq_true (awO true 1 9))) ?_
    exact OpC_v rfl (o_moveh (v := .func _ _ _) rfl)
   refine OblC_cons (fun w348 c350 x349 hc0351 hk352 => ?_) ?_
   ·replace x349 := RelG.ext0 x349
    have z353 := x349.size
    refine bindC_eq (bindC_eq (bindC_eq (bindC_nil ?_)))
    refine OpC_on 33 80 rfl (congrArg Value.bool (beq_self_eq_true (awO true 1 9))) ?_
    exact OpC_call rfl (o_clo3 Tryz.call22 rfl rfl rfl rfl) (lawop_ok true 1 7 _)
   refine OblC_cons (fun w354 c356 x355 hc0357 hk358 => ?_) ?_
   ·replace x355 := RelG.ext0 x355
    have z359 := x355.size
    refine bindC_eq (bindC_eq (bindC_eq (bindC_nil ?_)))
    refine OpC_on 33 80 rfl (congrArg Value.bool (beq_self_eq_true (awO true 1 9))) ?_
    exact OpC_v rfl (o_teql eq_co rfl rfl)
   refine OblC_cons (fun w360 c362 x361 hc0363 hk364 => ?_) ?_
   ·replace x361 := RelG.ext0 x361
    have z365 := x361.size
    refine bindC_eq (bindC_eq (bindC_nil ?_))
    exact OpC_v rfl (o_pickT (v := .bool _) (congrArg Value.bool (beq_self_eq_true (awO true 1 9))) rfl)
   refine OblC_cons (fun w366 c368 x367 hc0369 hk370 => ?_) ?_
   ·replace x367 := RelG.ext0 x367
    have z371 := x367.size
    refine bindC_eq (bindC_eq (bindC_nil ?_))
    exact OpC_v rfl (mvB rfl)
   refine OblC_cons (fun w372 c374 x373 hc0375 hk376 => ?_) ?_
   ·replace x373 := RelG.ext0 x373
    have z377 := x373.size
    have hb9 := hb9.ext x373
    refine bindC_eq (bindC_nil ?_)
    refine OpC_on 42 89 rfl (congrArg Value.bool (beq_self_eq_true (awO true 1 7))) ?_
    exact OpC_v rfl (o_loadS Tryz.isAgg27 Tryz.sizeOf27 rfl hb9.at rfl)
   refine OblC_cons (fun w378 c380 x379 hc0381 hk382 => ?_) ?_
   ·replace x379 := RelG.ext0 x379
    have z383 := x379.size
    have hs44 := hs44.ext x379
    refine bindC_eq (bindC_eq (bindC_eq (bindC_nil ?_)))
    refine OpC_on 42 89 rfl (congrArg Value.bool (beq_self_eq_true (awO true 1 7))) ?_
    exact OpC_W (S := ListIs encCo 8 0 (fun M => M = [awO false 1 5, awO true 1 9, awO true 2 5, awG])) rfl (o_call1 Tryz.call20 rfl) ((cops_ok a44 c44 _ ([awO false 1 5, awO true 1 9, awO true 2 5, awG]) _ hs44 (by decide)).mono (fun v w2 ⟨h, x⟩ => ⟨⟨fun _ _ => Nat.zero_le _, _, h.rd encCo_ok, rfl⟩, x⟩))
   refine OblC_cons (fun w384 c386 x385 hc0387 hk388 => ?_) ?_
   ·replace x385 := RelG.ext0 x385
    have z389 := x385.size
    refine bindC_eq (bindC_nil ?_)
    refine OpC_on 42 89 rfl (congrArg Value.bool (beq_self_eq_true (awO true 1 7))) ?_
    exact OpC_v rfl (o_moveh (v := .func _ _ _) rfl)
   refine OblC_cons (fun w390 c392 x391 hc0393 hk394 => ?_) ?_
   ·replace x391 := RelG.ext0 x391
    have z395 := x391.size
    refine bindC_eq ?_
    refine bindC_mem (fun v91 hv91 => ?_)
    obtain ⟨F91, hF91, -, M91, ⟨a91, c91, rfl, hs91⟩, rfl⟩ := hv91
    refine bindC_eq (bindC_nil ?_)
    refine OpC_on 42 89 rfl (congrArg Value.bool (beq_self_eq_true (awO true 1 7))) ?_
    exact OpC_call rfl (o_clo3 Tryz.call22 rfl rfl rfl rfl) (lawop_ok false 1 5 _)
   refine OblC_cons (fun w396 c398 x397 hc0399 hk400 => ?_) ?_
   ·replace x397 := RelG.ext0 x397
    have z401 := x397.size
    refine bindC_eq (bindC_nil ?_)
    refine OpC_on 42 89 rfl (congrArg Value.bool (beq_self_eq_true (awO true 1 7))) ?_
    exact OpC_v rfl (o_moveh (v := .func _ _ _) rfl)
   refine OblC_cons (fun w402 c404 x403 hc0405 hk406 => ?_) ?_
   ·replace x403 := RelG.ext0 x403
    have z407 := x403.size
    refine bindC_eq (bindC_eq (bindC_eq (bindC_nil ?_)))
    refine OpC_on 42 89 rfl (congrArg Value.bool (beq_self_eq_true (awO true 1 7))) ?_
    exact OpC_call rfl (o_clo3 Tryz.call22 rfl rfl rfl rfl) (lawop_ok true 1 9 _)
   refine OblC_cons (fun w408 c410 x409 hc0411 hk412 => ?_) ?_
   ·replace x409 := RelG.ext0 x409
    have z413 := x409.size
    refine bindC_eq (bindC_nil ?_)
    refine OpC_on 42 89 rfl (congrArg Value.bool (beq_self_eq_true (awO true 1 7))) ?_
    exact OpC_v rfl (o_moveh (v := .func _ _ _) rfl)
   refine OblC_cons (fun w414 c416 x415 hc0417 hk418 => ?_) ?_
   ·replace x415 := RelG.ext0 x415
    have z419 := x415.size
    refine bindC_eq (bindC_eq (bindC_eq (bindC_nil ?_)))
    refine OpC_on 42 89 rfl (congrArg Value.bool (beq_self_eq_true (awO true 1 7))) ?_
    exact OpC_call rfl (o_clo3 Tryz.call22 rfl rfl rfl rfl) (lawop_ok true 2 5 _)
   refine OblC_cons (fun w420 c422 x421 hc0423 hk424 => ?_) ?_
   ·replace x421 := RelG.ext0 x421
    have z425 := x421.size
    have hb2 := hb2.ext x421
    refine bindC_eq (bindC_nil ?_)
    refine OpC_on 42 89 rfl (congrArg Value.bool (beq_self_eq_true (awO true 1 7))) ?_
    exact OpC_v rfl (o_loadS Tryz.isAgg59 Tryz.sizeOf59 rfl hb2.at rfl)
   refine OblC_cons (fun w426 c428 x427 hc0429 hk430 => ?_) ?_
   ·replace x427 := RelG.ext0 x427
    have z431 := x427.size
    refine bindC_eq (bindC_eq (bindC_eq (bindC_eq (bindC_eq (bindC_nil ?_)))))
    refine OpC_on 42 89 rfl (congrArg Value.bool (beq_self_eq_true (awO true 1 7))) ?_
    exact OpC_bs (vs := [.agg _, .agg _, .agg _, .agg _]) ([awO false 1 5, awO true 1 9, awO true 2 5, awG]) encCo_ok el_co rfl rfl ⟨rfl, ⟨rfl, ⟨rfl, ⟨rfl, trivial⟩⟩⟩⟩ rfl rfl rfl rfl
   refine OblC_cons (fun w432 c434 x433 hc0435 hk436 => ?_) ?_
   ·replace x433 := RelG.ext0 x433
    have z437 := x433.size
    refine bindC_mem (fun v91 hv91 => ?_)
    obtain ⟨F91, hF91, -, M91, ⟨a91, c91, rfl, hs91⟩, rfl⟩ := hv91
    refine bindC_mem (fun v99 hv99 => ?_)
    obtain ⟨a99, rfl, ho99⟩ := hv99
    refine bindC_eq (bindC_eq (bindC_nil ?_))
    refine OpC_on 42 89 rfl (congrArg Value.bool (beq_self_eq_true (awO true 1 7))) ?_
    exact OpC_call rfl (o_call2 Tryz.call24 rfl rfl) (coeq_ok a91 a99 c91 4 _ _ [awO false 1 5, awO true 1 9, awO true 2 5, awG] [awO false 1 5, awO true 1 9, awO true 2 5, awG] _ hs91 (Own.slA ho99 encCo_ok))
   refine OblC_cons (fun w438 c440 x439 hc0441 hk442 => ?_) ?_
   ·replace x439 := RelG.ext0 x439
    have z443 := x439.size
    refine bindC_eq (bindC_eq (bindC_nil ?_))
    exact OpC_v rfl (o_pickT (v := .bool _) (congrArg Value.bool (beq_self_eq_true (awO true 1 7))) rfl)
   refine OblC_cons (fun w444 c446 x445 hc0447 hk448 => ?_) ?_
   ·replace x445 := RelG.ext0 x445
    have z449 := x445.size
    refine bindC_eq (bindC_eq (bindC_nil ?_))
    exact OpC_v rfl (mvB rfl)
   refine OblC_cons (fun w450 c452 x451 hc0453 hk454 => ?_) ?_
   ·replace x451 := RelG.ext0 x451
    have z455 := x451.size
    have hb3 := hb3.ext x451
    refine bindC_eq (bindC_nil ?_)
    refine OpC_on 55 102 rfl (congrArg Value.bool (beq_self_eq_true ([awO false 1 5, awO true 1 9, awO true 2 5, awG] : List COp))) ?_
    exact OpC_v rfl (o_loadS Tryz.isAgg27 Tryz.sizeOf27 rfl hb3.at rfl)
   refine OblC_cons (fun w456 c458 x457 hc0459 hk460 => ?_) ?_
   ·replace x457 := RelG.ext0 x457
    have z461 := x457.size
    have hb5 := hb5.ext x457
    refine bindC_eq (bindC_nil ?_)
    refine OpC_on 55 102 rfl (congrArg Value.bool (beq_self_eq_true ([awO false 1 5, awO true 1 9, awO true 2 5, awG] : List COp))) ?_
    exact OpC_v rfl (o_loadS Tryz.isAgg27 Tryz.sizeOf27 rfl hb5.at rfl)
   refine OblC_cons (fun w462 c464 x463 hc0465 hk466 => ?_) ?_
   ·replace x463 := RelG.ext0 x463
    have z467 := x463.size
    have hs3 := hs3.ext x463
    have hs31 := hs31.ext x463
    refine bindC_eq (bindC_eq (bindC_eq (bindC_eq (bindC_nil ?_))))
    refine OpC_on 55 102 rfl (congrArg Value.bool (beq_self_eq_true ([awO false 1 5, awO true 1 9, awO true 2 5, awG] : List COp))) ?_
    exact OpC_call rfl (o_call2 Tryz.call12 rfl rfl) (mcommA_ok a3 a31 c3 c31 _ _ _ hs3 hs31)
   refine OblC_cons (fun w468 c470 x469 hc0471 hk472 => ?_) ?_
   ·replace x469 := RelG.ext0 x469
    have z473 := x469.size
    refine bindC_eq (bindC_eq (bindC_nil ?_))
    refine OpC_on 55 102 rfl (congrArg Value.bool (beq_self_eq_true ([awO false 1 5, awO true 1 9, awO true 2 5, awG] : List COp))) ?_
    exact OpC_v rfl (o_not rfl)
   refine OblC_cons (fun w474 c476 x475 hc0477 hk478 => ?_) ?_
   ·replace x475 := RelG.ext0 x475
    have z479 := x475.size
    refine bindC_eq (bindC_eq (bindC_nil ?_))
    exact OpC_v rfl (o_pickT (v := .bool _) (congrArg Value.bool (beq_self_eq_true ([awO false 1 5, awO true 1 9, awO true 2 5, awG] : List COp))) rfl)
   exact OblC_nil
  case fin7 =>
   intro w480 c482 x481 hc0483
   replace x481 := RelG.ext0 x481
   have z484 := x481.size
   replace hX := hX.ex x481
   refine bindC_eq (bindC_eq (bindC_eq (bindC_eq (bindC_eq (bindC_eq (bindC_eq (bindC_eq (bindC_eq ?_))))))))
   refine bindC_eq (bindC_eq (bindC_eq ?_))
   refine bindC_mem (fun v59 hv59 => ?_)
   obtain ⟨F59, hF59, -, M59, ⟨a59, c59, rfl, hs59⟩, rfl⟩ := hv59
   refine bindC_eq (bindC_eq (bindC_eq ?_))
   refine bindC_mem (fun v63 hv63 => ?_)
   obtain ⟨a63, rfl, ho63⟩ := hv63
   refine bindC_eq (bindC_eq (bindC_eq (bindC_eq (bindC_eq (bindC_eq (bindC_eq (bindC_eq (bindC_eq ?_))))))))
   refine bindC_eq (bindC_eq (bindC_eq (bindC_eq (bindC_eq (bindC_eq (bindC_eq (bindC_eq (bindC_eq ?_))))))))
   refine bindC_eq (bindC_eq (bindC_eq (bindC_eq (bindC_eq (bindC_eq (bindC_eq (bindC_eq (bindC_eq ?_))))))))
   refine bindC_mem (fun v91 hv91 => ?_)
   obtain ⟨F91, hF91, -, M91, ⟨a91, c91, rfl, hs91⟩, rfl⟩ := hv91
   refine bindC_eq (bindC_eq (bindC_eq (bindC_eq (bindC_eq (bindC_eq (bindC_eq ?_))))))
   refine bindC_mem (fun v99 hv99 => ?_)
   obtain ⟨a99, rfl, ho99⟩ := hv99
   refine bindC_eq (bindC_eq (bindC_eq (bindC_eq (bindC_eq (bindC_eq (bindC_eq (bindC_eq (bindC_nil ?_))))))))
   refine Rr (asB rfl) ?_
   refine Rg_nil (W_ret ?_)
   refine ⟨_, res_tmp rfl rfl, ?_⟩
   refine ⟨congrArg Value.bool ?_, hX⟩
   all_goals (rfl)

end Go.Proofs.YtecjjgljkepajaaGreatDoor
