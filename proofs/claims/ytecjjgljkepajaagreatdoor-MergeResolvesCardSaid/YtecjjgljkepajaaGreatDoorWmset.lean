/- Walks: what functions return. -/
import Derived.Test.YtecjjgljkepajaaGreatDoorWspl
set_option linter.unusedVariables false
set_option linter.unusedSimpArgs false
set_option linter.unnecessarySimpa false
namespace Go.Proofs.YtecjjgljkepajaaGreatDoor
open Go Go.Lx Go.RowKit
set_option maxRecDepth 100000
theorem el_bl : ElT Tryz.prog 42 4 1 1 (.bool false) := ⟨Tryz.underlying42, ⟨Tryz.t4, by kernel_rfl, rfl, rfl, rfl⟩, rfl, by decide, by decide⟩
set_option maxHeartbeats 4000000 in
theorem msets_ok (a b : Option Addr) (c d : Nat) (G H : Nat → Prop) (X Y : List COp) (w : World) (hs : Sl encCo 8 G w a c X) (ht : Sl encCo 8 H w b d Y) (hX0 : VS X) (hY0 : VS Y) (hn : X.length ≤ 100) (hm : Y.length ≤ 100) : Ok Tryz.prog 8 #[.agg #[.slice a X.length c], .agg #[.slice b Y.length d]] w fun v w' => (∃ a' c' u, v = .tuple #[.agg #[.slice a' (sortO (bothO X Y)).length c'], u] ∧ Sl encCo 8 (Fsh w w') w' a' c' (sortO (bothO X Y)) ∧ Own encCc 22 61 (Fsh w w') w' u (cflO X Y)) ∧ Ext False w w' := by
 have hlen := hs.len; have hlen2 := ht.len
 replace hs := hs.mono (F' := fun g => g < w.heap.size) (fun g h1 h2 => h1)
 replace ht := ht.mono (F' := fun g => g < w.heap.size) (fun g h1 h2 => h1)
 refine Ok_of_W 52 Tryz.func8 rfl rfl rfl ?_
 have hX : Ext False w w := Bel.refl _ _
 refine W_seq (W_region ?_)
 refine Rg_newB rfl (o_box (v := .agg _) rfl) ?_
 intro b2 w1 x2 hge2 hb2
 have hlt2 := hb2.lt
 change Box _ _ _ (wsS _ _ _) at hb2
 have z3 := x2.size
 replace hX := hX.ex x2
 replace hs := hs.ext x2
 replace ht := ht.ext x2
 refine Rg_newB rfl (o_box (v := .agg _) rfl) ?_
 intro b3 w4 x5 hge3 hb3
 have hlt3 := hb3.lt
 change Box _ _ _ (wsS _ _ _) at hb3
 have z6 := x5.size
 replace hX := hX.ex x5
 replace hs := hs.ext x5
 replace ht := ht.ext x5
 replace hb2 := hb2.ext x5
 refine Rg_newB rfl (o_alloc Tryz.zeroValue27) ?_
 intro b4 w7 x8 hge4 hb4
 have hlt4 := hb4.lt
 change Box _ _ _ ([.slice _ _ _]) at hb4
 have z9 := x8.size
 replace hX := hX.ex x8
 replace hs := hs.ext x8
 replace ht := ht.ext x8
 replace hb2 := hb2.ext x8
 replace hb3 := hb3.ext x8
 refine Rr o_assignc ?_
 refine Rg_nil (W_seq (W_region ?_))
 refine Rr (o_loadS Tryz.isAgg27 Tryz.sizeOf27 rfl hb2.at rfl) ?_
 refine Rr (o_loadS Tryz.isAgg27 Tryz.sizeOf27 rfl hb3.at rfl) ?_
 refine Rg_enter rfl (o_call2 Tryz.call29 rfl rfl) (Ok.mono (msplit_ok a b c d _ _ X Y _ hs ht hX0 hY0 hn hm) ?_)
 rintro _ w10 ⟨⟨u18, a18, c18, rfl, hown18, hs18⟩, x11⟩
 have z12 := x11.size
 replace hX := hX.ex x11
 replace hs := hs.ext x11
 replace ht := ht.ext x11
 replace hb2 := hb2.ext x11
 replace hb3 := hb3.ext x11
 replace hb4 := hb4.ext x11
 refine Rr (o_moveh (v := .tuple _) rfl) ?_
 refine Rr (o_extract rfl rfl) ?_
 refine Rr (o_extract rfl rfl) ?_
 refine Rr (o_assignh (v := u18) rfl) ?_
 refine Rr (asS rfl) ?_
 refine Rg_nil (W_seq (W_region ?_))
 refine Rr (o_moveh (v := u18) rfl) ?_
 refine Rg_enter rfl (o_call1 Tryz.call23 rfl) (Ok.mono (cof_ok _ _ (bothO X Y) (hown18.trd encCo_ok) (by have := both_len X Y; omega) (fun x hx => (both_vo hX0 hY0 x hx).ok)) ?_)
 rintro _ w13 ⟨⟨a23, c23, rfl, hs23⟩, x14⟩
 have z15 := x14.size
 replace hX := hX.ex x14
 replace hs := hs.ext x14
 replace ht := ht.ext x14
 replace hb2 := hb2.ext x14
 replace hb3 := hb3.ext x14
 replace hb4 := hb4.ext x14
 replace hs18 := hs18.ext x14
 rw [of_good (both_vo hX0 hY0) (both_cf hX0 hY0)] at hs23
 refine Rr (o_moveh (v := .tuple _) rfl) ?_
 refine Rr (o_extract rfl rfl) ?_
 refine Rr (o_extract rfl rfl) ?_
 refine Rg_alst rfl rfl Tryz.zeroValue27 rfl Tryz.sizeOf27 (fun _ => rfl) rfl rfl ?_
 intro b8 w16 x17 hge8 hb8
 have hlt8 := hb8.lt
 change Box _ _ _ (wsS _ _ _) at hb8
 have z18 := x17.size
 replace hX := hX.ex x17
 replace hs := hs.ext x17
 replace ht := ht.ext x17
 replace hb2 := hb2.ext x17
 replace hb3 := hb3.ext x17
 replace hb4 := hb4.ext x17
 replace hs18 := hs18.ext x17
 replace hs23 := hs23.ext x17
 refine Rr (asI rfl) ?_
 refine Rg_nil (W_seq ?_)
 obtain ⟨n4, hn4⟩ : ∃ n, n = w16.heap.size := ⟨_, rfl⟩
 apply W_drawC (β := False) (fun _ => 0) [peqC _, (postW (KmIs 59 n4 X)), peqC _, (postW (KmIs 59 n4 Y)), (postW (KmIs 59 n4 X))] [0, 0, 0, 0, 0] 5 mixed (by kernel_rfl) (by kernel_rfl) rfl ⟨peqC_stable _ _, (postW_stable (KmIs.keepS _ _ _)), peqC_stable _ _, (postW_stable (KmIs.keepS _ _ _)), (postW_stable (KmIs.keepS _ _ _)), trivial⟩ ?ob3 ?fin3
 case ob3 =>
  refine OblC_cons (fun w19 c21 x20 hc022 hk23 => ?_) ?_
  ·replace x20 := RelG.ext0 x20
   have z24 := x20.size
   have hb2 := hb2.ext x20
   refine bindC_nil ?_
   exact OpC_v rfl (o_loadS Tryz.isAgg27 Tryz.sizeOf27 rfl hb2.at rfl)
  refine OblC_cons (fun w25 c27 x26 hc028 hk29 => ?_) ?_
  ·replace x26 := RelG.ext0 x26
   have z30 := x26.size
   have hs := hs.ext x26
   refine bindC_eq (bindC_nil ?_)
   exact OpC_W (S := KmIs 59 n4 X) rfl (o_call1 Tryz.call30 rfl) ((bykey_ok a c _ X _ hs (fun x hx => hX0.v x hx) (by omega)).mono (fun v w2 ⟨⟨b, h1, h2⟩, x⟩ => ⟨⟨fun g hg => by have := hg.1; omega, b, h1, h2⟩, x⟩))
  refine OblC_cons (fun w31 c33 x32 hc034 hk35 => ?_) ?_
  ·replace x32 := RelG.ext0 x32
   have z36 := x32.size
   have hb3 := hb3.ext x32
   refine bindC_nil ?_
   exact OpC_v rfl (o_loadS Tryz.isAgg27 Tryz.sizeOf27 rfl hb3.at rfl)
  refine OblC_cons (fun w37 c39 x38 hc040 hk41 => ?_) ?_
  ·replace x38 := RelG.ext0 x38
   have z42 := x38.size
   have ht := ht.ext x38
   refine bindC_eq ?_
   refine bindC_mem (fun v27 hv27 => ?_)
   obtain ⟨F27, hF27, hn27, mp27, rfl, hkm27⟩ := hv27
   refine bindC_nil ?_
   exact OpC_W (S := KmIs 59 n4 Y) rfl (o_call1 Tryz.call30 rfl) ((bykey_ok b d _ Y _ ht (fun x hx => hY0.v x hx) (by omega)).mono (fun v w2 ⟨⟨b, h1, h2⟩, x⟩ => ⟨⟨fun g hg => by have := hg.1; omega, b, h1, h2⟩, x⟩))
  refine OblC_cons (fun w43 c45 x44 hc046 hk47 => ?_) ?_
  ·replace x44 := RelG.ext0 x44
   have z48 := x44.size
   refine bindC_mem (fun v27 hv27 => ?_)
   obtain ⟨F27, hF27, hn27, mp27, rfl, hkm27⟩ := hv27
   refine bindC_mem (fun v29 hv29 => ?_)
   refine bindC_eq ?_
   refine bindC_mem (fun v27 hv27 => ?_)
   obtain ⟨F27, hF27, hn27, mp27, rfl, hkm27⟩ := hv27
   refine bindC_nil ?_
   exact OpC_vp rfl (o_assignh rfl) ⟨F27, hF27, hn27, mp27, rfl, hkm27⟩
  exact OblC_nil
 case fin3 =>
  intro w49 c51 x50 hc052
  replace x50 := RelG.ext0 x50
  have z53 := x50.size
  replace hX := hX.ex x50
  replace hb4 := hb4.ext x50
  replace hs18 := hs18.ext x50
  replace hs23 := hs23.ext x50
  replace hb8 := hb8.ext x50
  refine bindC_eq ?_
  refine bindC_mem (fun v27 hv27 => ?_)
  obtain ⟨F27, hF27, hn27, mp27, rfl, hkm27⟩ := hv27
  refine bindC_eq ?_
  refine bindC_mem (fun v29 hv29 => ?_)
  refine bindC_mem (fun v10 hv10 => ?_)
  refine bindC_nil ?_
  obtain ⟨F29, hF29, hn29, mp29, rfl, hkm29⟩ := hv29
  replace hkm29 := hkm29.mono (F' := fun g => n4 ≤ g) (fun g _ h => hn29 g h)
  obtain ⟨F10, hF10, hn10, mp10, rfl, hkm10⟩ := hv10
  replace hkm10 := hkm10.mono (F' := fun g => n4 ≤ g) (fun g _ h => hn10 g h)
  refine Rr (o_assignh (v := .map _) rfl) ?_
  refine Rg_nil (W_seq (W_region ?_))
  refine Rr o_assignc ?_
  refine Rg_nil (W_seq (W_seq (W_region ?_)))
  obtain ⟨n6, hn6⟩ : ∃ n, n = w49.heap.size := ⟨_, rfl⟩
  have hbl := bad_len X Y
  have hlt10 : mp10 < n6 := by have := hkm10.lt; omega
  have hlt29 : mp29 < n6 := by have := hkm29.lt; omega
  replace hkm10 := hkm10.mono (F' := fun g => n4 ≤ g ∧ g < n6) (fun g h1 h2 => ⟨h2, by omega⟩)
  replace hkm29 := hkm29.mono (F' := fun g => n4 ≤ g ∧ g < n6) (fun g h1 h2 => ⟨h2, by omega⟩)
  refine Rr (mvS rfl) ?_
  refine Rr (o_llen Tryz.underlying83 rfl) ?_
  refine Rr o_movec ?_
  refine Rg_nil (W_block ?_)
  refine W_for (α := Nat × Value) [(12, 12), (14, 14), (32, 49)] (fun q => [(32, .int .i64 (q.1 : Int)), (12, q.2)]) (fun q w' => (q.1 ≤ (badK X Y).length) ∧ Bel False (fun g => n6 ≤ g) w49 w' ∧ (Own encCc 22 61 (fun g => n6 ≤ g) w' q.2 (((badK X Y).take q.1).map (mkC X Y)))) (fun q => (badK X Y).length - q.1) (0, .slice none 0 0) ⟨rfl, rfl, trivial⟩ ⟨Nat.zero_le _, Bel.refl _ _, Own.nil _ _⟩ ?_
  rintro ⟨k, t⟩ fb56 w55 ⟨hk, hXL54, hown12⟩
  dsimp only at *
  have z57 := Bel.size hXL54
  replace hX := Bel.out hX hXL54 (fun g h1 h2 => by first | exact h2 | omega)
  replace hb4 := hb4.keep hXL54 (fun h => by omega)
  replace hs18 := hs18.keep hXL54 (fun g h1 h2 h3 => by omega)
  replace hs23 := hs23.keep hXL54 (fun g h1 h2 h3 => by omega)
  replace hb8 := hb8.keep hXL54 (fun h => by omega)
  replace hkm29 := hkm29.keep hXL54 (fun g h1 h2 h3 => by omega)
  replace hkm10 := hkm10.keep hXL54 (fun g h1 h2 h3 => by omega)
  refine W_seq (W_region ?_)
  refine Rr (o_lss rfl rfl) ?_
  refine Rg_nil (W_seq ?_)
  refine W_cond rfl (fun hc1 => ?_) (fun hc1 => ?_)
  ·have hk1 : k < (badK X Y).length := by have := of_decide_eq_true hc1; omega
   refine W_skip (W_seq (W_block (W_seq (W_region ?_))))
   refine Rr (o_iaR Tryz.underlying83 Tryz.sizeOf57 hs18 rfl rfl (by first | omega | (unfold I64; omega))) ?_
   refine Rr (o_ldRS Tryz.isAgg57 Tryz.sizeOf57 hs18 rfl (getE okz (by omega))) ?_
   refine Rg_alst rfl rfl Tryz.zeroValue57 rfl Tryz.sizeOf57 (fun _ => rfl) rfl rfl ?_
   intro b14 w58 x59 hge14 hb14
   replace hown12 := hown12.mono (D' := fun g => n6 ≤ g ∧ g ≠ b14) (fun g h1 h2 => by omega)
   have hlt14 := hb14.lt
   change Box _ _ _ (encCk _) at hb14
   have z60 := x59.size
   replace hX := hX.ex x59
   replace hXL54 := Bel.ex hXL54 x59
   replace hkm29 := hkm29.ext x59
   replace hkm10 := hkm10.ext x59
   replace hown12 := hown12.ext x59
   refine Rg_nil ?_
   obtain ⟨n7, hn7⟩ : ∃ n, n = w58.heap.size := ⟨_, rfl⟩
   have hmem : ((badK X Y).getD k okz) ∈ badK X Y := gm (z := okz) (show k < (badK X Y).length by omega)
   have hkr := keys_kr hX0 _ (List.mem_filter.1 hmem).1
   have hbd := (bad_iff hX0).1 hmem
   obtain ⟨a40, c40, hlk40, hs40⟩ := hkm10.read mk_law Tryz.underlying86 Tryz.zeroValue25 hkr
   obtain ⟨a44, c44, hlk44, hs44⟩ := hkm29.read mk_law Tryz.underlying86 Tryz.zeroValue25 hkr
   have lo12 : ∀ g, t.ownBlock = some g → n6 ≤ g ∧ g < n7 ∧ g ≠ b14 := fun g h => by have h1 := hown12.loc g h; have h2 := hown12.lt g h; omega
   apply W_drawC (β := False) (fun b => if t.ownBlock = some b then 1 else 0) [peqC _, peqC _, peqC _, peqC _, peqC _, peqC _, peqC _, peqC _, peqC _, peqC _, peqC _, (fun v w c => ∃ a, v = .slice a 1 1 ∧ postOwn encCc 22 61 0 [mkC X Y ((badK X Y).getD k okz)] v w c), (postOwn encCc 22 61 1 (((badK X Y).take k).map (mkC X Y) ++ [mkC X Y ((badK X Y).getD k okz)]))] [0, 0, 0, 0, 0, 0, 0, 0, 0, 0, 0, 0, 1] 13 mixed (by kernel_rfl) (by kernel_rfl) rfl ⟨peqC_stable _ _, peqC_stable _ _, peqC_stable _ _, peqC_stable _ _, peqC_stable _ _, peqC_stable _ _, peqC_stable _ _, peqC_stable _ _, peqC_stable _ _, peqC_stable _ _, peqC_stable _ _, (postBs_stable), (postOwn_stable), trivial⟩ ?ob8 ?fin8
   case ob8 =>
    refine OblC_cons (fun w61 c63 x62 hc064 hk65 => ?_) ?_
    ·replace x62 := Bel.mono x62 (D' := fun g => (t.ownBlock = some g ∧ n6 ≤ g ∧ g < n7 ∧ g ≠ b14)) (fun g hg h => (by have hv : t.ownBlock = some g := Classical.byContradiction fun hn => h (if_neg hn); exact ⟨hv, lo12 g hv⟩))
     have z66 := x62.size
     refine bindC_nil ?_
     exact OpC_v rfl (o_moveh (v := t) rfl)
    refine OblC_cons (fun w67 c69 x68 hc070 hk71 => ?_) ?_
    ·replace x68 := Bel.mono x68 (D' := fun g => (t.ownBlock = some g ∧ n6 ≤ g ∧ g < n7 ∧ g ≠ b14)) (fun g hg h => (by have hv : t.ownBlock = some g := Classical.byContradiction fun hn => h (if_neg hn); exact ⟨hv, lo12 g hv⟩))
     have z72 := x68.size
     have hb14 := hb14.keep x68 (fun h => by omega)
     refine bindC_nil ?_
     exact OpC_v rfl (o_loadS Tryz.isAgg57 Tryz.sizeOf57 rfl hb14.at rfl)
    refine OblC_cons (fun w73 c75 x74 hc076 hk77 => ?_) ?_
    ·replace x74 := Bel.mono x74 (D' := fun g => (t.ownBlock = some g ∧ n6 ≤ g ∧ g < n7 ∧ g ≠ b14)) (fun g hg h => (by have hv : t.ownBlock = some g := Classical.byContradiction fun hn => h (if_neg hn); exact ⟨hv, lo12 g hv⟩))
     have z78 := x74.size
     refine bindC_nil ?_
     exact OpC_v rfl (o_moveh (v := .map _) rfl)
    refine OblC_cons (fun w79 c81 x80 hc082 hk83 => ?_) ?_
    ·replace x80 := Bel.mono x80 (D' := fun g => (t.ownBlock = some g ∧ n6 ≤ g ∧ g < n7 ∧ g ≠ b14)) (fun g hg h => (by have hv : t.ownBlock = some g := Classical.byContradiction fun hn => h (if_neg hn); exact ⟨hv, lo12 g hv⟩))
     have z84 := x80.size
     have hb14 := hb14.keep x80 (fun h => by omega)
     refine bindC_nil ?_
     exact OpC_v rfl (o_loadS Tryz.isAgg57 Tryz.sizeOf57 rfl hb14.at rfl)
    refine OblC_cons (fun w85 c87 x86 hc088 hk89 => ?_) ?_
    ·replace x86 := Bel.mono x86 (D' := fun g => (t.ownBlock = some g ∧ n6 ≤ g ∧ g < n7 ∧ g ≠ b14)) (fun g hg h => (by have hv : t.ownBlock = some g := Classical.byContradiction fun hn => h (if_neg hn); exact ⟨hv, lo12 g hv⟩))
     have z90 := x86.size
     have hlk40 := hlk40.keep x86 (fun g h1 h2 h3 => by omega)
     refine bindC_eq (bindC_eq (bindC_nil ?_))
     exact OpC_v rfl (o_klook hlk40 rfl rfl)
    refine OblC_cons (fun w91 c93 x92 hc094 hk95 => ?_) ?_
    ·replace x92 := Bel.mono x92 (D' := fun g => (t.ownBlock = some g ∧ n6 ≤ g ∧ g < n7 ∧ g ≠ b14)) (fun g hg h => (by have hv : t.ownBlock = some g := Classical.byContradiction fun hn => h (if_neg hn); exact ⟨hv, lo12 g hv⟩))
     have z96 := x92.size
     have hs40 := hs40.keep x92 (fun g h1 h2 h3 => by omega)
     refine bindC_eq (bindC_nil ?_)
     exact OpC_call rfl (o_call1 Tryz.call31 rfl) (mlast_ok a40 c40 _ _ _ hs40 hbd.1)
    refine OblC_cons (fun w97 c99 x98 hc0100 hk101 => ?_) ?_
    ·replace x98 := Bel.mono x98 (D' := fun g => (t.ownBlock = some g ∧ n6 ≤ g ∧ g < n7 ∧ g ≠ b14)) (fun g hg h => (by have hv : t.ownBlock = some g := Classical.byContradiction fun hn => h (if_neg hn); exact ⟨hv, lo12 g hv⟩))
     have z102 := x98.size
     refine bindC_nil ?_
     exact OpC_v rfl (o_moveh (v := .map _) rfl)
    refine OblC_cons (fun w103 c105 x104 hc0106 hk107 => ?_) ?_
    ·replace x104 := Bel.mono x104 (D' := fun g => (t.ownBlock = some g ∧ n6 ≤ g ∧ g < n7 ∧ g ≠ b14)) (fun g hg h => (by have hv : t.ownBlock = some g := Classical.byContradiction fun hn => h (if_neg hn); exact ⟨hv, lo12 g hv⟩))
     have z108 := x104.size
     have hb14 := hb14.keep x104 (fun h => by omega)
     refine bindC_nil ?_
     exact OpC_v rfl (o_loadS Tryz.isAgg57 Tryz.sizeOf57 rfl hb14.at rfl)
    refine OblC_cons (fun w109 c111 x110 hc0112 hk113 => ?_) ?_
    ·replace x110 := Bel.mono x110 (D' := fun g => (t.ownBlock = some g ∧ n6 ≤ g ∧ g < n7 ∧ g ≠ b14)) (fun g hg h => (by have hv : t.ownBlock = some g := Classical.byContradiction fun hn => h (if_neg hn); exact ⟨hv, lo12 g hv⟩))
     have z114 := x110.size
     have hlk44 := hlk44.keep x110 (fun g h1 h2 h3 => by omega)
     refine bindC_eq (bindC_eq (bindC_nil ?_))
     exact OpC_v rfl (o_klook hlk44 rfl rfl)
    refine OblC_cons (fun w115 c117 x116 hc0118 hk119 => ?_) ?_
    ·replace x116 := Bel.mono x116 (D' := fun g => (t.ownBlock = some g ∧ n6 ≤ g ∧ g < n7 ∧ g ≠ b14)) (fun g hg h => (by have hv : t.ownBlock = some g := Classical.byContradiction fun hn => h (if_neg hn); exact ⟨hv, lo12 g hv⟩))
     have z120 := x116.size
     have hs44 := hs44.keep x116 (fun g h1 h2 h3 => by omega)
     refine bindC_eq (bindC_eq (bindC_nil ?_))
     exact OpC_call rfl (o_call1 Tryz.call31 rfl) (mlast_ok a44 c44 _ _ _ hs44 hbd.2.1)
    refine OblC_cons (fun w121 c123 x122 hc0124 hk125 => ?_) ?_
    ·replace x122 := Bel.mono x122 (D' := fun g => (t.ownBlock = some g ∧ n6 ≤ g ∧ g < n7 ∧ g ≠ b14)) (fun g hg h => (by have hv : t.ownBlock = some g := Classical.byContradiction fun hn => h (if_neg hn); exact ⟨hv, lo12 g hv⟩))
     have z126 := x122.size
     refine bindC_eq (bindC_eq (bindC_eq (bindC_nil ?_)))
     exact OpC_v rfl (o_build (cells := encCc (mkC X Y ((badK X Y).getD k okz))) (vs := [(0, .agg _), (1, .agg _), (2, .agg _)]) rfl (by kernel_rfl))
    refine OblC_cons (fun w127 c129 x128 hc0130 hk131 => ?_) ?_
    ·replace x128 := Bel.mono x128 (D' := fun g => (t.ownBlock = some g ∧ n6 ≤ g ∧ g < n7 ∧ g ≠ b14)) (fun g hg h => (by have hv : t.ownBlock = some g := Classical.byContradiction fun hn => h (if_neg hn); exact ⟨hv, lo12 g hv⟩))
     have z132 := x128.size
     refine bindC_eq (bindC_nil ?_)
     exact OpC_bs (vs := [.agg _]) [mkC X Y ((badK X Y).getD k okz)] encCc_ok el_cc rfl rfl ⟨rfl, trivial⟩ rfl rfl rfl rfl
    refine OblC_cons (fun w133 c135 x134 hc0136 hk137 => ?_) ?_
    ·replace x134 := Bel.mono x134 (D' := fun g => (t.ownBlock = some g ∧ n6 ≤ g ∧ g < n7 ∧ g ≠ b14)) (fun g hg h => (by have hv : t.ownBlock = some g := Classical.byContradiction fun hn => h (if_neg hn); exact ⟨hv, lo12 g hv⟩))
     have z138 := x134.size
     refine bindC_eq ?_
     refine bindC_mem (fun v47 hv47 => ?_)
     obtain ⟨a47, rfl, ho47⟩ := hv47
     refine bindC_eq (bindC_nil ?_)
     exact OpC_app (by decide) encCc_ok el_cc rfl rfl (hown12.blk (fun g hg hv => hk137 1 (by decide) (by kernel_rfl) g hg (if_pos hv)) (fun g hg hv => (hc0136 g hg).trans (if_pos hv))) (Own.slA ho47 encCc_ok) rfl (by have := bad_len X Y; rw [List.length_singleton, List.length_map, List.length_take]; omega)
    exact OblC_nil
   case fin8 =>
    intro w139 c141 x140 hc0142
    replace x140 := Bel.mono x140 (D' := fun g => (t.ownBlock = some g ∧ n6 ≤ g ∧ g < n7 ∧ g ≠ b14)) (fun g hg h => (by have hv : t.ownBlock = some g := Classical.byContradiction fun hn => h (if_neg hn); exact ⟨hv, lo12 g hv⟩))
    have z143 := x140.size
    replace hX := Bel.out hX x140 (fun g h1 h2 => by first | exact h2 | omega)
    replace hXL54 := Bel.out hXL54 x140 (fun g h1 h2 => by first | exact h2 | omega)
    refine bindC_eq (bindC_eq (bindC_eq (bindC_eq (bindC_eq (bindC_eq (bindC_eq (bindC_eq (bindC_eq ?_))))))))
    refine bindC_eq (bindC_eq ?_)
    refine bindC_mem (fun v47 hv47 => ?_)
    obtain ⟨a47, rfl, ho47⟩ := hv47
    refine bindC_mem (fun v48 hv48 => ?_)
    refine bindC_nil ?_
    change Own _ _ _ _ _ _ _ at hv48
    replace hv48 := Own.mono hv48 (D' := fun g => n6 ≤ g) (fun g hg h => (Nat.lt_or_ge g n7).elim (fun q => (lo12 g (Classical.byContradiction fun hn => by have h2 : (if t.ownBlock = some g then 1 else 0) = 1 := (hc0142 g (by omega)).symm.trans h; rw [if_neg hn] at h2; cases h2)).1) (fun q => by omega))
    refine Rr (o_assignh (v := v48) rfl) ?_
    refine Rg_nil (W_region ?_)
    refine Rr (o_add rfl rfl (by first | omega | (unfold I64; omega))) ?_
    refine Rr (mvI rfl) ?_
    refine Rg_nil ?_
    refine ⟨(k + 1, v48), ⟨?_, ?_, trivial⟩, ?_, ⟨?_, hXL54, ?_⟩, ?_⟩
    ·first | rfl | (go_num) | (exact congrArg _ (by omega))
    ·first | rfl | (go_num) | (exact congrArg _ (by omega))
    ·repeat (first | exact oR _ _ | exact oM | refine oP rfl ?_ | refine oN ?_ | refine oL rfl ?_ | refine oX rfl ?_)
    ·show k + 1 ≤ (badK X Y).length; omega
    ·show Own _ _ _ _ _ _ (((badK X Y).take (k + 1)).map _)
     rw [map_succ (z := okz) (by omega)]; exact hv48.mono (fun g h1 h2 => by omega)
    ·show (badK X Y).length - (k + 1) < (badK X Y).length - k; omega
  have hk1 : ¬ k < (badK X Y).length := by have := of_decide_eq_false hc1; omega
  refine W_exit (exAt_hit (W_seq (W_region ?_)))
  refine Rr (o_loadS Tryz.isAgg27 Tryz.sizeOf27 rfl hb8.at rfl) ?_
  refine Rr (o_moveh (v := t) rfl) ?_
  refine Rg_storeW (v := .agg _) rfl Tryz.sizeOf27 rfl rfl hb4 rfl rfl rfl ?_
  intro w144 c145 hb4
  change Box _ _ _ (wsS _ _ _) at hb4
  have z146 := Bel.size c145
  replace hX := Bel.out hX c145 (fun g h1 h2 => by first | exact h2 | omega)
  replace hs23 := hs23.keep c145 (fun g h1 h2 h3 => by omega)
  replace hown12 := hown12.keepD c145 (fun g h1 h2 h3 => by omega)
  refine Rr (o_assignh (v := t) rfl) ?_
  refine Rg_nil (W_ret ?_)
  refine ⟨_, res_T (vs := [.agg _, (t)]) rfl ⟨rv_cellS Tryz.isAgg27 Tryz.sizeOf27 rfl hb4.at rfl, rfl, trivial⟩ (by simp), ?_⟩
  rw [List.take_of_length_le (by omega)] at hown12
  have e0 := of_good (both_vo hX0 hY0) (both_cf hX0 hY0)
  refine ⟨⟨a23, c23, t, ?_, hs23.mono (fun g h1 h2 => ⟨by have := h2.1; omega, by omega⟩), hown12.mono (fun g h1 h2 => ⟨by omega, h1⟩)⟩, hX⟩
  rw [e0]; rfl

theorem comm1_ok (κ : OKey) (b mp : Nat) (X : List COp) (F : Nat → Prop) (w : World) (hb : At w b 0 [.map (some mp)]) (hkm : KM 59 F w mp X) (hk : Kr κ) : Ok Tryz.prog 40 #[.agg (encCk κ).toArray, .pointer (some ⟨b, 0, none⟩)] w fun v w' => v = .bool (!(withK X κ).isEmpty) ∧ Ext False w w' := by
 refine Ok_of_W 13 Tryz.func40 rfl rfl rfl ?_
 have hX : Ext False w w := Bel.refl _ _
 refine W_seq (W_region ?_)
 refine Rg_newB rfl (o_box (v := .agg _) rfl) ?_
 intro b2 w1 x2 hge2 hb2
 change Box _ _ _ (encCk _) at hb2
 replace hX := hX.ex x2
 replace hb := hb.ext x2
 replace hkm := hkm.ext x2
 refine Rr o_assignc ?_
 refine Rg_nil (W_seq (W_region ?_))
 refine Rr (o_load1 Tryz.isAgg86 rfl (hb.get 0 rfl)) ?_
 refine Rr (o_loadS Tryz.isAgg57 Tryz.sizeOf57 rfl hb2.at rfl) ?_
 obtain ⟨a9, c9, hlk9, hs9⟩ := hkm.read mk_law Tryz.underlying86 Tryz.zeroValue25 hk
 refine Rr (o_klook2 hlk9 rfl rfl) ?_
 refine Rr (o_moveh (v := .tuple _) rfl) ?_
 refine Rr (o_extract rfl rfl) ?_
 refine Rr (o_extract rfl rfl) ?_
 refine Rr (asS rfl) ?_
 refine Rr (asB rfl) ?_
 refine Rg_nil (W_seq (W_region ?_))
 refine Rr (mvB rfl) ?_
 refine Rr (asB rfl) ?_
 refine Rg_nil (W_ret ?_)
 refine ⟨_, res_tmp rfl rfl, ?_⟩
 refine ⟨congrArg Value.bool ?_, hX⟩
 all_goals (rfl)

theorem kidxf_ok (a : Option Addr) (c : Nat) (B : Nat → Prop) (l : List OKey) (fid : FuncId) (cs : Array Value) (p : OKey → Bool) (w : World) (hs : Sl encCk 6 B w a c l) (hent : ∀ args w, (callFunc fid args).run Tryz.prog w = .ok (.enter fid args) w) (hp : ∀ x ∈ l, ∀ w', Ext False w w' → Ok Tryz.prog fid (#[.agg (encCk x).toArray] ++ cs) w' fun v w'' => v = .bool (p x) ∧ Ext False w' w'') : Ok Tryz.prog 64 #[.slice a l.length c, .func (.func fid) #[] cs] w fun v w' => v = .int .i64 (ixOf p l) ∧ Ext False w w' := by
 have hlen := hs.len
 refine Ok_of_W 19 Tryz.func64 rfl rfl rfl ?_
 have hX : Ext False w w := Bel.refl _ _
 refine W_seq (W_region ?_)
 refine Rr o_assignc ?_
 refine Rg_nil (W_seq (W_seq (W_region ?_)))
 refine Rr (mvS rfl) ?_
 refine Rr (o_llen Tryz.underlying83 rfl) ?_
 refine Rr o_movec ?_
 refine Rg_nil (W_block ?_)
 refine W_for (α := Nat) [(4, 5), (8, 18)] (fun k => [(8, .int .i64 (k : Int))]) (fun k w' => (k ≤ l.length ∧ (l.take k).any p = false) ∧ Ext False w w') (fun k => l.length - k) 0 ⟨rfl, trivial⟩ ⟨⟨by omega, by simp⟩, Bel.refl _ _⟩ ?_
 rintro k fb3 w2 ⟨⟨hk, hall⟩, hXL1⟩
 replace hX := hX.ex hXL1
 replace hs := hs.ext hXL1
 refine W_seq (W_region ?_)
 refine Rr (o_lss rfl rfl) ?_
 refine Rg_nil (W_seq ?_)
 refine W_cond rfl (fun hc1 => ?_) (fun hc1 => ?_)
 ·replace hc1 := of_decide_eq_true hc1
  refine W_skip (W_seq (W_block (W_seq (W_region ?_))))
  refine Rr (mvI rfl) ?_
  refine Rr (asI rfl) ?_
  refine Rg_nil (W_seq (W_region ?_))
  refine Rr (o_moveh (v := .func _ _ _) rfl) ?_
  refine Rr (mvS rfl) ?_
  refine Rr (mvI rfl) ?_
  refine Rr (o_iaR Tryz.underlying83 Tryz.sizeOf57 hs rfl rfl (by first | omega | (unfold I64; omega))) ?_
  refine Rr (o_ldRS Tryz.isAgg57 Tryz.sizeOf57 hs rfl (getE okz (by omega))) ?_
  refine Rg_enter rfl (o_clo1 hent rfl rfl) (Ok.mono (hp _ (gm (z := okz) (show k < l.length by omega)) _ hX) ?_)
  rintro _ w4 ⟨rfl, x5⟩
  replace hX := hX.ex x5
  replace hXL1 := Bel.ex hXL1 x5
  refine Rg_nil ?_
  refine W_cond rfl (fun hc2 => ?_) (fun hc2 => ?_)
  ·refine W_seq (W_region ?_)
   refine Rr (mvI rfl) ?_
   refine Rr (asI rfl) ?_
   refine Rg_nil (W_ret ?_)
   refine ⟨_, res_tmp rfl rfl, ?_⟩
   refine ⟨congrArg (Value.int .i64) ?_, hX⟩
   all_goals (exact (ixOf_at (by omega) hall (by simpa [List.getD, show k < l.length by omega] using hc2)).symm)
  refine W_skip (W_region ?_)
  refine Rr (o_add rfl rfl (by first | omega | (unfold I64; omega))) ?_
  refine Rr (mvI rfl) ?_
  refine Rg_nil ?_
  refine ⟨k + 1, ⟨?_, trivial⟩, ?_, ⟨?_, hXL1⟩, ?_⟩
  ·first | rfl | (go_num) | (exact congrArg _ (by omega))
  ·repeat (first | exact oR _ _ | exact oM | refine oP rfl ?_ | refine oN ?_ | refine oL rfl ?_ | refine oX rfl ?_)
  ·exact ⟨by omega, anyT_succ (by omega) hall (by simpa [List.getD, show k < l.length by omega] using hc2)⟩
  ·omega
 replace hc1 := of_decide_eq_false hc1
 refine W_exit (exAt_hit (W_seq (W_region ?_)))
 refine Rr o_assignc ?_
 refine Rg_nil (W_ret ?_)
 refine ⟨_, res_tmp rfl rfl, ?_⟩
 refine ⟨congrArg (Value.int .i64) ?_, hX⟩
 all_goals (exact (ixOf_none (k := k) (by omega) hall).symm)

theorem kcontf_ok (a : Option Addr) (c : Nat) (B : Nat → Prop) (l : List OKey) (fid : FuncId) (cs : Array Value) (p : OKey → Bool) (w : World) (hs : Sl encCk 6 B w a c l) (hent : ∀ args w, (callFunc fid args).run Tryz.prog w = .ok (.enter fid args) w) (hp : ∀ x ∈ l, ∀ w', Ext False w w' → Ok Tryz.prog fid (#[.agg (encCk x).toArray] ++ cs) w' fun v w'' => v = .bool (p x) ∧ Ext False w' w'') : Ok Tryz.prog 38 #[.slice a l.length c, .func (.func fid) #[] cs] w fun v w' => v = .bool (l.any p) ∧ Ext False w w' := by
 refine Ok_of_W 9 Tryz.func38 rfl rfl rfl ?_
 have hX : Ext False w w := Bel.refl _ _
 refine W_seq (W_region ?_)
 refine Rr o_assignc ?_
 refine Rg_nil (W_seq (W_region ?_))
 refine Rr (mvS rfl) ?_
 refine Rr (o_moveh (v := .func _ _ _) rfl) ?_
 refine Rg_enter rfl (o_call2 Tryz.call64 rfl rfl) (Ok.mono (kidxf_ok _ _ _ _ _ _ _ _ hs hent hp) ?_)
 rintro _ w1 ⟨rfl, x2⟩
 replace hX := hX.ex x2
 refine Rr (o_geq rfl rfl) ?_
 refine Rr (asB rfl) ?_
 refine Rg_nil (W_ret ?_)
 refine ⟨_, res_tmp rfl rfl, ?_⟩
 refine ⟨congrArg Value.bool ?_, hX⟩
 all_goals (exact ixOf_ge _ _)

theorem mcomm_ok (a b : Option Addr) (c d : Nat) (G H : Nat → Prop) (X Y : List COp) (w : World) (hs : Sl encCo 8 G w a c X) (ht : Sl encCo 8 H w b d Y) (hX0 : VS X) (hY0 : VS Y) (hn : X.length ≤ 100) (hm : Y.length ≤ 100) : Ok Tryz.prog 12 #[.agg #[.slice a X.length c], .agg #[.slice b Y.length d]] w fun v w' => v = .bool (commO X Y) ∧ Ext False w w' := by
 have hlen := hs.len; have hlen2 := ht.len
 replace hs := hs.mono (F' := fun g => g < w.heap.size) (fun g h1 h2 => h1)
 replace ht := ht.mono (F' := fun g => g < w.heap.size) (fun g h1 h2 => h1)
 refine Ok_of_W 13 Tryz.func12 rfl rfl rfl ?_
 have hX : Ext False w w := Bel.refl _ _
 refine W_seq (W_region ?_)
 refine Rg_newB rfl (o_box (v := .agg _) rfl) ?_
 intro b2 w1 x2 hge2 hb2
 change Box _ _ _ (wsS _ _ _) at hb2
 replace hX := hX.ex x2
 replace hs := hs.ext x2
 replace ht := ht.ext x2
 refine Rg_newB rfl (o_box (v := .agg _) rfl) ?_
 intro b3 w3 x4 hge3 hb3
 change Box _ _ _ (wsS _ _ _) at hb3
 replace hX := hX.ex x4
 replace hs := hs.ext x4
 replace ht := ht.ext x4
 replace hb2 := hb2.ext x4
 refine Rr o_assignc ?_
 refine Rg_nil (W_seq (W_region ?_))
 refine Rr (o_loadS Tryz.isAgg27 Tryz.sizeOf27 rfl hb2.at rfl) ?_
 refine Rg_enter rfl (o_call1 Tryz.call30 rfl) (Ok.mono (bykey_ok _ _ _ X _ hs (fun x hx => hX0.v x hx) (by omega)) ?_)
 rintro _ w5 ⟨⟨mp7, rfl, hkm7⟩, x6⟩
 replace hX := hX.ex x6
 replace ht := ht.ext x6
 replace hb3 := hb3.ext x6
 refine Rg_alst rfl rfl Tryz.zeroValue86 rfl Tryz.sizeOf86 (fun _ => rfl) rfl rfl ?_
 intro b5 w7 x8 hge5 hb5
 replace hX := hX.ex x8
 replace ht := ht.ext x8
 replace hb3 := hb3.ext x8
 replace hkm7 := hkm7.ext x8
 refine Rg_nil (W_seq (W_region ?_))
 refine Rr (o_loadS Tryz.isAgg27 Tryz.sizeOf27 rfl hb3.at rfl) ?_
 refine Rg_enter rfl (o_call1 Tryz.call39 rfl) (Ok.mono (ckeys_ok _ _ _ Y _ ht (by omega)) ?_)
 rintro v9 w9 ⟨hown9, x10⟩
 replace hX := hX.ex x10
 replace hkm7 := hkm7.ext x10
 replace hb5 := hb5.ext x10
 obtain ⟨a9, c9, hv9, hs9⟩ := hown9.sl encCk_ok
 subst hv9
 refine Rr (o_fn1 rfl) ?_
 refine Rg_enter rfl (o_call2 Tryz.call38 rfl rfl) (Ok.mono (kcontf_ok a9 c9 _ (keysO Y) 40 #[.pointer (some ⟨b5, 0, none⟩)] (fun κ => !(withK X κ).isEmpty) _ hs9 Tryz.call40 (fun x hx w' hw => comm1_ok x b5 mp7 X _ w' (hb5.ext hw).at (hkm7.ext hw) (keys_kr hY0 x hx))) ?_)
 rintro _ w11 ⟨rfl, x12⟩
 replace hX := hX.ex x12
 refine Rr (o_not rfl) ?_
 refine Rr (asB rfl) ?_
 refine Rg_nil (W_ret ?_)
 refine ⟨_, res_tmp rfl rfl, ?_⟩
 exact ⟨rfl, hX⟩

set_option maxHeartbeats 4000000 in
theorem mres_ok (a b : Option Addr) (c d : Nat) (G H : Nat → Prop) (X Y : List COp) (w : World) (hs : Sl encCo 8 G w a c X) (ht : Sl encCo 8 H w b d Y) (hX0 : VS X) (hY0 : VS Y) (hn : X.length ≤ 100) (hm : Y.length ≤ 100) (v2 : Value) (ch : List Bool) (hch0 : Rd encBl 1 (Lt w.heap.size) w v2 ch) : Ok Tryz.prog 15 #[.agg #[.slice a X.length c], .agg #[.slice b Y.length d], v2] w fun v w' => (∃ a' c', v = .tuple #[.agg #[.slice a' (resolveO X Y ch).1.length c'], .int .i64 (resolveO X Y ch).2] ∧ Sl encCo 8 (Fsh w w') w' a' c' (resolveO X Y ch).1) ∧ Ext False w w' := by
 have hlen := hs.len; have hlen2 := ht.len
 replace hs := hs.mono (F' := fun g => g < w.heap.size) (fun g h1 h2 => h1)
 replace ht := ht.mono (F' := fun g => g < w.heap.size) (fun g h1 h2 => h1)
 obtain ⟨a2, c2, rfl, hch0⟩ := hch0; have hlc := hch0.len
 replace hch0 := hch0.mono (F' := fun g => g < w.heap.size) (fun g h1 h2 => h1)
 refine Ok_of_W 56 Tryz.func15 rfl rfl rfl ?_
 have hX : Ext False w w := Bel.refl _ _
 refine W_seq (W_region ?_)
 refine Rg_newB rfl (o_box (v := .agg _) rfl) ?_
 intro b3 w1 x2 hge3 hb3
 have hlt3 := hb3.lt
 change Box _ _ _ (wsS _ _ _) at hb3
 have z3 := x2.size
 replace hX := hX.ex x2
 replace hs := hs.ext x2
 replace ht := ht.ext x2
 replace hch0 := hch0.ext x2
 refine Rg_newB rfl (o_box (v := .agg _) rfl) ?_
 intro b4 w4 x5 hge4 hb4
 have hlt4 := hb4.lt
 change Box _ _ _ (wsS _ _ _) at hb4
 have z6 := x5.size
 replace hX := hX.ex x5
 replace hs := hs.ext x5
 replace ht := ht.ext x5
 replace hch0 := hch0.ext x5
 replace hb3 := hb3.ext x5
 refine Rg_newB rfl (o_alloc Tryz.zeroValue27) ?_
 intro b6 w7 x8 hge6 hb6
 have hlt6 := hb6.lt
 change Box _ _ _ ([.slice _ _ _]) at hb6
 have z9 := x8.size
 replace hX := hX.ex x8
 replace hs := hs.ext x8
 replace ht := ht.ext x8
 replace hch0 := hch0.ext x8
 replace hb3 := hb3.ext x8
 replace hb4 := hb4.ext x8
 refine Rr o_assignc ?_
 refine Rg_nil (W_seq (W_region ?_))
 obtain ⟨n3, hn3⟩ : ∃ n, n = w7.heap.size := ⟨_, rfl⟩
 refine Rr (o_loadS Tryz.isAgg27 Tryz.sizeOf27 rfl hb3.at rfl) ?_
 refine Rr (o_loadS Tryz.isAgg27 Tryz.sizeOf27 rfl hb4.at rfl) ?_
 refine Rg_enter rfl (o_call2 Tryz.call29 rfl rfl) (Ok.mono (msplit_ok a b c d _ _ X Y _ hs ht hX0 hY0 hn hm) ?_)
 rintro _ w10 ⟨⟨u17, a17, c17, rfl, hown17, hs17⟩, x11⟩
 have z12 := x11.size
 replace hX := hX.ex x11
 replace hs := hs.ext x11
 replace ht := ht.ext x11
 replace hch0 := hch0.ext x11
 replace hb3 := hb3.ext x11
 replace hb4 := hb4.ext x11
 replace hb6 := hb6.ext x11
 refine Rr (o_moveh (v := .tuple _) rfl) ?_
 refine Rr (o_extract rfl rfl) ?_
 refine Rr (o_extract rfl rfl) ?_
 refine Rr (o_assignh (v := u17) rfl) ?_
 refine Rr (asS rfl) ?_
 refine Rg_nil (W_seq (W_seq (W_region ?_)))
 refine Rr (mvS rfl) ?_
 refine Rr (o_llen Tryz.underlying42 rfl) ?_
 refine Rr (mvS rfl) ?_
 refine Rr (o_llen Tryz.underlying83 rfl) ?_
 refine Rr (o_neq rfl rfl) ?_
 refine Rg_nil ?_
 refine W_cond rfl (fun hc1 => ?_) (fun hc1 => ?_)
 ·have hln : ch.length ≠ (badK X Y).length := by have := hc1; simp at this; omega
  refine W_seq (W_region ?_)
  refine Rr (o_build (cells := wsS none 0 0) (vs := []) rfl (by kernel_rfl)) ?_
  refine Rg_storeW (v := .agg _) rfl Tryz.sizeOf27 rfl rfl hb6 rfl rfl rfl ?_
  intro w13 c14 hb6
  change Box _ _ _ (wsS _ _ _) at hb6
  have z15 := Bel.size c14
  replace hX := Bel.out hX c14 (fun g h1 h2 => by first | exact h2 | omega)
  refine Rr o_assignc ?_
  refine Rg_nil (W_ret ?_)
  refine ⟨_, res_T (vs := [.agg _, .int _ _]) rfl ⟨rv_cellS Tryz.isAgg27 Tryz.sizeOf27 rfl hb6.at rfl, rfl, trivial⟩ (by simp), ?_⟩
  have e0 : resolveO X Y ch = ([], 1) := by rw [resolveO, if_pos hln]
  rw [e0]
  exact ⟨⟨none, 0, rfl, Sl.none⟩, hX⟩
 have hln : ch.length = (badK X Y).length := by have := hc1; simp at this; omega
 refine W_skip (W_seq ?_)
 obtain ⟨n4, hn4⟩ : ∃ n, n = w10.heap.size := ⟨_, rfl⟩
 have hlo17 : ∀ g, u17.ownBlock = some g → n3 ≤ g ∧ g < n4 := fun g h => by have h1 := (hown17.loc g h).1; have h2 := h1.1; have h3 := h1.2; omega
 apply W_drawC (β := False) (fun _ => 0) [peqC _, (postW (KmIs 59 n4 X)), peqC _, (postW (KmIs 59 n4 Y)), (postW (KmIs 59 n4 X))] [0, 0, 0, 0, 0] 5 mixed (by kernel_rfl) (by kernel_rfl) rfl ⟨peqC_stable _ _, (postW_stable (KmIs.keepS _ _ _)), peqC_stable _ _, (postW_stable (KmIs.keepS _ _ _)), (postW_stable (KmIs.keepS _ _ _)), trivial⟩ ?ob4 ?fin4
 case ob4 =>
  refine OblC_cons (fun w16 c18 x17 hc019 hk20 => ?_) ?_
  ·replace x17 := RelG.ext0 x17
   have z21 := x17.size
   have hb3 := hb3.ext x17
   refine bindC_nil ?_
   exact OpC_v rfl (o_loadS Tryz.isAgg27 Tryz.sizeOf27 rfl hb3.at rfl)
  refine OblC_cons (fun w22 c24 x23 hc025 hk26 => ?_) ?_
  ·replace x23 := RelG.ext0 x23
   have z27 := x23.size
   have hs := hs.ext x23
   refine bindC_eq (bindC_nil ?_)
   exact OpC_W (S := KmIs 59 n4 X) rfl (o_call1 Tryz.call30 rfl) ((bykey_ok a c _ X _ hs (fun x hx => hX0.v x hx) (by omega)).mono (fun v w2 ⟨⟨b, h1, h2⟩, x⟩ => ⟨⟨fun g hg => by have := hg.1; omega, b, h1, h2⟩, x⟩))
  refine OblC_cons (fun w28 c30 x29 hc031 hk32 => ?_) ?_
  ·replace x29 := RelG.ext0 x29
   have z33 := x29.size
   have hb4 := hb4.ext x29
   refine bindC_nil ?_
   exact OpC_v rfl (o_loadS Tryz.isAgg27 Tryz.sizeOf27 rfl hb4.at rfl)
  refine OblC_cons (fun w34 c36 x35 hc037 hk38 => ?_) ?_
  ·replace x35 := RelG.ext0 x35
   have z39 := x35.size
   have ht := ht.ext x35
   refine bindC_eq ?_
   refine bindC_mem (fun v27 hv27 => ?_)
   obtain ⟨F27, hF27, hn27, mp27, rfl, hkm27⟩ := hv27
   refine bindC_nil ?_
   exact OpC_W (S := KmIs 59 n4 Y) rfl (o_call1 Tryz.call30 rfl) ((bykey_ok b d _ Y _ ht (fun x hx => hY0.v x hx) (by omega)).mono (fun v w2 ⟨⟨b, h1, h2⟩, x⟩ => ⟨⟨fun g hg => by have := hg.1; omega, b, h1, h2⟩, x⟩))
  refine OblC_cons (fun w40 c42 x41 hc043 hk44 => ?_) ?_
  ·replace x41 := RelG.ext0 x41
   have z45 := x41.size
   refine bindC_mem (fun v27 hv27 => ?_)
   obtain ⟨F27, hF27, hn27, mp27, rfl, hkm27⟩ := hv27
   refine bindC_mem (fun v29 hv29 => ?_)
   refine bindC_eq ?_
   refine bindC_mem (fun v27 hv27 => ?_)
   obtain ⟨F27, hF27, hn27, mp27, rfl, hkm27⟩ := hv27
   refine bindC_nil ?_
   exact OpC_vp rfl (o_assignh rfl) ⟨F27, hF27, hn27, mp27, rfl, hkm27⟩
  exact OblC_nil
 case fin4 =>
  intro w46 c48 x47 hc049
  replace x47 := RelG.ext0 x47
  have z50 := x47.size
  replace hX := hX.ex x47
  replace hch0 := hch0.ext x47
  replace hb6 := hb6.ext x47
  replace hown17 := hown17.ext x47
  replace hs17 := hs17.ext x47
  refine bindC_eq ?_
  refine bindC_mem (fun v27 hv27 => ?_)
  obtain ⟨F27, hF27, hn27, mp27, rfl, hkm27⟩ := hv27
  refine bindC_eq ?_
  refine bindC_mem (fun v29 hv29 => ?_)
  refine bindC_mem (fun v10 hv10 => ?_)
  refine bindC_nil ?_
  obtain ⟨F29, hF29, hn29, mp29, rfl, hkm29⟩ := hv29
  replace hkm29 := hkm29.mono (F' := fun g => n4 ≤ g) (fun g _ h => hn29 g h)
  obtain ⟨F10, hF10, hn10, mp10, rfl, hkm10⟩ := hv10
  replace hkm10 := hkm10.mono (F' := fun g => n4 ≤ g) (fun g _ h => hn10 g h)
  refine Rr (o_assignh (v := .map _) rfl) ?_
  refine Rg_nil (W_seq (W_seq (W_region ?_)))
  obtain ⟨n6, hn6⟩ : ∃ n, n = w46.heap.size := ⟨_, rfl⟩
  have hbl := bad_len X Y
  replace hkm10 := hkm10.mono (F' := fun g => n4 ≤ g ∧ g < n6) (fun g h1 h2 => ⟨h2, by omega⟩)
  replace hkm29 := hkm29.mono (F' := fun g => n4 ≤ g ∧ g < n6) (fun g h1 h2 => ⟨h2, by omega⟩)
  replace hown17 := hown17.at (D' := fun g => (n3 ≤ g ∧ g < n4) ∨ n6 ≤ g) (fun g h1 h2 => by have := (hown17.loc g h2).1; have := this.1; have := hlo17 g h2; omega)
  replace hs17 := hs17.mono (F' := fun g => n3 ≤ g ∧ g < n4 ∧ u17.ownBlock ≠ some g) (fun g h1 h2 => ⟨by have := h2.1.1; omega, by have := h2.1.2; omega, h2.2⟩)
  refine Rr (mvS rfl) ?_
  refine Rr (o_llen Tryz.underlying83 rfl) ?_
  refine Rr o_movec ?_
  refine Rg_nil (W_block ?_)
  refine W_for (α := Nat × Value) [(8, 8), (12, 13), (32, 51)] (fun q => [(32, .int .i64 (q.1 : Int)), (8, q.2)]) (fun q w' => (q.1 ≤ (badK X Y).length) ∧ Bel False (fun g => (n3 ≤ g ∧ g < n4) ∨ n6 ≤ g) w46 w' ∧ (Own encCo 8 59 (fun g => (n3 ≤ g ∧ g < n4) ∨ n6 ≤ g) w' q.2 (bothO X Y ++ pickO X Y ((badK X Y).take q.1) (ch.take q.1)) ∧ Sl encCk 6 (fun g => n3 ≤ g ∧ g < n4 ∧ q.2.ownBlock ≠ some g) w' a17 c17 (badK X Y))) (fun q => (badK X Y).length - q.1) (0, u17) ⟨rfl, rfl, trivial⟩ ⟨Nat.zero_le _, Bel.refl _ _, ⟨by simpa [pickO] using hown17, hs17⟩⟩ ?_
  rintro ⟨k, t⟩ fb53 w52 ⟨hk, hXL51, ⟨hown8, hs17⟩⟩
  dsimp only at *
  have z54 := Bel.size hXL51
  replace hX := Bel.out hX hXL51 (fun g h1 h2 => by first | exact h2 | omega)
  replace hch0 := hch0.keep hXL51 (fun g h1 h2 h3 => by omega)
  replace hb6 := hb6.keep hXL51 (fun h => by omega)
  replace hkm29 := hkm29.keep hXL51 (fun g h1 h2 h3 => by omega)
  replace hkm10 := hkm10.keep hXL51 (fun g h1 h2 h3 => by omega)
  refine W_seq (W_region ?_)
  refine Rr (o_lss rfl rfl) ?_
  refine Rg_nil (W_seq ?_)
  refine W_cond rfl (fun hc2 => ?_) (fun hc2 => ?_)
  ·have hk1 : k < (badK X Y).length := by have := of_decide_eq_true hc2; omega
   refine W_skip (W_seq (W_block (W_seq (W_region ?_))))
   refine Rr (mvI rfl) ?_
   have hmem : ((badK X Y).getD k okz) ∈ badK X Y := gm (z := okz) (show k < (badK X Y).length by omega)
   have hkr := keys_kr hX0 _ (List.mem_filter.1 hmem).1
   refine Rr (o_iaR Tryz.underlying83 Tryz.sizeOf57 hs17 rfl rfl (by first | omega | (unfold I64; omega))) ?_
   refine Rr (o_ldRS Tryz.isAgg57 Tryz.sizeOf57 hs17 rfl (getE okz (by omega))) ?_
   refine Rg_newB rfl (o_alloc Tryz.zeroValue57) ?_
   intro b13 w55 x56 hge13 hb13
   replace hown8 := hown8.mono (D' := fun g => (n3 ≤ g ∧ g < n4) ∨ n6 ≤ g ∧ g ≠ b13) (fun g h1 h2 => by omega)
   have hlt13 := hb13.lt
   change Box _ _ _ ([.int _ _, .int _ _, .int _ _, str _, str _, .bool _]) at hb13
   have z57 := x56.size
   replace hX := hX.ex x56
   replace hXL51 := Bel.ex hXL51 x56
   replace hch0 := hch0.ext x56
   replace hkm29 := hkm29.ext x56
   replace hkm10 := hkm10.ext x56
   replace hown8 := hown8.ext x56
   replace hs17 := hs17.ext x56
   refine Rr (asI rfl) ?_
   refine Rg_storeW (v := .agg _) rfl Tryz.sizeOf57 rfl rfl hb13 rfl rfl rfl ?_
   intro w58 c59 hb13
   change Box _ _ _ (encCk _) at hb13
   have z60 := Bel.size c59
   replace hX := Bel.out hX c59 (fun g h1 h2 => by first | exact h2 | omega)
   replace hXL51 := Bel.out hXL51 c59 (fun g h1 h2 => by first | exact h2 | omega)
   replace hch0 := hch0.keep c59 (fun g h1 h2 h3 => by omega)
   replace hkm29 := hkm29.keep c59 (fun g h1 h2 h3 => by omega)
   replace hkm10 := hkm10.keep c59 (fun g h1 h2 h3 => by omega)
   replace hown8 := hown8.keepD c59 (fun g h1 h2 h3 => by omega)
   replace hs17 := hs17.keep c59 (fun g hg h1 h2 => by first | omega | (rcases h2 with h2 | h2 <;> first | exact h1.2.2 h2.1 | omega))
   refine Rg_nil (W_seq (W_region ?_))
   refine Rr (mvS rfl) ?_
   refine Rr (mvI rfl) ?_
   refine Rr (o_iaR Tryz.underlying42 Tryz.sizeOf4 hch0 rfl rfl (by first | omega | (unfold I64; omega))) ?_
   refine Rr (o_ldR Tryz.isAgg4 hch0 rfl rfl (getE false (show k < ch.length by omega)) rfl) ?_
   refine Rg_nil ?_
   refine W_cond rfl (fun hc3 => ?_) (fun hc3 => ?_)
   ·have hch : ch.getD k false = true := hc3
    refine W_region ?_
    obtain ⟨n7, hn7⟩ : ∃ n, n = w58.heap.size := ⟨_, rfl⟩
    replace hown8 := hown8.at (D' := fun g => t.ownBlock = some g ∧ ((n3 ≤ g ∧ g < n4) ∨ n6 ≤ g) ∧ g < n7 ∨ n7 ≤ g) (fun g hg hv => .inl ⟨hv, by have := hown8.loc g hv; omega, by omega⟩)
    refine Rr (o_moveh (v := t) rfl) ?_
    refine Rr (o_moveh (v := .map _) rfl) ?_
    refine Rr (o_loadS Tryz.isAgg57 Tryz.sizeOf57 rfl hb13.at rfl) ?_
    obtain ⟨a44, c44, hlk44, hs44⟩ := hkm10.read mk_law Tryz.underlying86 Tryz.zeroValue25 hkr
    refine Rr (o_klook hlk44 rfl rfl) ?_
    refine Rg_app rfl encCo_ok el_co rfl rfl hown8 hs44 rfl (by have h1 := both_len X Y; have h2 := pick_len (A := X) (B := Y) ((badK X Y).take k) (ch.take k); have h3 := withK_len X ((badK X Y).getD k okz); rw [List.length_take, Nat.min_eq_left (by omega)] at h2; have h4 : k * (X.length + Y.length) ≤ 100 * (X.length + Y.length) := Nat.mul_le_mul_right _ (by omega); rw [List.length_append]; omega) (fun g h => .inr (by omega)) ?_
    intro v45 w61 x62 hown8
    have z63 := x62.size
    replace hX := Bel.out hX x62 (fun g h1 h2 => by first | exact h2 | omega)
    replace hXL51 := Bel.out hXL51 x62 (fun g h1 h2 => by first | exact h2 | omega)
    replace hs17 := hs17.keep x62 (fun g hg h1 h2 => by first | omega | (rcases h2 with h2 | h2 <;> first | exact h1.2.2 h2.1 | omega))
    refine Rr (o_assignh (v := v45) rfl) ?_
    refine Rg_nil (W_region ?_)
    refine Rr (o_add rfl rfl (by first | omega | (unfold I64; omega))) ?_
    refine Rr (mvI rfl) ?_
    refine Rg_nil ?_
    refine ⟨(k + 1, v45), ⟨?_, ?_, trivial⟩, ?_, ⟨?_, hXL51, ?_⟩, ?_⟩
    ·first | rfl | (go_num) | (exact congrArg _ (by omega))
    ·first | rfl | (go_num) | (exact congrArg _ (by omega))
    ·repeat (first | exact oR _ _ | exact oM | refine oP rfl ?_ | refine oN ?_ | refine oL rfl ?_ | refine oX rfl ?_)
    ·show k + 1 ≤ (badK X Y).length; omega
    ·refine ⟨?_, hs17.mono (fun g h1 h2 => ⟨h2.1, h2.2.1, fun h => ?_⟩)⟩
     ·show Own _ _ _ _ _ _ (bothO X Y ++ pickO X Y ((badK X Y).take (k + 1)) (ch.take (k + 1)))
      rw [pickO_succ (z := okz) (by omega) (by omega), ← List.append_assoc, if_pos (by rw [hch])]; exact hown8.mono (fun g h1 h2 => by omega)
     ·rcases hown8.loc g h with q | q
      ·exact h2.2.2 q.1
      ·have := h2.2.1; omega
    ·show (badK X Y).length - (k + 1) < (badK X Y).length - k; omega
   have hch : ch.getD k false = false := hc3
   refine W_region ?_
   obtain ⟨n7, hn7⟩ : ∃ n, n = w58.heap.size := ⟨_, rfl⟩
   replace hown8 := hown8.at (D' := fun g => t.ownBlock = some g ∧ ((n3 ≤ g ∧ g < n4) ∨ n6 ≤ g) ∧ g < n7 ∨ n7 ≤ g) (fun g hg hv => .inl ⟨hv, by have := hown8.loc g hv; omega, by omega⟩)
   refine Rr (o_moveh (v := t) rfl) ?_
   refine Rr (o_moveh (v := .map _) rfl) ?_
   refine Rr (o_loadS Tryz.isAgg57 Tryz.sizeOf57 rfl hb13.at rfl) ?_
   obtain ⟨a49, c49, hlk49, hs49⟩ := hkm29.read mk_law Tryz.underlying86 Tryz.zeroValue25 hkr
   refine Rr (o_klook hlk49 rfl rfl) ?_
   refine Rg_app rfl encCo_ok el_co rfl rfl hown8 hs49 rfl (by have h1 := both_len X Y; have h2 := pick_len (A := X) (B := Y) ((badK X Y).take k) (ch.take k); have h3 := withK_len Y ((badK X Y).getD k okz); rw [List.length_take, Nat.min_eq_left (by omega)] at h2; have h4 : k * (X.length + Y.length) ≤ 100 * (X.length + Y.length) := Nat.mul_le_mul_right _ (by omega); rw [List.length_append]; omega) (fun g h => .inr (by omega)) ?_
   intro v50 w64 x65 hown8
   have z66 := x65.size
   replace hX := Bel.out hX x65 (fun g h1 h2 => by first | exact h2 | omega)
   replace hXL51 := Bel.out hXL51 x65 (fun g h1 h2 => by first | exact h2 | omega)
   replace hs17 := hs17.keep x65 (fun g hg h1 h2 => by first | omega | (rcases h2 with h2 | h2 <;> first | exact h1.2.2 h2.1 | omega))
   refine Rr (o_assignh (v := v50) rfl) ?_
   refine Rg_nil (W_region ?_)
   refine Rr (o_add rfl rfl (by first | omega | (unfold I64; omega))) ?_
   refine Rr (mvI rfl) ?_
   refine Rg_nil ?_
   refine ⟨(k + 1, v50), ⟨?_, ?_, trivial⟩, ?_, ⟨?_, hXL51, ?_⟩, ?_⟩
   ·first | rfl | (go_num) | (exact congrArg _ (by omega))
   ·first | rfl | (go_num) | (exact congrArg _ (by omega))
   ·repeat (first | exact oR _ _ | exact oM | refine oP rfl ?_ | refine oN ?_ | refine oL rfl ?_ | refine oX rfl ?_)
   ·show k + 1 ≤ (badK X Y).length; omega
   ·refine ⟨?_, hs17.mono (fun g h1 h2 => ⟨h2.1, h2.2.1, fun h => ?_⟩)⟩
    ·show Own _ _ _ _ _ _ (bothO X Y ++ pickO X Y ((badK X Y).take (k + 1)) (ch.take (k + 1)))
     rw [pickO_succ (z := okz) (by omega) (by omega), ← List.append_assoc, if_neg (by rw [hch]; simp)]; exact hown8.mono (fun g h1 h2 => by omega)
    ·rcases hown8.loc g h with q | q
     ·exact h2.2.2 q.1
     ·have := h2.2.1; omega
   ·show (badK X Y).length - (k + 1) < (badK X Y).length - k; omega
  have hk1 : ¬ k < (badK X Y).length := by have := of_decide_eq_false hc2; omega
  refine W_exit (exAt_hit (W_seq (W_region ?_)))
  rw [List.take_of_length_le (by omega), List.take_of_length_le (by omega)] at hown8
  refine Rr (o_moveh (v := t) rfl) ?_
  refine Rg_enter rfl (o_call1 Tryz.call23 rfl) (Ok.mono (cof_ok _ _ (bothO X Y ++ pickO X Y (badK X Y) ch) (hown8.trd encCo_ok) (by have h1 := both_len X Y; have h2 := pick_len (A := X) (B := Y) (badK X Y) ch; have h4 : (badK X Y).length * (X.length + Y.length) ≤ 100 * (X.length + Y.length) := Nat.mul_le_mul_right _ (by omega); rw [List.length_append]; omega) (fun x hx => (List.mem_append.1 hx).elim (fun h => (both_vo hX0 hY0 x h).ok) (fun h => (pick_vo hX0 hY0 x h).ok))) ?_)
  rintro _ w67 ⟨⟨a53, c53, rfl, hs53⟩, x68⟩
  have z69 := x68.size
  replace hX := hX.ex x68
  replace hb6 := hb6.ext x68
  refine Rr (o_extract rfl rfl) ?_
  refine Rr (o_extract rfl rfl) ?_
  refine Rg_storeW (v := .agg _) rfl Tryz.sizeOf27 rfl rfl hb6 rfl rfl rfl ?_
  intro w70 c71 hb6
  change Box _ _ _ (wsS _ _ _) at hb6
  have z72 := Bel.size c71
  replace hX := Bel.out hX c71 (fun g h1 h2 => by first | exact h2 | omega)
  replace hs53 := hs53.keep c71 (fun g h1 h2 h3 => by omega)
  refine Rr (asI rfl) ?_
  refine Rg_nil (W_ret ?_)
  refine ⟨_, res_T (vs := [.agg _, .int _ _]) rfl ⟨rv_cellS Tryz.isAgg27 Tryz.sizeOf27 rfl hb6.at rfl, rfl, trivial⟩ (by simp), ?_⟩
  have e0 : resolveO X Y ch = ofO (bothO X Y ++ pickO X Y (badK X Y) ch) := by rw [resolveO, if_neg (by omega)]
  rw [e0]
  exact ⟨⟨a53, c53, rfl, hs53.mono (fun g h1 h2 => ⟨by have := h2.1; omega, by omega⟩)⟩, hX⟩

end Go.Proofs.YtecjjgljkepajaaGreatDoor
