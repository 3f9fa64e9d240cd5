/- Walks: what functions return. -/
import Derived.Test.YtdnkjdmfnmdpdaaGreatDoorWthm
import Derived.Test.YtdnkjdmfnmdpdaaGreatDoorWtx5
import Derived.Test.YtdnkjdmfnmdpdaaGreatDoorWfnd
set_option linter.unusedVariables false
set_option linter.unusedSimpArgs false
set_option linter.unnecessarySimpa false
namespace Go.Proofs.YtdnkjdmfnmdpdaaGreatDoor
open Go Go.Lx Go.RowKit Tryz
set_option maxRecDepth 100000
theorem cofF_ok (v : Value) (w : World) (hl : Rd encCo 8 (Lt w.heap.size) w v [awO true 1 9, awO false 1 5]) : Ok Tryz.prog 16 #[v] w fun v w' => (∃ a' c', v = .tuple #[.agg #[.slice a' (fA : List COp).length c'], .int .i64 0] ∧ Sl encCo 8 (Fsh w w') w' a' c' fA) ∧ Ext False w w' := by
 have h := cof_ok w v _ hl (by decide) (fun x hx => by simp only [List.mem_cons, List.not_mem_nil, or_false] at hx; rcases hx with rfl | rfl <;> exact ⟨by decide, by decide⟩)
 rw [f_of] at h
 exact h
theorem cofFD_ok (v : Value) (w : World) (hl : Rd encCo 8 (Lt w.heap.size) w v fD) : Ok Tryz.prog 16 #[v] w fun v w' => (∃ a' c', v = .tuple #[.agg #[.slice a' (fD : List COp).length c'], .int .i64 0] ∧ Sl encCo 8 (Fsh w w') w' a' c' fD) ∧ Ext False w w' :=
 (cof_ok w v fD hl (by decide) (fun x hx => (fD_vs.v x hx).ok)).mono fun v w' h => by rw [fD_vs.of] at h; exact h
theorem ctxtF_ok (a : Option Addr) (c : Nat) (G : Nat → Prop) (w : World) (hs : Sl encCo 8 G w a c fA) : Ok Tryz.prog 33 #[.agg #[.slice a fA.length c]] w fun v w' => v = str fT ∧ Ext False w w' := by
 have h := ctext_ok a c G fA w hs (fun x hx => (fA_vs.v x hx).ok) (by decide) (by decide)
 rw [f_txt] at h
 exact h
theorem ctxtX_ok (a : Option Addr) (c : Nat) (G : Nat → Prop) (w : World) (hs : Sl encCo 8 G w a c fX) : Ok Tryz.prog 33 #[.agg #[.slice a fX.length c]] w fun v w' => v = str fT1 ∧ Ext False w w' := by
 have h := ctext_ok a c G fX w hs (fun x hx => by simp only [fX, List.mem_cons, List.not_mem_nil, or_false] at hx; rcases hx with rfl; exact ⟨by decide, by decide⟩) (by decide) (by decide)
 rw [f_txt1] at h
 exact h
theorem cthF_ok (a b : Option Addr) (c d : Nat) (G H : Nat → Prop) (w : World) (hs : Sl encCo 8 G w a c fA) (ht : Sl encCo 8 H w b d fD) : Ok Tryz.prog 26 #[.agg #[.slice a fA.length c], .agg #[.slice b fD.length d]] w fun v w' => (∃ a' c', v = .tuple #[.agg #[.slice a' (fX : List COp).length c'], .int .i64 0] ∧ Sl encCo 8 (Fsh w w') w' a' c' fX) ∧ Ext False w w' := by
 have h := cthens_ok a b c d G H fA fD w hs ht fA_vs fD_vs (by decide) (by decide)
 rw [f_then] at h
 exact h
theorem cthI_ok (a b : Option Addr) (c d : Nat) (G H : Nat → Prop) (w : World) (hs : Sl encCo 8 G w a c fA) (ht : Sl encCo 8 H w b d fI) : Ok Tryz.prog 26 #[.agg #[.slice a fA.length c], .agg #[.slice b fI.length d]] w fun v w' => (∃ a' c', v = .tuple #[.agg #[.slice a' ([] : List COp).length c'], .int .i64 0] ∧ Sl encCo 8 (Fsh w w') w' a' c' []) ∧ Ext False w w' := by
 have h := cthens_ok a b c d G H fA fI w hs ht fA_vs fI_vs (by decide) (by decide)
 rw [f_thenI] at h
 exact h
theorem cinvF_ok (a : Option Addr) (c : Nat) (G : Nat → Prop) (w : World) (hs : Sl encCo 8 G w a c fA) : Ok Tryz.prog 35 #[.agg #[.slice a fA.length c]] w fun v w' => (∃ a' c', v = .agg #[.slice a' fI.length c'] ∧ Sl encCo 8 (Fsh w w') w' a' c' fI) ∧ Ext False w w' := by
 have h := cinv_ok a c G fA w hs fA_vs.v f_cf (by decide)
 rw [f_inv] at h
 exact h
set_option maxHeartbeats 4000000 in
theorem awake50_ok (w : World) : Ok Tryz.prog 7 #[] w fun v w' => v = .bool true ∧ Ext False w w' := by
 refine ZQ 74 func7 rfl rfl rfl ?_
 have hX := xRf w
 refine QH (Qc ?_)
 refine Rr Zi ?_
 refine Qg (QH (Qc ?_))
 refine Rr (Z7 (cells := encCo (awO false 1 5)) (vs := [(1, .int _ _), (2, .int _ _), (3, .int _ _), (4, .int _ _)]) rfl (by kernel_rfl)) ?_
 refine Z8 rfl rfl zeroValue50 rfl sizeOf50 (fun _ => rfl) rfl rfl ?_
 intro b1 w1 x2 hge1 hb1
 have hlt1 := hb1.lt
 change Box _ _ _ (encCo _) at hb1
 have z3 := x2.size
 replace hX := hX.ex x2
 refine Qg (QH (Qc ?_))
 refine Rr (Z7 (cells := encCo (awO true 1 9)) (vs := [(0, .bool _), (1, .int _ _), (2, .int _ _), (3, .int _ _), (4, .int _ _)]) rfl (by kernel_rfl)) ?_
 refine Z8 rfl rfl zeroValue50 rfl sizeOf50 (fun _ => rfl) rfl rfl ?_
 intro b2 w4 x5 hge2 hb2
 have hlt2 := hb2.lt
 change Box _ _ _ (encCo _) at hb2
 have z6 := x5.size
 replace hX := hX.ex x5
 replace hb1 := hb1.ext x5
 refine Qg (QH (Qc ?_))
 refine Rr (ZO isAgg50 sizeOf50 rfl hb2.at rfl) ?_
 refine Rr (ZO isAgg50 sizeOf50 rfl hb1.at rfl) ?_
 refine Jh (vs := [.agg _, .agg _]) (([awO true 1 9, awO false 1 5] : List COp)) rfl encCo_ok el_co rfl rfl ⟨rfl, ⟨rfl, trivial⟩⟩ rfl rfl rfl rfl ?_
 intro a17 w7 x8 hown17
 have z9 := x8.size
 replace hX := hX.ex x8
 replace hb2 := hb2.ext x8
 replace hown17 := hown17.mono (D' := fun g => w.heap.size ≤ g) (fun g h1 h2 => by omega)
 refine ZC rfl (ZK call16 rfl) (Ok.mono (cofF_ok _ _ (hown17.trd encCo_ok)) ?_)
 rintro _ w10 ⟨⟨a18, c18, rfl, hs18⟩, x11⟩
 have z12 := x11.size
 replace hX := hX.ex x11
 replace hb2 := hb2.ext x11
 refine Rr (Zt (v := .tuple _) rfl) ?_
 refine Rr (ZS rfl rfl) ?_
 refine Rr (ZS rfl rfl) ?_
 refine Z8 rfl rfl zeroValue63 rfl sizeOf63 (fun _ => rfl) rfl rfl ?_
 intro b3 w13 x14 hge3 hb3
 have hlt3 := hb3.lt
 change Box _ _ _ (wsS _ _ _) at hb3
 have z15 := x14.size
 replace hX := hX.ex x14
 replace hb2 := hb2.ext x14
 replace hs18 := hs18.ext x14
 refine Rr (asI rfl) ?_
 refine Qg (QH (Qc ?_))
 refine Rr (ZO isAgg50 sizeOf50 rfl hb2.at rfl) ?_
 refine Z8 rfl rfl zeroValue50 rfl sizeOf50 (fun _ => rfl) rfl rfl ?_
 intro b5 w16 x17 hge5 hb5
 have hlt5 := hb5.lt
 change Box _ _ _ (encCo _) at hb5
 have z18 := x17.size
 replace hX := hX.ex x17
 replace hs18 := hs18.ext x17
 replace hb3 := hb3.ext x17
 refine Qg (QH (Qc ?_))
 refine Rr (ZN underlying50 rfl sizeOf4 rfl) ?_
 refine Jb (v := .bool _) rfl sizeOf4 rfl rfl hb5 rfl rfl rfl ?_
 intro w19 c20 hb5
 change Box _ _ _ ([.bool _, .int _ _, .int _ _, .int _ _, .int _ _, str _, str _, .bool _]) at hb5
 have z21 := Bel.size c20
 replace hX := Bel.out hX c20 om2
 replace hs18 := hs18.keep c20 om3
 replace hb3 := hb3.keep c20 om1
 refine Qg (QH (Qc ?_))
 change Box _ _ _ (encCo (awO false 1 9)) at hb5
 refine Rr (ZO isAgg50 sizeOf50 rfl hb5.at rfl) ?_
 refine Jh (vs := [.agg _]) ((fD : List COp)) rfl encCo_ok el_co rfl rfl ⟨rfl, trivial⟩ rfl rfl rfl rfl ?_
 intro a25 w22 x23 hown25
 have z24 := x23.size
 replace hX := hX.ex x23
 replace hs18 := hs18.ext x23
 replace hb3 := hb3.ext x23
 replace hown25 := hown25.mono (D' := fun g => w.heap.size ≤ g) (fun g h1 h2 => by omega)
 refine ZC rfl (ZK call16 rfl) (Ok.mono (cofFD_ok _ _ (hown25.trd encCo_ok)) ?_)
 rintro _ w25 ⟨⟨a26, c26, rfl, hs26⟩, x26⟩
 have z27 := x26.size
 replace hX := hX.ex x26
 replace hs18 := hs18.ext x26
 replace hb3 := hb3.ext x26
 refine Rr (Zt (v := .tuple _) rfl) ?_
 refine Rr (ZS rfl rfl) ?_
 refine Rr (ZS rfl rfl) ?_
 refine Z8 rfl rfl zeroValue63 rfl sizeOf63 (fun _ => rfl) rfl rfl ?_
 intro b6 w28 x29 hge6 hb6
 have hlt6 := hb6.lt
 change Box _ _ _ (wsS _ _ _) at hb6
 have z30 := x29.size
 replace hX := hX.ex x29
 replace hs18 := hs18.ext x29
 replace hb3 := hb3.ext x29
 replace hs26 := hs26.ext x29
 refine Rr (asI rfl) ?_
 refine Qg (QH (QH (Qc ?_)))
 refine Rr (mvI rfl) ?_
 refine Rr (JD rfl rfl) ?_
 refine Rr (mvB rfl) ?_
 refine ZP 2 31 rfl (cvB (by decide)) ?_
 refine Rr (mvI rfl) ?_
 refine ZP 2 31 rfl (cvB (by decide)) ?_
 refine Rr (JD rfl rfl) ?_
 refine Rr (Jo (v := .bool _) (cvB (by decide)) rfl) ?_
 refine Rr (mvB rfl) ?_
 refine ZP 6 35 rfl (cvB (by decide)) ?_
 refine Rr (ZO isAgg63 sizeOf63 rfl hb3.at rfl) ?_
 refine ZP 6 35 rfl (cvB (by decide)) ?_
 refine ZC rfl (ZK call33 rfl) (Ok.mono (ctxtF_ok a18 c18 _ _ hs18) ?_)
 rintro _ w31 ⟨rfl, x32⟩
 have z33 := x32.size
 replace hX := hX.ex x32
 replace hs18 := hs18.ext x32
 replace hb3 := hb3.ext x32
 replace hs26 := hs26.ext x32
 replace hb6 := hb6.ext x32
 refine ZP 6 35 rfl (cvB (by decide)) ?_
 refine Rr (o_sneq rfl rfl) ?_
 refine Rr (Jo (v := .bool _) (cvB (by decide)) rfl) ?_
 refine Rr (mvB rfl) ?_
 refine ZP 11 40 rfl (cvB (by decide)) ?_
 refine Rr (ZO isAgg63 sizeOf63 rfl hb3.at rfl) ?_
 refine ZP 11 40 rfl (cvB (by decide)) ?_
 refine ZC rfl (ZK call22 rfl) (Ok.mono (ckeys_ok a18 c18 _ fA _ hs18 (by decide)) ?_)
 rintro v42 w34 ⟨hown42, x35⟩
 have z36 := x35.size
 replace hX := hX.ex x35
 replace hs18 := hs18.ext x35
 replace hb3 := hb3.ext x35
 replace hs26 := hs26.ext x35
 replace hb6 := hb6.ext x35
 replace hown42 := hown42.mono (D' := fun g => w.heap.size ≤ g) (fun g h1 h2 => by omega)
 refine ZP 11 40 rfl (cvB (by decide)) ?_
 refine Rr (o_llenO underlying70 rfl hown42) ?_
 refine ZP 11 40 rfl (cvB (by decide)) ?_
 refine Rr (JD rfl rfl) ?_
 refine Rr (Jo (v := .bool _) (cvB (by decide)) rfl) ?_
 refine Qg ?_
 refine ZY (cvB (by rw [f_keys]; rfl)) ?_
 refine ZH (QH (Qc ?_))
 refine Rr (ZO isAgg63 sizeOf63 rfl hb3.at rfl) ?_
 refine Rr (ZO isAgg63 sizeOf63 rfl hb6.at rfl) ?_
 refine ZC rfl (ZW call26 rfl rfl) (Ok.mono (cthF_ok a18 a26 c18 c26 _ _ _ hs18 hs26) ?_)
 rintro _ w37 ⟨⟨a49, c49, rfl, hs49⟩, x38⟩
 have z39 := x38.size
 replace hX := hX.ex x38
 replace hs18 := hs18.ext x38
 replace hb3 := hb3.ext x38
 refine Rr (Zt (v := .tuple _) rfl) ?_
 refine Rr (ZS rfl rfl) ?_
 refine Rr (ZS rfl rfl) ?_
 refine Z8 rfl rfl zeroValue63 rfl sizeOf63 (fun _ => rfl) rfl rfl ?_
 intro b8 w40 x41 hge8 hb8
 have hlt8 := hb8.lt
 change Box _ _ _ (wsS _ _ _) at hb8
 have z42 := x41.size
 replace hX := hX.ex x41
 replace hs18 := hs18.ext x41
 replace hb3 := hb3.ext x41
 replace hs49 := hs49.ext x41
 refine Rr (asI rfl) ?_
 refine Qg (QH ?_)
 obtain ⟨n4, hn4⟩ : ∃ n, n = w40.heap.size := ⟨_, rfl⟩
 apply JA (β := False) (fun _ => 0) [peqC _, peqC _, (postW (SetIs n4 fI)), (postW (TSetIs n4 [] 0)), (postW (TSetIs n4 [] 0)), (postW (SetIs n4 [])), (postP (fun v => v = .int .i64 0)), (postBoxK w40 63 [.slice none 0 0] 1), (postBoxS w40 63 (fun u => [u]) (ListIs encCo 8 n4 (fun M => M = [])) 1)] [0, 0, 0, 0, 0, 0, 0, 1, 1] 9 Jz (by kernel_rfl) (by kernel_rfl) rfl ⟨Q4 _ _, Q4 _ _, (Jl (SetIs.keepS _ _)), (Jl (TSetIs.keepS _ _ _)), (Jl (TSetIs.keepS _ _ _)), (Jl (SetIs.keepS _ _)), (J2), (postBoxK_stable), (postBoxS_stable (ListIs.keepS _ _ _ _)), trivial⟩ ?ob10 ?fin10
 case ob10 =>
  refine Zb (fun w43 c45 x44 hc046 hk47 => ?_) ?_
  ·replace x44 := RelG.ext0 x44
   have z48 := x44.size
   have hb3 := hb3.ext x44
   refine QU ?_
   exact ZL rfl (ZO isAgg63 sizeOf63 rfl hb3.at rfl)
  refine Zb (fun w49 c51 x50 hc052 hk53 => ?_) ?_
  ·replace x50 := RelG.ext0 x50
   have z54 := x50.size
   have hb3 := hb3.ext x50
   refine QU ?_
   exact ZL rfl (ZO isAgg63 sizeOf63 rfl hb3.at rfl)
  refine Zb (fun w55 c57 x56 hc058 hk59 => ?_) ?_
  ·replace x56 := RelG.ext0 x56
   have z60 := x56.size
   have hs18 := hs18.ext x56
   refine Qk (QU ?_)
   exact OpC_W (S := SetIs n4 fI) rfl (ZK call35 rfl) ((cinvF_ok a18 c18 _ _ hs18).mono (fun v w2 ⟨⟨a, c, h1, h2⟩, x⟩ => ⟨⟨fun g hg => by have := hg.1; omega, a, c, h1, h2⟩, x⟩))
  refine Zb (fun w61 c63 x62 hc064 hk65 => ?_) ?_
  ·replace x62 := RelG.ext0 x62
   have z66 := x62.size
   have hs18 := hs18.ext x62
   refine Qk ?_
   refine ZE (fun v55 hv55 => ?_)
   obtain ⟨F55, hF55, hn55, a55, c55, rfl, hs55⟩ := hv55
   refine ZE (fun v55 hv55 => ?_)
   obtain ⟨F55, hF55, hn55, a55, c55, rfl, hs55⟩ := hv55
   refine QU ?_
   exact OpC_W (S := TSetIs n4 [] 0) rfl (ZW call26 rfl rfl) ((cthI_ok a18 a55 c18 c55 _ _ _ hs18 hs55).mono (fun v w2 ⟨⟨a, c, h1, h2⟩, x⟩ => ⟨⟨fun g hg => by have := hg.1; omega, a, c, h1, h2⟩, x⟩))
  refine Zb (fun w67 c69 x68 hc070 hk71 => ?_) ?_
  ·replace x68 := RelG.ext0 x68
   have z72 := x68.size
   refine ZE (fun v56 hv56 => ?_)
   obtain ⟨F56, hF56, hn56, a56, c56, rfl, hs56⟩ := hv56
   refine QU ?_
   exact OpC_vp rfl (Zt rfl) ⟨F56, hF56, hn56, a56, c56, rfl, hs56⟩
  refine Zb (fun w73 c75 x74 hc076 hk77 => ?_) ?_
  ·replace x74 := RelG.ext0 x74
   have z78 := x74.size
   refine ZE (fun v52 hv52 => ?_)
   obtain ⟨F52, hF52, hn52, a52, c52, rfl, hs52⟩ := hv52
   refine QU ?_
   exact OpC_vp rfl (ZS rfl rfl) ⟨F52, hF52, hn52, a52, c52, rfl, hs52⟩
  refine Zb (fun w79 c81 x80 hc082 hk83 => ?_) ?_
  ·replace x80 := RelG.ext0 x80
   have z84 := x80.size
   refine ZE (fun v52 hv52 => ?_)
   obtain ⟨F52, hF52, hn52, a52, c52, rfl, hs52⟩ := hv52
   refine QU ?_
   exact OpC_vp rfl (ZS rfl rfl) rfl
  refine Zb (fun w85 c87 x86 hc088 hk89 => ?_) ?_
  ·replace x86 := RelG.ext0 x86
   have z90 := x86.size
   refine QU ?_
   exact OpC_boxK (kc := 1) (Bel.size x86) rfl (JK zeroValue63)
  refine Zb (fun w91 c93 x92 hc094 hk95 => ?_) ?_
  ·replace x92 := RelG.ext0 x92
   have z96 := x92.size
   refine ZE (fun v10 hv10 => ?_)
   obtain ⟨b10, rfl, hge10, hb10, hcb10⟩ := hv10
   refine ZE (fun v57 hv57 => ?_)
   obtain ⟨F57, hF57, hn57, a57, c57, rfl, hs57⟩ := hv57
   refine ZE (fun v56 hv56 => ?_)
   obtain ⟨F56, hF56, hn56, a56, c56, rfl, hs56⟩ := hv56
   refine Qk (Qk ?_)
   refine ZE (fun v55 hv55 => ?_)
   obtain ⟨F55, hF55, hn55, a55, c55, rfl, hs55⟩ := hv55
   refine ZE (fun v56 hv56 => ?_)
   obtain ⟨F56, hF56, hn56, a56, c56, rfl, hs56⟩ := hv56
   refine ZE (fun v52 hv52 => ?_)
   obtain ⟨F52, hF52, hn52, a52, c52, rfl, hs52⟩ := hv52
   refine ZE (fun v57 hv57 => ?_)
   obtain ⟨F57, hF57, hn57, a57, c57, rfl, hs57⟩ := hv57
   refine ZE (fun v10 hv10 => ?_)
   obtain ⟨b10, rfl, hge10, hb10, hcb10⟩ := hv10
   refine QU ?_
   exact postBoxS_of (f := fun u => [u]) (u := .slice a57 ([] : List COp).length c57) (ListIs.keepS _ _ _ _) (OpC_storeLk (v := .agg _) (by decide) sizeOf63 rfl rfl hge10 hb10 hcb10 rfl rfl rfl) rfl hF57 ⟨hn57, [], ⟨a57, c57, rfl, hs57⟩, rfl⟩
  exact Jv
 case fin10 =>
  intro w97 c99 x98 hc0100
  replace x98 := RelG.ext0 x98
  have z101 := x98.size
  replace hX := hX.ex x98
  replace hs49 := hs49.ext x98
  replace hb8 := hb8.ext x98
  refine Qk (Qk ?_)
  refine ZE (fun v55 hv55 => ?_)
  obtain ⟨F55, hF55, hn55, a55, c55, rfl, hs55⟩ := hv55
  refine ZE (fun v56 hv56 => ?_)
  obtain ⟨F56, hF56, hn56, a56, c56, rfl, hs56⟩ := hv56
  refine ZE (fun v52 hv52 => ?_)
  obtain ⟨F52, hF52, hn52, a52, c52, rfl, hs52⟩ := hv52
  refine ZE (fun v57 hv57 => ?_)
  obtain ⟨F57, hF57, hn57, a57, c57, rfl, hs57⟩ := hv57
  refine ZE (fun v58 hv58 => ?_)
  have he58 : v58 = _ := hv58
  subst he58
  refine ZE (fun v10 _ => ?_)
  refine bindC_lk (v := v10) rfl (fun hst8 => ?_)
  refine QU ?_
  obtain ⟨b10, rfl, hge10, hcb10, u10, hb10, F10, hF10, hn10, M10, ⟨a10, c10, rfl, hs10⟩, rfl⟩ := hst8
  change Box _ _ _ (wsS a10 ([] : List COp).length c10) at hb10
  replace hs10 := hs10.mono (F' := fun g => n4 ≤ g) (fun g _ h => hn10 g h)
  have hlt10 := hb10.lt
  refine Rr (asI rfl) ?_
  refine Qg (QH (Qc ?_))
  refine Rr (mvI rfl) ?_
  refine Rr (ZZ rfl rfl) ?_
  refine Rr (mvB rfl) ?_
  refine ZP 2 61 rfl (cvB (by decide)) ?_
  refine Rr (mvI rfl) ?_
  refine ZP 2 61 rfl (cvB (by decide)) ?_
  refine Rr (ZZ rfl rfl) ?_
  refine Rr (Jt (v := .bool _) (cvB (by decide)) rfl) ?_
  refine Rr (mvB rfl) ?_
  refine ZP 6 65 rfl (cvB (by decide)) ?_
  refine Rr (ZO isAgg63 sizeOf63 rfl hb8.at rfl) ?_
  refine ZP 6 65 rfl (cvB (by decide)) ?_
  refine ZC rfl (ZK call33 rfl) (Ok.mono (ctxtX_ok a49 c49 _ _ hs49) ?_)
  rintro _ w102 ⟨rfl, x103⟩
  have z104 := x103.size
  replace hX := hX.ex x103
  replace hb10 := hb10.ext x103
  replace hs10 := hs10.ext x103
  refine ZP 6 65 rfl (cvB (by decide)) ?_
  refine Rr (o_seql rfl rfl) ?_
  refine Rr (Jt (v := .bool _) (cvB (by decide)) rfl) ?_
  refine Rr (mvB rfl) ?_
  refine ZP 11 70 rfl (cvB (by decide)) ?_
  refine Rr (ZO isAgg63 sizeOf63 rfl hb10.at rfl) ?_
  refine ZP 11 70 rfl (cvB (by decide)) ?_
  refine ZC rfl (ZK call20 rfl) (Ok.mono (cempty_ok a10 c10 _ [] _ hs10) ?_)
  rintro _ w105 ⟨rfl, x106⟩
  have z107 := x106.size
  replace hX := hX.ex x106
  refine Rr (Jt (v := .bool _) (cvB (by decide)) rfl) ?_
  refine Rr (asB rfl) ?_
  refine Qg (ZJ ?_)
  refine ⟨_, ZF rfl rfl, ?_⟩
  refine ⟨cvB ?_, hX⟩
  all_goals (rfl)

