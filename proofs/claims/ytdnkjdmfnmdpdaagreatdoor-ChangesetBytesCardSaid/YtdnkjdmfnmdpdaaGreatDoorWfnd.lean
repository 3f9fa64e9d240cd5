/- Walks: what functions return. -/
import Derived.Test.YtdnkjdmfnmdpdaaGreatDoorWset5
import Derived.Test.YtdnkjdmfnmdpdaaGreatDoorSu
set_option linter.unusedVariables false
set_option linter.unusedSimpArgs false
set_option linter.unnecessarySimpa false
namespace Go.Proofs.YtdnkjdmfnmdpdaaGreatDoor
open Go Go.Lx Go.RowKit Tryz
set_option maxRecDepth 100000
theorem cfind_ok (κ : OKey) (a : Option Addr) (c : Nat) (G : Nat → Prop) (X : List COp) (w : World) (hs : Sl encCo 8 G w a c X) : Ok Tryz.prog 113 #[.agg #[.slice a X.length c], .agg (encCk κ).toArray] w fun v w' => v = .tuple #[.pointer (px a (lastK X κ false)), .pointer (px a (lastK X κ true))] ∧ Ext False w w' := by
 have hlen := hs.len
 replace hs := hs.mono (F' := fun g => G g ∧ g < w.heap.size) (fun g h1 h2 => ⟨h2, h1⟩)
 refine ZQ 33 func113 rfl rfl rfl ?_
 have hX := xRf w
 refine QH (Qc ?_)
 refine Z2 rfl (JB (v := .agg _) rfl) ?_
 intro b2 w1 x2 hge2 hb2
 have hlt2 := hb2.lt
 change Box _ _ _ (wsS _ _ _) at hb2
 have z3 := x2.size
 replace hX := hX.ex x2
 replace hs := hs.ext x2
 refine Z2 rfl (JB (v := .agg _) rfl) ?_
 intro b3 w4 x5 hge3 hb3
 have hlt3 := hb3.lt
 change Box _ _ _ (encCk _) at hb3
 have z6 := x5.size
 replace hX := hX.ex x5
 replace hs := hs.ext x5
 replace hb2 := hb2.ext x5
 refine Rr Zi ?_
 refine Rr Zi ?_
 refine Qg (QH (QH (Qc ?_)))
 refine Rr (ZN underlying63 rfl sizeOf61 rfl) ?_
 refine Rr (ZB isAgg61 rfl (hb2.at.get 0 rfl)) ?_
 refine Rr (Z0 underlying61 rfl) ?_
 refine Rr Jj ?_
 refine Qg (ZM ?_)
 refine Jk (α := Nat) [(4, 7), (11, 30)] (fun k => [(11, .int .i64 (k : Int)), (4, .pointer (px a (lastN X κ false k))), (5, .pointer (px a (lastN X κ true k)))]) (fun k w' => (k ≤ X.length) ∧ Bel False (fun g => w.heap.size ≤ g ∧ g ≠ b2 ∧ g ≠ b3) w4 w') (fun k => X.length - k) 0 ⟨rfl, rfl, rfl, trivial⟩ ⟨Nat.zero_le _, Bel.refl _ _⟩ ?_
 rintro k fb9 w8 ⟨hk, hXL7⟩
 have z10 := Bel.size hXL7
 replace hX := Bel.out hX hXL7 om2
 replace hs := hs.keep hXL7 om3
 replace hb2 := hb2.keep hXL7 om1
 replace hb3 := hb3.keep hXL7 om1
 refine QH (Qc ?_)
 refine Rr (Z5 rfl rfl) ?_
 refine Qg (QH ?_)
 refine ZG rfl (fun hc1 => ?_) (fun hc1 => ?_)
 ·replace hc1 := dcT hc1
  refine ZH (QH (ZM (QH (Qc ?_))))
  refine Rr (mvI rfl) ?_
  refine Rr (Js underlying61 sizeOf50 hs rfl rfl omg) ?_
  refine Rr (Jx isAgg50 sizeOf50 hs rfl (Jw coz (by omega))) ?_
  refine Z2 rfl (JK zeroValue50) ?_
  intro b7 w11 x12 hge7 hb7
  have hlt7 := hb7.lt
  change Box _ _ _ ([.bool _, .int _ _, .int _ _, .int _ _, .int _ _, str _, str _, .bool _]) at hb7
  have z13 := x12.size
  replace hX := hX.ex x12
  replace hXL7 := Bel.ex hXL7 x12
  replace hs := hs.ext x12
  replace hb2 := hb2.ext x12
  replace hb3 := hb3.ext x12
  refine Rr (asI rfl) ?_
  refine Ja (v := .agg _) rfl sizeOf50 rfl rfl hb7 rfl rfl rfl ?_
  intro w14 c15 hb7
  change Box _ _ _ (encCo _) at hb7
  have z16 := Bel.size c15
  replace hX := Bel.out hX c15 om2
  replace hXL7 := Bel.out hXL7 c15 om2
  replace hs := hs.keep c15 om3
  replace hb2 := hb2.keep c15 om1
  replace hb3 := hb3.keep c15 om1
  refine Qg (QH (QH ?_))
  apply J3 (β := False) [peq _, peq _, peq _, peq _] 4 Jz (by kernel_rfl) rfl ⟨Zs _, Zs _, Zs _, Zs _, trivial⟩ ?ob4 ?fin4
  case ob4 =>
   refine ZA (fun w17 x18 => ?_) ?_
   ·have z19 := x18.size
    have hb7 := hb7.ext x18
    refine Zv ?_
    exact ZT rfl (ZO isAgg50 sizeOf50 rfl hb7.at rfl)
   refine ZA (fun w20 x21 => ?_) ?_
   ·have z22 := x21.size
    refine Qi (Zv ?_)
    exact OpS_call rfl (ZK call13 rfl) (ckey_ok (False) (X.getD k coz) _)
   refine ZA (fun w23 x24 => ?_) ?_
   ·have z25 := x24.size
    have hb3 := hb3.ext x24
    refine Zv ?_
    exact ZT rfl (ZO isAgg55 sizeOf55 rfl hb3.at rfl)
   refine ZA (fun w26 x27 => ?_) ?_
   ·have z28 := x27.size
    refine Qi (Qi (Zv ?_))
    exact ZT rfl (o_tneq eq_ck rfl rfl)
   exact JG
  case fin4 =>
   intro w29 x30
   have z31 := x30.size
   replace hX := hX.ex x30
   replace hXL7 := Bel.ex hXL7 x30
   replace hs := hs.ext x30
   replace hb2 := hb2.ext x30
   replace hb7 := hb7.ext x30
   refine Qi (Qi (Qi (Qi (Zv (Qg ?_)))))
   refine ZG rfl (fun hc2 => ?_) (fun hc2 => ?_)
   ·have hkk : ¬ (X.getD k coz).key = κ := bne_iff_ne.1 hc2
    refine Z4 (ZX (Qc ?_))
    refine Rr (Z1 rfl rfl omg) ?_
    refine Rr (mvI rfl) ?_
    refine Qg ?_
    refine ⟨k + 1, ⟨sT, ?_, ?_, trivial⟩, oT, ⟨?_, hXL7⟩, ?_⟩
    ·show _ = Value.pointer (px a (if _ then _ else _))
     rw [if_neg (fun h => hkk h.1)]; rfl
    ·show _ = Value.pointer (px a (if _ then _ else _))
     rw [if_neg (fun h => hkk h.1)]; rfl
    ·omega
    ·omega
   have hkk : (X.getD k coz).key = κ := bne_eq_false_iff_eq.1 hc2
   refine ZH (QH (Qc ?_))
   refine Rr (ZN underlying50 rfl sizeOf4 rfl) ?_
   refine Rr (ZB isAgg4 rfl (hb7.at.get 0 rfl)) ?_
   refine Qg ?_
   refine ZG rfl (fun hc3 => ?_) (fun hc3 => ?_)
   ·have had : (X.getD k coz).add = true := hc3
    refine Qc ?_
    refine Rr (ZN underlying63 rfl sizeOf61 rfl) ?_
    refine Rr (ZB isAgg61 rfl (hb2.at.get 0 rfl)) ?_
    refine Rr (mvI rfl) ?_
    refine Rr (Js underlying61 sizeOf50 hs rfl rfl omg) ?_
    refine Rr (ZD (v := .pointer _) rfl) ?_
    refine Qg (Qc ?_)
    refine Rr (Z1 rfl rfl omg) ?_
    refine Rr (mvI rfl) ?_
    refine Qg ?_
    refine ⟨k + 1, ⟨sT, ?_, ?_, trivial⟩, oT, ⟨?_, hXL7⟩, ?_⟩
    ·show _ = Value.pointer (px a (if _ then _ else _))
     rw [if_neg (fun h => by rw [h.2] at had; cases had)]; rfl
    ·show _ = Value.pointer (px a (if _ then _ else _))
     rw [if_pos ⟨hkk, had⟩]; rfl
    ·omega
    ·omega
   have had : (X.getD k coz).add = false := hc3
   refine Qc ?_
   refine Rr (ZN underlying63 rfl sizeOf61 rfl) ?_
   refine Rr (ZB isAgg61 rfl (hb2.at.get 0 rfl)) ?_
   refine Rr (mvI rfl) ?_
   refine Rr (Js underlying61 sizeOf50 hs rfl rfl omg) ?_
   refine Rr (ZD (v := .pointer _) rfl) ?_
   refine Qg (Qc ?_)
   refine Rr (Z1 rfl rfl omg) ?_
   refine Rr (mvI rfl) ?_
   refine Qg ?_
   refine ⟨k + 1, ⟨sT, ?_, ?_, trivial⟩, oT, ⟨?_, hXL7⟩, ?_⟩
   ·show _ = Value.pointer (px a (if _ then _ else _))
    rw [if_pos ⟨hkk, had⟩]; rfl
   ·show _ = Value.pointer (px a (if _ then _ else _))
    rw [if_neg (fun h => by rw [h.2] at had; cases had)]; rfl
   ·omega
   ·omega
 replace hc1 := dcF hc1
 refine Z4 (ZX (QH (Qc ?_)))
 refine Rr (Zt (v := .pointer _) rfl) ?_
 refine Rr (Zt (v := .pointer _) rfl) ?_
 refine Rr (ZD (v := .pointer _) rfl) ?_
 refine Rr (ZD (v := .pointer _) rfl) ?_
 refine Qg (ZJ ?_)
 refine ⟨_, Je rfl rfl rfl, ?_⟩
 have e : k = X.length := by omega
 subst e
 exact ⟨rfl, hX⟩

theorem cinv_ok (a : Option Addr) (c : Nat) (G : Nat → Prop) (X : List COp) (w : World) (hs : Sl encCo 8 G w a c X) (hv : ∀ x ∈ X, Vo x) (hcf : CF (X.map flipO)) (hn : X.length ≤ 100000) : Ok Tryz.prog 35 #[.agg #[.slice a X.length c]] w fun v w' => (∃ a' c', v = .agg #[.slice a' (invO X).length c'] ∧ Sl encCo 8 (Fsh w w') w' a' c' (invO X)) ∧ Ext False w w' := by
 have hlen := hs.len
 replace hs := hs.mono (F' := fun g => G g ∧ g < w.heap.size) (fun g h1 h2 => ⟨h2, h1⟩)
 refine ZQ 27 func35 rfl rfl rfl ?_
 have hX := xRf w
 refine QH (Qc ?_)
 refine Z2 rfl (JB (v := .agg _) rfl) ?_
 intro b1 w1 x2 hge1 hb1
 have hlt1 := hb1.lt
 change Box _ _ _ (wsS _ _ _) at hb1
 have z3 := x2.size
 replace hX := hX.ex x2
 replace hs := hs.ext x2
 refine Z2 rfl (JK zeroValue63) ?_
 intro b2 w4 x5 hge2 hb2
 have hlt2 := hb2.lt
 change Box _ _ _ ([.slice _ _ _]) at hb2
 have z6 := x5.size
 replace hX := hX.ex x5
 replace hs := hs.ext x5
 replace hb1 := hb1.ext x5
 refine Qg (QH (Qc ?_))
 refine Rr (ZO isAgg63 sizeOf63 rfl hb1.at rfl) ?_
 refine ZC rfl (ZK call59 rfl) (Ok.mono (cops_ok _ _ _ X _ hs hn) ?_)
 rintro v6 w7 ⟨hown6, x8⟩
 have z9 := x8.size
 replace hX := hX.ex x8
 replace hb2 := hb2.ext x8
 refine Rr (ZD (v := v6) rfl) ?_
 refine Qg (QH (QH (Qc ?_)))
 obtain ⟨a6, c6, hv6, -⟩ := hown6.sl encCo_ok
 subst hv6
 obtain ⟨n5, hn5⟩ : ∃ n, n = w7.heap.size := ⟨_, rfl⟩
 replace hown6 := hown6.mono (D' := fun g => b2 < g ∧ g < n5) (fun g h1 h2 => by have := h2.1; omega)
 refine Rr (Zt (v := .slice a6 X.length c6) rfl) ?_
 refine Rr (o_llenO underlying61 rfl hown6) ?_
 refine Rr Jj ?_
 refine Qg (ZM ?_)
 refine Jk (α := Nat) [(4, 4), (9, 22)] (fun k => [(9, .int .i64 (k : Int))]) (fun k w' => (k ≤ X.length) ∧ Bel False (fun g => b2 < g ∧ g < n5) w7 w' ∧ (Own encCo 8 50 (fun g => b2 < g ∧ g < n5) w' (.slice a6 X.length c6) ((X.take k).map flipO ++ X.drop k))) (fun k => X.length - k) 0 ⟨rfl, trivial⟩ ⟨Nat.zero_le _, Bel.refl _ _, (by simpa using hown6)⟩ ?_
 rintro k fb12 w11 ⟨hk, hXL10, hown6⟩
 have z13 := Bel.size hXL10
 replace hX := Bel.out hX hXL10 om2
 replace hb2 := hb2.keep hXL10 om1
 refine QH (Qc ?_)
 refine Rr (Z5 rfl rfl) ?_
 refine Qg (QH ?_)
 refine ZG rfl (fun hc1 => ?_) (fun hc1 => ?_)
 ·replace hc1 := dcT hc1
  refine ZH (QH (ZM (QH (Qc ?_))))
  refine Rr (mvI rfl) ?_
  refine Rr (asI rfl) ?_
  refine Qg (Qc ?_)
  refine Rr (Zt (v := .slice a6 X.length c6) rfl) ?_
  refine Rr (mvI rfl) ?_
  refine Rr (Zt (v := .slice a6 X.length c6) rfl) ?_
  refine Rr (mvI rfl) ?_
  refine Rr (o_iaO (i := k) underlying61 sizeOf50 hown6 rfl rfl (by omega)) ?_
  refine Rr (o_faE underlying50 rfl sizeOf4 (hown6.slA encCo_ok) rfl (inv_get (by omega))) ?_
  refine Rr (o_ldE (j := 0) isAgg4 (hown6.slA encCo_ok) rfl (inv_get (by omega)) rfl) ?_
  refine Rr (Jf rfl) ?_
  refine Rr (o_iaO (i := k) underlying61 sizeOf50 hown6 rfl rfl (by omega)) ?_
  refine Rr (o_faE underlying50 rfl sizeOf4 (hown6.slA encCo_ok) rfl (inv_get (by omega))) ?_
  refine Rg_elstF (i := k) (j := 0) (flipO (X.getD k coz)) (X.getD k coz) rfl encCo_ok sizeOf4 rfl rfl rfl rfl hown6 (inv_get (by omega)) rfl (by decide) ?_
  intro w14 x15 hown6
  have z16 := x15.size
  replace hX := Bel.out hX x15 om2
  replace hXL10 := Bel.out hXL10 x15 om2
  refine Qg (Qc ?_)
  refine Rr (Z1 rfl rfl omg) ?_
  refine Rr (mvI rfl) ?_
  refine Qg ?_
  refine ⟨k + 1, ⟨sT, trivial⟩, oT, ⟨?_, hXL10, ?_⟩, ?_⟩
  ·omega
  ·rw [inv_set (by omega)] at hown6; exact hown6
  ·omega
 replace hc1 := dcF hc1
 refine Z4 (ZX (QH (Qc ?_)))
 have e0 : (X.take k).map flipO ++ X.drop k = X.map flipO := by rw [List.take_of_length_le (by omega), List.drop_of_length_le (by omega), List.append_nil]
 rw [e0] at hown6
 refine Rr (Zt (v := .slice a6 X.length c6) rfl) ?_
 refine ZC rfl (ZW call55 rfl rfl) (Ok.mono (sortco_ok _ _ (X.map flipO) _ hown6 (by rw [List.length_map]; omega) (fun x hx => by obtain ⟨y, hy, rfl⟩ := List.mem_map.1 hx; exact (hv y hy).flip)) ?_)
 rintro _ w17 ⟨rfl, x18, l2, hpm, hpw, hown6⟩
 have z19 := x18.size
 replace hX := Bel.out hX x18 om2
 replace hb2 := hb2.keep x18 om1
 have hl2 := hpm.length_eq
 rw [List.length_map] at hl2
 rw [← hl2] at hown6
 refine Qg (QH (Qc ?_))
 refine Rr (Zt (v := .slice a6 X.length c6) rfl) ?_
 refine Rr (Z7 (cells := wsS a6 X.length c6) (vs := [(0, .slice _ _ _)]) rfl (by kernel_rfl)) ?_
 refine Ja (v := .agg _) rfl sizeOf63 rfl rfl hb2 rfl rfl rfl ?_
 intro w20 c21 hb2
 change Box _ _ _ (wsS _ _ _) at hb2
 have z22 := Bel.size c21
 replace hX := Bel.out hX c21 om2
 replace hown6 := hown6.keepD c21 om3
 refine Qg (ZJ ?_)
 refine ⟨_, res_1 (v := .agg _) rfl (Ju isAgg63 sizeOf63 rfl hb2.at rfl), ?_⟩
 have e1 : invO X = l2 := (sort_unique (fun x hx => by obtain ⟨y, hy, rfl⟩ := List.mem_map.1 hx; exact (hv y hy).flip.wo) hcf hpm hpw).symm
 rw [e1]
 exact ⟨⟨a6, c6, by rw [hl2]; rfl, (hown6.slA encCo_ok).mono (fun g h1 h2 => ⟨by omega, h1⟩)⟩, hX⟩

