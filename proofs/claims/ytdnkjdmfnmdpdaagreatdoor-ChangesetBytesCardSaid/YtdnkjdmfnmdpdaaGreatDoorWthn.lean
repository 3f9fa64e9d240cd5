/- Walks: what functions return. -/
import Derived.Test.YtdnkjdmfnmdpdaaGreatDoorWfnd
import Derived.Test.YtdnkjdmfnmdpdaaGreatDoorSu
set_option linter.unusedVariables false
set_option linter.unusedSimpArgs false
set_option linter.unnecessarySimpa false
namespace Go.Proofs.YtdnkjdmfnmdpdaaGreatDoor
open Go Go.Lx Go.RowKit Tryz
set_option maxRecDepth 100000
set_option maxHeartbeats 4000000 in
theorem cthen_ok (κ : OKey) (a b : Option Addr) (c d : Nat) (G H : Nat → Prop) (X Y : List COp) (w : World) (hs : Sl encCo 8 G w a c X) (ht : Sl encCo 8 H w b d Y) : Ok Tryz.prog 67 #[.agg #[.slice a X.length c], .agg #[.slice b Y.length d], .agg (encCk κ).toArray] w fun v w' => (∃ u, v = .tuple #[u, .bool (thenO (opK X κ false) (opK X κ true) (opK Y κ false) (opK Y κ true)).2] ∧ Own encCo 8 50 (Fsh w w') w' u (thenO (opK X κ false) (opK X κ true) (opK Y κ false) (opK Y κ true)).1) ∧ Ext False w w' := by
 have hlen := hs.len; have hlen2 := ht.len
 replace hs := hs.mono (F' := fun g => g < w.heap.size) (fun g h1 h2 => h1)
 replace ht := ht.mono (F' := fun g => g < w.heap.size) (fun g h1 h2 => h1)
 refine ZQ 125 func67 rfl rfl rfl ?_
 have hX := xRf w
 refine QH (Qc ?_)
 refine Z2 rfl (JB (v := .agg _) rfl) ?_
 intro b3 w1 x2 hge3 hb3
 have hlt3 := hb3.lt
 change Box _ _ _ (wsS _ _ _) at hb3
 have z3 := x2.size
 replace hX := hX.ex x2
 replace hs := hs.ext x2
 replace ht := ht.ext x2
 refine Z2 rfl (JB (v := .agg _) rfl) ?_
 intro b4 w4 x5 hge4 hb4
 have hlt4 := hb4.lt
 change Box _ _ _ (wsS _ _ _) at hb4
 have z6 := x5.size
 replace hX := hX.ex x5
 replace hs := hs.ext x5
 replace ht := ht.ext x5
 replace hb3 := hb3.ext x5
 refine Z2 rfl (JB (v := .agg _) rfl) ?_
 intro b5 w7 x8 hge5 hb5
 have hlt5 := hb5.lt
 change Box _ _ _ (encCk _) at hb5
 have z9 := x8.size
 replace hX := hX.ex x8
 replace hs := hs.ext x8
 replace ht := ht.ext x8
 replace hb3 := hb3.ext x8
 replace hb4 := hb4.ext x8
 refine Rr Zi ?_
 refine Rr Zi ?_
 refine Qg (QH (Qc ?_))
 refine Rr (ZO isAgg63 sizeOf63 rfl hb3.at rfl) ?_
 refine Rr (ZO isAgg55 sizeOf55 rfl hb5.at rfl) ?_
 refine ZC rfl (ZW call113 rfl rfl) (Ok.mono (cfind_ok κ a c _ X _ hs) ?_)
 rintro _ w10 ⟨rfl, x11⟩
 have z12 := x11.size
 replace hX := hX.ex x11
 replace hs := hs.ext x11
 replace ht := ht.ext x11
 replace hb4 := hb4.ext x11
 replace hb5 := hb5.ext x11
 obtain ⟨pr1, hpr1⟩ : ∃ z, z = px a (lastK X κ false) := ⟨_, rfl⟩
 obtain ⟨r1, hr1⟩ : ∃ z, z = opK X κ false := ⟨_, rfl⟩
 have qr1 : PtO (fun g => g < w.heap.size) w10 pr1 r1 := hpr1 ▸ hr1 ▸ hs.ptO κ false
 rw [← hpr1]
 obtain ⟨pa1, hpa1⟩ : ∃ z, z = px a (lastK X κ true) := ⟨_, rfl⟩
 obtain ⟨a1, ha1⟩ : ∃ z, z = opK X κ true := ⟨_, rfl⟩
 have qa1 : PtO (fun g => g < w.heap.size) w10 pa1 a1 := hpa1 ▸ ha1 ▸ hs.ptO κ true
 rw [← hpa1]
 refine Rr (Zt (v := .tuple _) rfl) ?_
 refine Rr (ZS rfl rfl) ?_
 refine Rr (ZS rfl rfl) ?_
 refine Rr (ZD (v := .pointer _) rfl) ?_
 refine Rr (ZD (v := .pointer _) rfl) ?_
 refine Qg (QH (Qc ?_))
 refine Rr (ZO isAgg63 sizeOf63 rfl hb4.at rfl) ?_
 refine Rr (ZO isAgg55 sizeOf55 rfl hb5.at rfl) ?_
 refine ZC rfl (ZW call113 rfl rfl) (Ok.mono (cfind_ok κ b d _ Y _ ht) ?_)
 rintro _ w13 ⟨rfl, x14⟩
 have z15 := x14.size
 replace hX := hX.ex x14
 replace ht := ht.ext x14
 replace qr1 := qr1.ext x14
 replace qa1 := qa1.ext x14
 obtain ⟨pr2, hpr2⟩ : ∃ z, z = px b (lastK Y κ false) := ⟨_, rfl⟩
 obtain ⟨r2, hr2⟩ : ∃ z, z = opK Y κ false := ⟨_, rfl⟩
 have qr2 : PtO (fun g => g < w.heap.size) w13 pr2 r2 := hpr2 ▸ hr2 ▸ ht.ptO κ false
 rw [← hpr2]
 obtain ⟨pa2, hpa2⟩ : ∃ z, z = px b (lastK Y κ true) := ⟨_, rfl⟩
 obtain ⟨a2, ha2⟩ : ∃ z, z = opK Y κ true := ⟨_, rfl⟩
 have qa2 : PtO (fun g => g < w.heap.size) w13 pa2 a2 := hpa2 ▸ ha2 ▸ ht.ptO κ true
 rw [← hpa2]
 rw [← hr1, ← ha1, ← hr2, ← ha2]
 refine Rr (Zt (v := .tuple _) rfl) ?_
 refine Rr (ZS rfl rfl) ?_
 refine Rr (ZS rfl rfl) ?_
 refine Rr (ZD (v := .pointer _) rfl) ?_
 refine Rr (ZD (v := .pointer _) rfl) ?_
 refine Qg (QH (Qc ?_))
 refine Rr (Zt (v := .pointer _) rfl) ?_
 refine Rr (Zt (v := .pointer _) rfl) ?_
 refine Rr (Zt (v := .pointer _) rfl) ?_
 refine Rr (o_pneP underlying188 qr1 rfl rfl) ?_
 refine Rr (mvB rfl) ?_
 refine ZI 4 36 rfl rfl rfl (fun hg => (Zt (v := .pointer _) rfl)) ?_
 refine ZI 4 36 rfl rfl rfl (fun hg => (o_pneP underlying188 qa1 (ZU (u := undef) hg) rfl)) ?_
 refine Rr (JP (u := undef) rfl rfl) ?_
 refine Rr (ZD (v := .pointer _) rfl) ?_
 refine Rr (ZD (v := .pointer _) rfl) ?_
 refine Rr (asB rfl) ?_
 refine Qg ?_
 refine W_join (α := Option Addr × Option COp × Option Addr × Option COp) [(12, 13), (40, 43)] (fun q => [(12, .pointer q.1), (13, .pointer q.2.2.1)]) (fun q w' => ((q.2.1 = if (r1.isSome || a1.isSome) = true then r1 else r2) ∧ (q.2.2.2 = if (r1.isSome || a1.isSome) = true then a1 else r2)) ∧ Bel False (fun g => w.heap.size ≤ g) w13 w' ∧ (PtO (fun g => g < w.heap.size) w' q.1 q.2.1 ∧ PtO (fun g => g < w.heap.size) w' q.2.2.1 q.2.2.2)) ?_ ?_
 ·have hXJ16 : Bel False (fun g => w.heap.size ≤ g) w13 w13 := Bel.refl _ _
  refine QH (Qc ?_)
  refine Rr (mvB rfl) ?_
  refine Rr (Jf rfl) ?_
  refine Qg ?_
  refine ZG rfl (fun hc1 => ?_) (fun hc1 => ?_)
  ·have hkn : (r1.isSome || a1.isSome) = false := Eq.mp (Bool.not_eq_true' _) hc1
   refine Qc ?_
   refine Rr (Zt (v := .pointer _) rfl) ?_
   refine Rr (Zt (v := .pointer _) rfl) ?_
   refine Rr (ZD (v := .pointer _) rfl) ?_
   refine Rr (ZD (v := .pointer _) rfl) ?_
   refine Qg ?_
   refine ⟨(pr2, r2, pr2, r2), ⟨sT, sT, trivial⟩, oT, ⟨?_, hXJ16, ?_⟩⟩
   ·rw [hkn]; exact ⟨rfl, rfl⟩
   ·exact ⟨qr2, qr2⟩
  have hkn : (r1.isSome || a1.isSome) = true := Eq.mp (Bool.not_eq_false' _) hc1
  refine ZH ?_
  refine ⟨(pr1, r1, pa1, a1), ⟨sT, sT, trivial⟩, oT, ⟨?_, hXJ16, ?_⟩⟩
  ·rw [hkn]; exact ⟨rfl, rfl⟩
  ·exact ⟨qr1, qa1⟩
 rintro ⟨pb, ob, pm, om⟩ fb18 w17 ⟨⟨hob, hom⟩, hXJ19, ⟨qb, qm⟩⟩
 dsimp only at *
 have z20 := Bel.size hXJ19
 replace hX := Bel.out hX hXJ19 om2
 replace qr2 := qr2.keep hXJ19 om3
 replace qa2 := qa2.keep hXJ19 om3
 refine QH (QH ?_)
 apply J3 (β := False) [peq _, peq _, peq _, peq _, peq _, peq _, peq _, peq _, peq _, peq _, peq _, peq _, peq _, peq _, peq _, peq _, peq _, peq _, peq _, peq _, peq _, peq _, peq _, peq _, peq _, peq _, peq _, peq _, peq _, peq _, peq _, peq _, peq _, peq _, peq _] 35 Jz (by kernel_rfl) rfl ⟨Zs _, Zs _, Zs _, Zs _, Zs _, Zs _, Zs _, Zs _, Zs _, Zs _, Zs _, Zs _, Zs _, Zs _, Zs _, Zs _, Zs _, Zs _, Zs _, Zs _, Zs _, Zs _, Zs _, Zs _, Zs _, Zs _, Zs _, Zs _, Zs _, Zs _, Zs _, Zs _, Zs _, Zs _, Zs _, trivial⟩ ?ob6 ?fin6
 case ob6 =>
  refine ZA (fun w21 x22 => ?_) ?_
  ·have z23 := x22.size
   refine Zv ?_
   exact ZT rfl (mvB rfl)
  refine ZA (fun w24 x25 => ?_) ?_
  ·have z26 := x25.size
   refine Qi (Zv ?_)
   exact ZT rfl (mvB rfl)
  refine ZA (fun w27 x28 => ?_) ?_
  ·have z29 := x28.size
   refine Qi (Zv ?_)
   exact Z9 1 45 rfl rfl (fun hg => (Zt (v := .pointer _) rfl))
  refine ZA (fun w30 x31 => ?_) ?_
  ·have z32 := x31.size
   have qr2 := qr2.ext x31
   refine Qi (Qi (Zv ?_))
   exact Z9 1 45 rfl rfl (fun hg => (o_pneP underlying188 qr2 (ZU (u := undef) hg) rfl))
  refine ZA (fun w33 x34 => ?_) ?_
  ·have z35 := x34.size
   refine Qi (Qi (Zv ?_))
   exact ZT rfl (Jq (u := undef) rfl rfl)
  refine ZA (fun w36 x37 => ?_) ?_
  ·have z38 := x37.size
   refine Qi (Qi (Zv ?_))
   exact ZT rfl (mvB rfl)
  refine ZA (fun w39 x40 => ?_) ?_
  ·have z41 := x40.size
   refine Qi (Zv ?_)
   exact Z9 5 49 rfl rfl (fun hg => (Zt (v := .pointer _) rfl))
  refine ZA (fun w42 x43 => ?_) ?_
  ·have z44 := x43.size
   have qm := qm.ext x43
   refine Qi (Qi (Zv ?_))
   exact Z9 5 49 rfl rfl (fun hg => (o_peqP underlying188 qm (ZU (u := undef) hg) rfl))
  refine ZA (fun w45 x46 => ?_) ?_
  ·have z47 := x46.size
   refine Qi (Qi (Qi (Zv ?_)))
   exact Z9 5 49 rfl rfl (fun hg => (Zt (v := .bool _) (ZU (u := undef) hg)))
  refine ZA (fun w48 x49 => ?_) ?_
  ·have z50 := x49.size
   refine Qi (Zv ?_)
   exact Jg 8 52 rfl rfl (fun hg => (Zt (v := .pointer _) rfl))
  refine ZA (fun w51 x52 => ?_) ?_
  ·have z53 := x52.size
   have qm := qm.ext x52
   refine Qi (Qi (Zv ?_))
   exact Jg 8 52 rfl rfl (fun hg => (o_nilcP qm (nnO (andR hg)) (ZU (u := undef) hg)))
  refine ZA (fun w54 x55 => ?_) ?_
  ·have z56 := x55.size
   have qm := qm.ext x55
   refine Qi (Qi (Zv ?_))
   exact Jg 8 52 rfl rfl (fun hg => (o_faP underlying50 rfl sizeOf3 qm (nnO (andR hg)) (ZU (u := undef) hg)))
  refine ZA (fun w57 x58 => ?_) ?_
  ·have z59 := x58.size
   have qm := qm.ext x58
   refine Qi (Qi (Zv ?_))
   exact Jg 8 52 rfl rfl (fun hg => (o_ldP isAgg3 qm (nnO (andR hg)) (ZU (u := undef) hg)))
  refine ZA (fun w60 x61 => ?_) ?_
  ·have z62 := x61.size
   refine Qi (Zv ?_)
   exact Jg 8 52 rfl rfl (fun hg => (Zt (v := .pointer _) rfl))
  refine ZA (fun w63 x64 => ?_) ?_
  ·have z65 := x64.size
   have qr2 := qr2.ext x64
   refine Qi (Qi (Zv ?_))
   exact Jg 8 52 rfl rfl (fun hg => (o_nilcP qr2 (ssR (andL hg)) (ZU (u := undef) hg)))
  refine ZA (fun w66 x67 => ?_) ?_
  ·have z68 := x67.size
   have qr2 := qr2.ext x67
   refine Qi (Qi (Zv ?_))
   exact Jg 8 52 rfl rfl (fun hg => (o_faP underlying50 rfl sizeOf3 qr2 (ssR (andL hg)) (ZU (u := undef) hg)))
  refine ZA (fun w69 x70 => ?_) ?_
  ·have z71 := x70.size
   have qr2 := qr2.ext x70
   refine Qi (Qi (Zv ?_))
   exact Jg 8 52 rfl rfl (fun hg => (o_ldP isAgg3 qr2 (ssR (andL hg)) (ZU (u := undef) hg)))
  refine ZA (fun w72 x73 => ?_) ?_
  ·have z74 := x73.size
   refine Qi (Qi (Qi (Zv ?_)))
   exact Jg 8 52 rfl rfl (fun hg => (JD (ZU (u := undef) hg) (ZU (u := undef) hg)))
  refine ZA (fun w75 x76 => ?_) ?_
  ·have z77 := x76.size
   refine Qi (Qi (Qi (Zv ?_)))
   exact Z9 5 49 rfl rfl (fun hg => (JP (u := undef) (ZU (u := undef) hg) (gand (u := undef) hg)))
  refine ZA (fun w78 x79 => ?_) ?_
  ·have z80 := x79.size
   refine Qi (Qi (Zv ?_))
   exact ZT rfl (Jq (u := undef) rfl rfl)
  refine ZA (fun w81 x82 => ?_) ?_
  ·have z83 := x82.size
   refine Qi (Qi (Zv ?_))
   exact ZT rfl (mvB rfl)
  refine ZA (fun w84 x85 => ?_) ?_
  ·have z86 := x85.size
   refine Qi (Zv ?_)
   exact Z9 20 64 rfl rfl (fun hg => (mvB rfl))
  refine ZA (fun w87 x88 => ?_) ?_
  ·have z89 := x88.size
   refine Qi (Qi (Qi (Zv ?_)))
   exact Z9 20 64 rfl rfl (fun hg => (Zt (v := .bool _) (ZU (u := undef) hg)))
  refine ZA (fun w90 x91 => ?_) ?_
  ·have z92 := x91.size
   refine Qi (Zv ?_)
   exact Jg 22 66 rfl rfl (fun hg => (Zt (v := .pointer _) rfl))
  refine ZA (fun w93 x94 => ?_) ?_
  ·have z95 := x94.size
   have qr2 := qr2.ext x94
   refine Qi (Qi (Zv ?_))
   exact Jg 22 66 rfl rfl (fun hg => (o_peqP underlying188 qr2 (ZU (u := undef) hg) rfl))
  refine ZA (fun w96 x97 => ?_) ?_
  ·have z98 := x97.size
   refine Qi (Qi (Qi (Zv ?_)))
   exact Z9 20 64 rfl rfl (fun hg => (Jq (u := undef) (ZU (u := undef) hg) (gand (u := undef) hg)))
  refine ZA (fun w99 x100 => ?_) ?_
  ·have z101 := x100.size
   refine Qi (Qi (Qi (Zv ?_)))
   exact Z9 20 64 rfl rfl (fun hg => (Zt (v := .bool _) (ZU (u := undef) hg)))
  refine ZA (fun w102 x103 => ?_) ?_
  ·have z104 := x103.size
   refine Qi (Zv ?_)
   exact Jg 26 70 rfl rfl (fun hg => (Zt (v := .pointer _) rfl))
  refine ZA (fun w105 x106 => ?_) ?_
  ·have z107 := x106.size
   have qa2 := qa2.ext x106
   refine Qi (Qi (Zv ?_))
   exact Jg 26 70 rfl rfl (fun hg => (o_pneP underlying188 qa2 (ZU (u := undef) hg) rfl))
  refine ZA (fun w108 x109 => ?_) ?_
  ·have z110 := x109.size
   refine Qi (Qi (Qi (Zv ?_)))
   exact Z9 20 64 rfl rfl (fun hg => (Jq (u := undef) (ZU (u := undef) hg) (gand (u := undef) hg)))
  refine ZA (fun w111 x112 => ?_) ?_
  ·have z113 := x112.size
   refine Qi (Qi (Qi (Zv ?_)))
   exact Z9 20 64 rfl rfl (fun hg => (Zt (v := .bool _) (ZU (u := undef) hg)))
  refine ZA (fun w114 x115 => ?_) ?_
  ·have z116 := x115.size
   refine Qi (Zv ?_)
   exact Jg 30 74 rfl rfl (fun hg => (Zt (v := .pointer _) rfl))
  refine ZA (fun w117 x118 => ?_) ?_
  ·have z119 := x118.size
   have qm := qm.ext x118
   refine Qi (Qi (Zv ?_))
   exact Jg 30 74 rfl rfl (fun hg => (o_pneP underlying188 qm (ZU (u := undef) hg) rfl))
  refine ZA (fun w120 x121 => ?_) ?_
  ·have z122 := x121.size
   refine Qi (Qi (Qi (Zv ?_)))
   exact Z9 20 64 rfl rfl (fun hg => (Jq (u := undef) (ZU (u := undef) hg) (gand (u := undef) hg)))
  refine ZA (fun w123 x124 => ?_) ?_
  ·have z125 := x124.size
   refine Qi (Qi (Zv ?_))
   exact ZT rfl (JP (u := undef) rfl rfl)
  exact JG
 case fin6 =>
  intro w126 x127
  have z128 := x127.size
  replace hX := hX.ex x127
  replace qr2 := qr2.ext x127
  replace qa2 := qa2.ext x127
  replace qb := qb.ext x127
  replace qm := qm.ext x127
  refine Qi (Qi (Qi (Qi (Qi (Qi (Qi (Qi (Qi ?_))))))))
  refine Qi (Qi (Qi (Qi (Qi (Qi (Qi (Qi (Qi ?_))))))))
  refine Qi (Qi (Qi (Qi (Qi (Qi (Qi (Qi (Qi ?_))))))))
  refine Qi (Qi (Qi (Qi (Qi (Qi (Qi (Qi (Zv ?_))))))))
  refine Qg ?_
  refine ZG rfl (fun hc2 => ?_) (fun hc2 => ?_)
  ·have hf : failO r1 a1 r2 a2 om = true := hc2
   refine QH (Qc ?_)
   refine Rr Zi ?_
   refine Rr Zi ?_
   refine Qg (ZJ ?_)
   refine ⟨_, Je rfl rfl rfl, ?_⟩
   rw [thenO_fail hom hf]
   exact ⟨⟨_, rfl, Own.nil _ _⟩, hX⟩
  have hf : failO r1 a1 r2 a2 om = false := hc2
  refine ZH (QH (Qc ?_))
  refine Rr (Zt (v := .pointer _) rfl) ?_
  refine Rr (ZD (v := .pointer _) rfl) ?_
  refine Qg ?_
  refine W_join (α := Option Addr × Option COp) [(15, 15), (80, 86)] (fun q => [(15, .pointer q.1)]) (fun q w' => (q.2 = if (r2.isSome || a2.isSome) = true then a2 else om) ∧ Bel False (fun g => w.heap.size ≤ g) w126 w' ∧ (PtO (fun g => g < w.heap.size) w' q.1 q.2)) ?_ ?_
  ·have hXJ129 : Bel False (fun g => w.heap.size ≤ g) w126 w126 := Bel.refl _ _
   refine QH (Qc ?_)
   refine Rr (Zt (v := .pointer _) rfl) ?_
   refine Rr (o_pneP underlying188 qr2 rfl rfl) ?_
   refine Rr (mvB rfl) ?_
   refine ZI 2 82 rfl rfl rfl (fun hg => (Zt (v := .pointer _) rfl)) ?_
   refine ZI 2 82 rfl rfl rfl (fun hg => (o_pneP underlying188 qa2 (ZU (u := undef) hg) rfl)) ?_
   refine Rr (JP (u := undef) rfl rfl) ?_
   refine Qg ?_
   refine ZG rfl (fun hc3 => ?_) (fun hc3 => ?_)
   ·have hdn : (r2.isSome || a2.isSome) = true := hc3
    refine Qc ?_
    refine Rr (Zt (v := .pointer _) rfl) ?_
    refine Rr (ZD (v := .pointer _) rfl) ?_
    refine Qg ?_
    refine ⟨(pa2, a2), ⟨sT, trivial⟩, oT, ⟨?_, hXJ129, ?_⟩⟩
    ·rw [hdn]; rfl
    ·exact qa2
   have hdn : (r2.isSome || a2.isSome) = false := hc3
   refine ZH ?_
   refine ⟨(pm, om), ⟨sT, trivial⟩, oT, ⟨?_, hXJ129, ?_⟩⟩
   ·rw [hdn]; rfl
   ·exact qm
  rintro ⟨pa, oa⟩ fb131 w130 ⟨hoa, hXJ132, qa⟩
  dsimp only at *
  have z133 := Bel.size hXJ132
  replace hX := Bel.out hX hXJ132 om2
  replace qb := qb.keep hXJ132 om3
  refine QH (QH ?_)
  apply J3 (β := False) [peq _, peq _, peq _, peq _, peq _, peq _, peq _, peq _, peq _, peq _, peq _, peq _, peq _, peq _, peq _, peq _, peq _] 17 Jz (by kernel_rfl) rfl ⟨Zs _, Zs _, Zs _, Zs _, Zs _, Zs _, Zs _, Zs _, Zs _, Zs _, Zs _, Zs _, Zs _, Zs _, Zs _, Zs _, Zs _, trivial⟩ ?ob11 ?fin11
  case ob11 =>
   refine ZA (fun w134 x135 => ?_) ?_
   ·have z136 := x135.size
    refine Zv ?_
    exact ZT rfl (Zt (v := .pointer _) rfl)
   refine ZA (fun w137 x138 => ?_) ?_
   ·have z139 := x138.size
    have qb := qb.ext x138
    refine Qi (Zv ?_)
    exact ZT rfl (o_pneP underlying188 qb rfl rfl)
   refine ZA (fun w140 x141 => ?_) ?_
   ·have z142 := x141.size
    refine Qi (Zv ?_)
    exact ZT rfl (mvB rfl)
   refine ZA (fun w143 x144 => ?_) ?_
   ·have z145 := x144.size
    refine Qi (Zv ?_)
    exact Z9 2 89 rfl rfl (fun hg => (Zt (v := .pointer _) rfl))
   refine ZA (fun w146 x147 => ?_) ?_
   ·have z148 := x147.size
    have qa := qa.ext x147
    refine Qi (Qi (Zv ?_))
    exact Z9 2 89 rfl rfl (fun hg => (o_pneP underlying188 qa (ZU (u := undef) hg) rfl))
   refine ZA (fun w149 x150 => ?_) ?_
   ·have z151 := x150.size
    refine Qi (Qi (Zv ?_))
    exact ZT rfl (Jq (u := undef) rfl rfl)
   refine ZA (fun w152 x153 => ?_) ?_
   ·have z154 := x153.size
    refine Qi (Qi (Zv ?_))
    exact ZT rfl (mvB rfl)
   refine ZA (fun w155 x156 => ?_) ?_
   ·have z157 := x156.size
    refine Qi (Zv ?_)
    exact Z9 6 93 rfl rfl (fun hg => (Zt (v := .pointer _) rfl))
   refine ZA (fun w158 x159 => ?_) ?_
   ·have z160 := x159.size
    have qb := qb.ext x159
    refine Qi (Qi (Zv ?_))
    exact Z9 6 93 rfl rfl (fun hg => (o_nilcP qb (ssL hg) (ZU (u := undef) hg)))
   refine ZA (fun w161 x162 => ?_) ?_
   ·have z163 := x162.size
    have qb := qb.ext x162
    refine Qi (Qi (Zv ?_))
    exact Z9 6 93 rfl rfl (fun hg => (o_faP underlying50 rfl sizeOf3 qb (ssL hg) (ZU (u := undef) hg)))
   refine ZA (fun w164 x165 => ?_) ?_
   ·have z166 := x165.size
    have qb := qb.ext x165
    refine Qi (Qi (Zv ?_))
    exact Z9 6 93 rfl rfl (fun hg => (o_ldP isAgg3 qb (ssL hg) (ZU (u := undef) hg)))
   refine ZA (fun w167 x168 => ?_) ?_
   ·have z169 := x168.size
    refine Qi (Zv ?_)
    exact Z9 6 93 rfl rfl (fun hg => (Zt (v := .pointer _) rfl))
   refine ZA (fun w170 x171 => ?_) ?_
   ·have z172 := x171.size
    have qa := qa.ext x171
    refine Qi (Qi (Zv ?_))
    exact Z9 6 93 rfl rfl (fun hg => (o_nilcP qa (ssR hg) (ZU (u := undef) hg)))
   refine ZA (fun w173 x174 => ?_) ?_
   ·have z175 := x174.size
    have qa := qa.ext x174
    refine Qi (Qi (Zv ?_))
    exact Z9 6 93 rfl rfl (fun hg => (o_faP underlying50 rfl sizeOf3 qa (ssR hg) (ZU (u := undef) hg)))
   refine ZA (fun w176 x177 => ?_) ?_
   ·have z178 := x177.size
    have qa := qa.ext x177
    refine Qi (Qi (Zv ?_))
    exact Z9 6 93 rfl rfl (fun hg => (o_ldP isAgg3 qa (ssR hg) (ZU (u := undef) hg)))
   refine ZA (fun w179 x180 => ?_) ?_
   ·have z181 := x180.size
    refine Qi (Qi (Qi (Zv ?_)))
    exact Z9 6 93 rfl rfl (fun hg => (ZZ (ZU (u := undef) hg) (ZU (u := undef) hg)))
   refine ZA (fun w182 x183 => ?_) ?_
   ·have z184 := x183.size
    refine Qi (Qi (Zv ?_))
    exact ZT rfl (Jq (u := undef) rfl rfl)
   exact JG
  case fin11 =>
   intro w185 x186
   have z187 := x186.size
   replace hX := hX.ex x186
   replace qb := qb.ext x186
   replace qa := qa.ext x186
   refine Qi (Qi (Qi (Qi (Qi (Qi (Qi (Qi (Qi ?_))))))))
   refine Qi (Qi (Qi (Qi (Qi (Qi (Qi (Qi (Zv ?_))))))))
   refine Qg ?_
   refine ZG rfl (fun hc4 => ?_) (fun hc4 => ?_)
   ·have hsm : sameO ob oa = true := hc4
    refine QH (Qc ?_)
    refine Rr Zi ?_
    refine Rr Zi ?_
    refine Qg (ZJ ?_)
    refine ⟨_, Je rfl rfl rfl, ?_⟩
    rw [thenO_same hob hom hoa hf hsm]
    exact ⟨⟨_, rfl, Own.nil _ _⟩, hX⟩
   have hsm : sameO ob oa = false := hc4
   refine ZH (QH (Qc ?_))
   refine Rr Zi ?_
   refine Qg (QH (QH (Qc ?_)))
   refine Rr (Zt (v := .pointer _) rfl) ?_
   refine Rr (Zt (v := .pointer _) rfl) ?_
   refine Rr (Z7 (cells := [.pointer pb, .pointer pa]) (vs := [(0, .pointer _), (1, .pointer _)]) rfl (by kernel_rfl)) ?_
   refine Rr Jj ?_
   refine Qg (ZM ?_)
   refine Jk (α := Nat × Value) [(16, 19), (107, 123)] (fun q => [(107, .int .i64 (q.1 : Int)), (16, q.2)]) (fun q w' => (q.1 ≤ 2) ∧ Bel False (fun g => w.heap.size ≤ g) w185 w' ∧ (Own encCo 8 50 (fun g => w.heap.size ≤ g) w' q.2 (takeT (offO ob) (onO oa) q.1))) (fun q => 2 - q.1) (0, .slice none 0 0) ⟨rfl, rfl, trivial⟩ ⟨Nat.zero_le _, Bel.refl _ _, Own.nil _ _⟩ ?_
   rintro ⟨k, t⟩ fb190 w189 ⟨hk, hXL188, hown16⟩
   dsimp only at *
   have z191 := Bel.size hXL188
   replace hX := Bel.out hX hXL188 om2
   replace qb := qb.keep hXL188 om3
   replace qa := qa.keep hXL188 om3
   refine QH (Qc ?_)
   refine Rr (Z5 rfl rfl) ?_
   refine Qg (QH ?_)
   refine ZG rfl (fun hc5 => ?_) (fun hc5 => ?_)
   ·have hk2 : k < 2 := by have := dcT hc5; omega
    refine ZH (QH (ZM (QH (Qc ?_))))
    refine (Decidable.em (k = 0)).elim (fun hk0 => ?_) (fun hk0 => ?_)
    ·subst hk0
     refine Rr (mvI rfl) ?_
     refine Rr (o_idx20 underlying191 isAgg188 sizeOf188 rfl rfl) ?_
     refine Rr (asI rfl) ?_
     refine Rr (ZD (v := .pointer _) rfl) ?_
     refine Qg (QH (Qc ?_))
     refine Rr (Zt (v := .pointer _) rfl) ?_
     refine Rr (o_pneP underlying188 qb rfl rfl) ?_
     refine Qg ?_
     refine ZG rfl (fun hc6 => ?_) (fun hc6 => ?_)
     ·have hso : ob.isSome = true := hc6
      refine QH (Qc ?_)
      obtain ⟨g0, o0, x, hp0, hx0, hF0, hat⟩ := qb.get hso
      subst hp0 hx0
      refine Rr (Zt (v := .pointer _) rfl) ?_
      refine Rr (JI rfl) ?_
      refine Rr (ZO isAgg50 sizeOf50 rfl hat rfl) ?_
      refine Z8 rfl rfl zeroValue50 rfl sizeOf50 (fun _ => rfl) rfl rfl ?_
      intro b19 w192 x193 hge19 hb19
      replace hown16 := hown16.mono (D' := fun g => w.heap.size ≤ g ∧ g ≠ b19) (fun g h1 h2 => by omega)
      have hlt19 := hb19.lt
      change Box _ _ _ (encCo _) at hb19
      have z194 := x193.size
      replace hX := hX.ex x193
      replace hXL188 := Bel.ex hXL188 x193
      replace hown16 := hown16.ext x193
      refine Qg (QH (Qc ?_))
      refine Rr (mvI rfl) ?_
      refine Rr (ZZ rfl rfl) ?_
      refine Rr (ZN underlying50 rfl sizeOf4 rfl) ?_
      refine Jb (v := .bool _) rfl sizeOf4 rfl rfl hb19 rfl rfl rfl ?_
      intro w195 c196 hb19
      change Box _ _ _ ([.bool _, .int _ _, .int _ _, .int _ _, .int _ _, str _, str _, .bool _]) at hb19
      have z197 := Bel.size c196
      replace hX := Bel.out hX c196 om2
      replace hXL188 := Bel.out hXL188 c196 om2
      replace hown16 := hown16.keepD c196 om3
      refine Qg (Qc ?_)
      refine Rr (Zt (v := t) rfl) ?_
      change Box _ _ _ (encCo { x with add := false }) at hb19
      refine Rr (ZO isAgg50 sizeOf50 rfl hb19.at rfl) ?_
      refine Jh (vs := [.agg _]) ([{ x with add := false }]) rfl encCo_ok el_co rfl rfl ⟨rfl, trivial⟩ rfl rfl rfl rfl ?_
      intro a121 w198 x199 hown121
      have z200 := x199.size
      replace hX := hX.ex x199
      replace hXL188 := Bel.ex hXL188 x199
      replace hown16 := hown16.ext x199
      replace hown121 := hown121.mono (D' := fun g => w.heap.size ≤ g) (fun g h1 h2 => by omega)
      refine Jd rfl encCo_ok el_co rfl rfl hown16 (hown121.slA encCo_ok) rfl (show (_ + 1) * _ ≤ _ from by have := takeT_len (some x) oa 0; omega) omU ?_
      intro v122 w201 x202 hown16
      have z203 := x202.size
      replace hX := Bel.out hX x202 om2
      replace hXL188 := Bel.out hXL188 x202 om2
      refine Rr (ZD (v := v122) rfl) ?_
      refine Qg (Qc ?_)
      refine Rr (Z1 rfl rfl omg) ?_
      refine Rr (mvI rfl) ?_
      refine Qg ?_
      refine ⟨(0 + 1, v122), ⟨sT, sT, trivial⟩, oT, ⟨?_, hXL188, ?_⟩, ?_⟩
      ·show 0 + 1 ≤ 2; omega
      ·exact hown16.mono (fun g h1 h2 => by omega)
      ·show 2 - (0 + 1) < 2 - 0; omega
     have hso := noO hc6
     subst hso
     refine ZH (Qc ?_)
     refine Rr (Z1 rfl rfl omg) ?_
     refine Rr (mvI rfl) ?_
     refine Qg ?_
     refine ⟨(0 + 1, t), ⟨sT, sT, trivial⟩, oT, ⟨?_, hXL188, ?_⟩, ?_⟩
     ·show 0 + 1 ≤ 2; omega
     ·exact hown16.mono (fun g h1 h2 => by omega)
     ·show 2 - (0 + 1) < 2 - 0; omega
    have hk1 : k = 1 := by omega
    subst hk1
    refine Rr (mvI rfl) ?_
    refine Rr (o_idx21 underlying191 isAgg188 sizeOf188 rfl rfl) ?_
    refine Rr (asI rfl) ?_
    refine Rr (ZD (v := .pointer _) rfl) ?_
    refine Qg (QH (Qc ?_))
    refine Rr (Zt (v := .pointer _) rfl) ?_
    refine Rr (o_pneP underlying188 qa rfl rfl) ?_
    refine Qg ?_
    refine ZG rfl (fun hc7 => ?_) (fun hc7 => ?_)
    ·have hso : oa.isSome = true := hc7
     refine QH (Qc ?_)
     obtain ⟨g0, o0, x, hp0, hx0, hF0, hat⟩ := qa.get hso
     subst hp0 hx0
     refine Rr (Zt (v := .pointer _) rfl) ?_
     refine Rr (JI rfl) ?_
     refine Rr (ZO isAgg50 sizeOf50 rfl hat rfl) ?_
     refine Z8 rfl rfl zeroValue50 rfl sizeOf50 (fun _ => rfl) rfl rfl ?_
     intro b19 w204 x205 hge19 hb19
     replace hown16 := hown16.mono (D' := fun g => w.heap.size ≤ g ∧ g ≠ b19) (fun g h1 h2 => by omega)
     have hlt19 := hb19.lt
     change Box _ _ _ (encCo _) at hb19
     have z206 := x205.size
     replace hX := hX.ex x205
     replace hXL188 := Bel.ex hXL188 x205
     replace hown16 := hown16.ext x205
     refine Qg (QH (Qc ?_))
     refine Rr (mvI rfl) ?_
     refine Rr (ZZ rfl rfl) ?_
     refine Rr (ZN underlying50 rfl sizeOf4 rfl) ?_
     refine Jb (v := .bool _) rfl sizeOf4 rfl rfl hb19 rfl rfl rfl ?_
     intro w207 c208 hb19
     change Box _ _ _ ([.bool _, .int _ _, .int _ _, .int _ _, .int _ _, str _, str _, .bool _]) at hb19
     have z209 := Bel.size c208
     replace hX := Bel.out hX c208 om2
     replace hXL188 := Bel.out hXL188 c208 om2
     replace hown16 := hown16.keepD c208 om3
     refine Qg (Qc ?_)
     refine Rr (Zt (v := t) rfl) ?_
     change Box _ _ _ (encCo { x with add := true }) at hb19
     refine Rr (ZO isAgg50 sizeOf50 rfl hb19.at rfl) ?_
     refine Jh (vs := [.agg _]) ([{ x with add := true }]) rfl encCo_ok el_co rfl rfl ⟨rfl, trivial⟩ rfl rfl rfl rfl ?_
     intro a121 w210 x211 hown121
     have z212 := x211.size
     replace hX := hX.ex x211
     replace hXL188 := Bel.ex hXL188 x211
     replace hown16 := hown16.ext x211
     replace hown121 := hown121.mono (D' := fun g => w.heap.size ≤ g) (fun g h1 h2 => by omega)
     refine Jd rfl encCo_ok el_co rfl rfl hown16 (hown121.slA encCo_ok) rfl (show (_ + 1) * _ ≤ _ from by have := takeT_len ob (some x) 1; omega) omU ?_
     intro v122 w213 x214 hown16
     have z215 := x214.size
     replace hX := Bel.out hX x214 om2
     replace hXL188 := Bel.out hXL188 x214 om2
     refine Rr (ZD (v := v122) rfl) ?_
     refine Qg (Qc ?_)
     refine Rr (Z1 rfl rfl omg) ?_
     refine Rr (mvI rfl) ?_
     refine Qg ?_
     refine ⟨(1 + 1, v122), ⟨sT, sT, trivial⟩, oT, ⟨?_, hXL188, ?_⟩, ?_⟩
     ·show 1 + 1 ≤ 2; omega
     ·exact hown16.mono (fun g h1 h2 => by omega)
     ·show 2 - (1 + 1) < 2 - 1; omega
    have hso := noO hc7
    subst hso
    refine ZH (Qc ?_)
    refine Rr (Z1 rfl rfl omg) ?_
    refine Rr (mvI rfl) ?_
    refine Qg ?_
    refine ⟨(1 + 1, t), ⟨sT, sT, trivial⟩, oT, ⟨?_, hXL188, ?_⟩, ?_⟩
    ·show 1 + 1 ≤ 2; omega
    ·show Own _ _ _ _ _ _ (offO ob ++ [])
     rw [List.append_nil]
     exact hown16.mono (fun g h1 h2 => by omega)
    ·show 2 - (1 + 1) < 2 - 1; omega
   have hk2 : ¬ k < 2 := by have := dcF hc5; omega
   refine Z4 (ZX (QH (Qc ?_)))
   refine Rr (Zt (v := t) rfl) ?_
   refine Rr (ZD (v := t) rfl) ?_
   refine Rr Zi ?_
   refine Qg (ZJ ?_)
   refine ⟨_, Je rfl rfl rfl, ?_⟩
   rw [thenO_two hob hom hoa hf hsm]
   have e2 : k = 2 := by omega
   subst e2
   exact ⟨⟨t, rfl, hown16.mono (fun g h1 h2 => by omega)⟩, hX⟩

