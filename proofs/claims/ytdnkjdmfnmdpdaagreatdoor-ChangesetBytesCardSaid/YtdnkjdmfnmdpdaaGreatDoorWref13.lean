/- Walks: what functions return. -/
import Derived.Test.YtdnkjdmfnmdpdaaGreatDoorWref11d
import Derived.Test.YtdnkjdmfnmdpdaaGreatDoorWref10
import Derived.Test.YtdnkjdmfnmdpdaaGreatDoorGr
import Derived.Test.YtdnkjdmfnmdpdaaGreatDoorOwn3
set_option linter.unusedVariables false
set_option linter.unusedSimpArgs false
set_option linter.unnecessarySimpa false
namespace Go.Proofs.YtdnkjdmfnmdpdaaGreatDoor
open Go Go.Lx Go.RowKit Tryz
set_option maxRecDepth 100000
theorem r13find_ok (a : Option Addr) (c : Nat) (G : Nat → Prop) (l : List Ent) (x : Ent) (w : World) (hs : Sl encE 4 G w a c l) : Ok Tryz.prog 95 #[.slice a l.length c, .agg (encE x).toArray] w fun v w' => v = .int .i64 (ixOf (fun y => y == x) l) ∧ Ext False w w' := by
 have hlen := hs.len
 replace hs := hs.mono (F' := fun g => g < w.heap.size) (fun g h1 h2 => h1)
 refine ZQ 19 func95 rfl rfl rfl ?_
 have hX := xRf w
 refine QH (Qc ?_)
 refine Z2 rfl (JB (v := .agg _) rfl) ?_
 intro b3 w1 x2 hge3 hb3
 have hlt3 := hb3.lt
 change Box _ _ _ (encE _) at hb3
 have z3 := x2.size
 replace hX := hX.ex x2
 replace hs := hs.ext x2
 refine Rr Zi ?_
 refine Qg (QH (QH (Qc ?_)))
 refine Rr (mvS rfl) ?_
 refine Rr (Z0 underlying33 rfl) ?_
 refine Rr Jj ?_
 refine Qg (ZM ?_)
 refine Jk (α := Nat) [(4, 6), (9, 18)] (fun k => [(9, .int .i64 (k : Int))]) (fun k w' => (k ≤ l.length ∧ (l.take k).any (fun y => y == x) = false) ∧ Ext False w1 w') (fun k => l.length - k) 0 ⟨rfl, trivial⟩ ⟨⟨by omega, by simp⟩, Bel.refl _ _⟩ ?_
 rintro k fb6 w5 ⟨⟨hk, hall⟩, hXL4⟩
 have z7 := Bel.size hXL4
 replace hX := hX.ex hXL4
 replace hs := hs.ext hXL4
 replace hb3 := hb3.ext hXL4
 refine QH (Qc ?_)
 refine Rr (Z5 rfl rfl) ?_
 refine Qg (QH ?_)
 refine ZG rfl (fun hc1 => ?_) (fun hc1 => ?_)
 ·replace hc1 := dcT hc1
  refine ZH (QH (ZM (QH (Qc ?_))))
  refine Rr (mvI rfl) ?_
  refine Rr (Js underlying33 sizeOf114 hs rfl rfl omg) ?_
  refine Rr (Jx isAgg114 sizeOf114 hs rfl (Jw ez (by omega))) ?_
  refine Z2 rfl (JK zeroValue114) ?_
  intro b6 w8 x9 hge6 hb6
  have hlt6 := hb6.lt
  change Box _ _ _ ([.int _ _, str _, str _, .bool _]) at hb6
  have z10 := x9.size
  replace hX := hX.ex x9
  replace hXL4 := Bel.ex hXL4 x9
  replace hb3 := hb3.ext x9
  refine Rr (asI rfl) ?_
  refine Ja (v := .agg _) rfl sizeOf114 rfl rfl hb6 rfl rfl rfl ?_
  intro w11 c12 hb6
  change Box _ _ _ (encE _) at hb6
  have z13 := Bel.size c12
  replace hX := Bel.out hX c12 om2
  replace hXL4 := Bel.out hXL4 c12 om2
  replace hb3 := hb3.keep c12 om1
  refine Qg (QH (Qc ?_))
  refine Rr (ZO isAgg114 sizeOf114 rfl hb6.at rfl) ?_
  refine Rr (ZO isAgg114 sizeOf114 rfl hb3.at rfl) ?_
  refine Rr (o_teql eq_rent rfl rfl) ?_
  refine Qg ?_
  refine ZG rfl (fun hc2 => ?_) (fun hc2 => ?_)
  ·refine QH (Qc ?_)
   refine Rr (mvI rfl) ?_
   refine Rr (asI rfl) ?_
   refine Qg (ZJ ?_)
   refine ⟨_, ZF rfl rfl, ?_⟩
   refine ⟨congrArg (Value.int .i64) ?_, hX⟩
   all_goals (exact (ixOf_at (by omega) hall (by simpa [List.getD, show k < l.length by omega] using hc2)).symm)
  refine ZH (Qc ?_)
  refine Rr (Z1 rfl rfl omg) ?_
  refine Rr (mvI rfl) ?_
  refine Qg ?_
  refine ⟨k + 1, ⟨sT, trivial⟩, oT, ⟨?_, hXL4⟩, ?_⟩
  ·exact ⟨by omega, anyT_succ (by omega) hall (by simpa [List.getD, show k < l.length by omega] using hc2)⟩
  ·omega
 replace hc1 := dcF hc1
 refine Z4 (ZX (QH (Qc ?_)))
 refine Rr Zi ?_
 refine Qg (ZJ ?_)
 refine ⟨_, ZF rfl rfl, ?_⟩
 refine ⟨congrArg (Value.int .i64) ?_, hX⟩
 all_goals (exact (ixOf_none (k := k) (by omega) hall).symm)

theorem r13less_ok (a b : Ent) (ha : a.p.ok) (hb : b.p.ok) (w : World) : Ok Tryz.prog 96 #[.agg (encE a).toArray, .agg (encE b).toArray] w fun v w' => v = .bool (lessE a b) ∧ Ext False w w' := by
 refine ZQ 21 func96 rfl rfl rfl ?_
 have hX := xRf w
 refine QH (Qc ?_)
 refine Z2 rfl (JB (v := .agg _) rfl) ?_
 intro b2 w1 x2 hge2 hb2
 change Box _ _ _ (encE _) at hb2
 replace hX := hX.ex x2
 refine Z2 rfl (JB (v := .agg _) rfl) ?_
 intro b3 w3 x4 hge3 hb3
 change Box _ _ _ (encE _) at hb3
 replace hX := hX.ex x4
 replace hb2 := hb2.ext x4
 refine Rr Zi ?_
 refine Qg (QH (QH (Qc ?_)))
 refine Rr (ZN underlying114 rfl sizeOf3 rfl) ?_
 refine Rr (ZB isAgg3 rfl (hb2.at.get 0 rfl)) ?_
 refine Rr (ZN underlying114 rfl sizeOf3 rfl) ?_
 refine Rr (ZB isAgg3 rfl (hb3.at.get 0 rfl)) ?_
 refine Rr (JD rfl rfl) ?_
 refine Qg ?_
 refine ZG rfl (fun hc1 => ?_) (fun hc1 => ?_)
 ·refine QH (Qc ?_)
  refine Rr (ZN underlying114 rfl sizeOf3 rfl) ?_
  refine Rr (ZB isAgg3 rfl (hb2.at.get 0 rfl)) ?_
  refine Rr (ZN underlying114 rfl sizeOf3 rfl) ?_
  refine Rr (ZB isAgg3 rfl (hb3.at.get 0 rfl)) ?_
  refine Rr (Z5 rfl rfl) ?_
  refine Rr (asB rfl) ?_
  refine Qg (ZJ ?_)
  refine ⟨_, ZF rfl rfl, ?_⟩
  refine ⟨cvB ?_, hX⟩
  all_goals (exact lessE_ne hc1)
 refine ZH (QH (Qc ?_))
 refine Rr (ZN underlying114 rfl sizeOf42 rfl) ?_
 refine Rr (ZO isAgg42 sizeOf42 rfl (hb2.at.sub 1 3) rfl) ?_
 refine Rr (ZN underlying114 rfl sizeOf42 rfl) ?_
 refine Rr (ZO isAgg42 sizeOf42 rfl (hb3.at.sub 1 3) rfl) ?_
 refine ZC rfl (ZW call127 rfl rfl) (Ok.mono (rcompare_ok _ _ ha _ hb) ?_)
 rintro _ w5 ⟨rfl, x6⟩
 replace hX := hX.ex x6
 refine Rr (Z5 rfl rfl) ?_
 refine Rr (asB rfl) ?_
 refine Qg (ZJ ?_)
 refine ⟨_, ZF rfl rfl, ?_⟩
 refine ⟨cvB ?_, hX⟩
 all_goals (exact lessE_eq hc1)

theorem r13grant_ok (v0 : Value) (G : Nat → Prop) (m : List Ent) (w : World) (hs : Rd encE 4 G w v0 m) (hm : OkG m) (e : Ent) (he : e.p.ok) : Ok Tryz.prog 43 #[v0, .agg (encE e).toArray] w fun v w' => (∃ p, v = .tuple #[p, .int .i64 (grantR m e).2] ∧ Rd encE 4 (fun g => G g ∨ Fsh w w' g) w' p (grantR m e).1) ∧ Ext False w w' := by
 obtain ⟨a, c, rfl, hs⟩ := hs
 replace hs := hs.mono (F' := fun g => G g ∧ g < w.heap.size) (fun g h1 h2 => ⟨h2, h1⟩)
 have hlen := hm.len
 refine ZQ 65 func43 rfl rfl rfl ?_
 have hX := xRf w
 refine QH (Qc ?_)
 refine Z2 rfl (JB (v := .agg _) rfl) ?_
 intro b3 w1 x2 hge3 hb3
 have hlt3 := hb3.lt
 change Box _ _ _ (encE _) at hb3
 have z3 := x2.size
 replace hX := hX.ex x2
 replace hs := hs.ext x2
 refine Rr Zi ?_
 refine Rr Zi ?_
 refine Qg (QH (QH (Qc ?_)))
 refine Rr (ZN underlying114 rfl sizeOf3 rfl) ?_
 refine Rr (ZB isAgg3 rfl (hb3.at.get 0 rfl)) ?_
 refine Rr (Z5 rfl rfl) ?_
 refine Rr (mvB rfl) ?_
 refine ZI 3 14 rfl rfl rfl (fun hg => (ZN underlying114 rfl sizeOf3 rfl)) ?_
 refine ZI 3 14 rfl rfl rfl (fun hg => (ZB isAgg3 (ZU (u := undef) hg) (hb3.at.get 0 rfl))) ?_
 refine ZI 3 14 rfl rfl rfl (fun hg => (JY (ZU (u := undef) hg) rfl)) ?_
 refine Rr (JP (u := undef) rfl rfl) ?_
 refine Qg ?_
 refine ZG rfl (fun hc1 => ?_) (fun hc1 => ?_)
 ·have hr : e.r < 1 ∨ 63 < e.r := by simpa using hc1
  refine QH (Qc ?_)
  refine Rr (mvS rfl) ?_
  refine Rr (asS rfl) ?_
  refine Rr Zi ?_
  refine Qg (ZJ ?_)
  refine ⟨_, Je rfl rfl rfl, ?_⟩
  have e0 : grantR m e = (m, 1) := by rw [grantR, if_pos hr]
  rw [e0]
  exact ⟨⟨_, rfl, (hs.mono fun g h1 h2 => .inl h2.1).rd⟩, hX⟩
 have hr : ¬ (e.r < 1 ∨ 63 < e.r) := by simpa using hc1
 refine ZH (QH (QH (Qc ?_)))
 refine Rr (ZN underlying114 rfl sizeOf42 rfl) ?_
 refine Rr (ZO isAgg42 sizeOf42 rfl (hb3.at.sub 1 3) rfl) ?_
 refine ZC rfl (ZK call53 rfl) (Ok.mono (rcheck_ok _ _ he) ?_)
 rintro _ w4 ⟨rfl, x5⟩
 have z6 := x5.size
 replace hX := hX.ex x5
 replace hs := hs.ext x5
 replace hb3 := hb3.ext x5
 refine Rr (asI rfl) ?_
 refine Qg (QH (Qc ?_))
 refine Rr (mvI rfl) ?_
 refine Rr (JD rfl rfl) ?_
 refine Qg ?_
 refine ZG rfl (fun hc2 => ?_) (fun hc2 => ?_)
 ·have hk0 : checkS e.p ≠ 0 := by simpa using hc2
  refine QH (Qc ?_)
  refine Rr (mvS rfl) ?_
  refine Rr (mvI rfl) ?_
  refine Rr (asS rfl) ?_
  refine Rr (asI rfl) ?_
  refine Qg (ZJ ?_)
  refine ⟨_, Je rfl rfl rfl, ?_⟩
  have e0 : grantR m e = (m, checkS e.p) := by rw [grantR, if_neg hr, if_pos hk0]
  rw [e0]
  exact ⟨⟨_, rfl, (hs.mono fun g h1 h2 => .inl h2.1).rd⟩, hX⟩
 have hk0 : ¬ checkS e.p ≠ 0 := by simpa using hc2
 have hve : Ve e := ⟨by omega, by omega, he, by omega⟩
 refine ZH (QH (QH (Qc ?_)))
 refine Rr (mvS rfl) ?_
 refine Rr (ZO isAgg114 sizeOf114 rfl hb3.at rfl) ?_
 refine ZC rfl (ZW call95 rfl rfl) (Ok.mono (r13find_ok _ _ _ m e _ hs) ?_)
 rintro _ w7 ⟨rfl, x8⟩
 have z9 := x8.size
 replace hX := hX.ex x8
 replace hs := hs.ext x8
 replace hb3 := hb3.ext x8
 refine Rr (o_geq rfl rfl) ?_
 refine Qg ?_
 refine ZG rfl (fun hc3 => ?_) (fun hc3 => ?_)
 ·have hin : e ∈ m := by
   have h0 := dcT hc3
   exact Decidable.byContradiction fun h => by have := dcT (ixE.trans (decide_eq_true h)); omega
  refine QH (Qc ?_)
  refine Rr (mvS rfl) ?_
  refine Rr (asS rfl) ?_
  refine Rr Zi ?_
  refine Qg (ZJ ?_)
  refine ⟨_, Je rfl rfl rfl, ?_⟩
  have e0 : grantR m e = (m, 5) := by rw [grantR, if_neg hr, if_neg hk0, if_pos hin]
  rw [e0]
  exact ⟨⟨_, rfl, (hs.mono fun g h1 h2 => .inl h2.1).rd⟩, hX⟩
 have hin : e ∉ m := dcT (by rw [← ixE]; have := dcF hc3; exact decide_eq_true (by omega))
 refine ZH (QH (QH (Qc ?_)))
 refine Rr (mvS rfl) ?_
 refine Rr (Z0 underlying33 rfl) ?_
 refine Rr (o_geq rfl rfl) ?_
 refine Qg ?_
 refine ZG rfl (fun hc4 => ?_) (fun hc4 => ?_)
 ·replace hc4 := dcT hc4
  refine QH (Qc ?_)
  refine Rr (mvS rfl) ?_
  refine Rr (asS rfl) ?_
  refine Rr Zi ?_
  refine Qg (ZJ ?_)
  refine ⟨_, Je rfl rfl rfl, ?_⟩
  have e0 : grantR m e = (m, 14) := by rw [grantR, if_neg hr, if_neg hk0, if_neg hin, if_pos (by omega)]
  rw [e0]
  exact ⟨⟨_, rfl, (hs.mono fun g h1 h2 => .inl h2.1).rd⟩, hX⟩
 replace hc4 := dcF hc4
 refine ZH (QH (Qc ?_))
 refine Rr Zi ?_
 refine Qg (QH (Qc ?_))
 refine Rr Zi ?_
 refine Qg (QH (QH (Qc ?_)))
 refine Rr (mvS rfl) ?_
 refine Rr (Z0 underlying33 rfl) ?_
 refine Rr Jj ?_
 refine Qg (ZM ?_)
 refine Jk (α := Nat × Value) [(7, 8), (10, 10), (38, 57)] (fun q => [(38, .int .i64 (q.1 : Int)), (7, q.2), (8, .bool (insD m e q.1))]) (fun q w' => (q.1 ≤ m.length) ∧ Bel False (fun g => w7.heap.size ≤ g) w7 w' ∧ (Own encE 4 114 (fun g => w7.heap.size ≤ g) w' q.2 (insO m e q.1))) (fun q => m.length - q.1) (0, .slice none 0 0) ⟨rfl, rfl, rfl, trivial⟩ ⟨Nat.zero_le _, Bel.refl _ _, Own.nil _ _⟩ ?_
 rintro ⟨k, t⟩ fb12 w11 ⟨hk, hXL10, hown⟩
 dsimp only at *
 have z13 := Bel.size hXL10
 replace hX := Bel.out hX hXL10 om2
 replace hs := hs.keep hXL10 om3
 replace hb3 := hb3.keep hXL10 om1
 refine QH (Qc ?_)
 refine Rr (Z5 rfl rfl) ?_
 refine Qg (QH ?_)
 refine ZG rfl (fun hc5 => ?_) (fun hc5 => ?_)
 ·replace hc5 := dcT hc5
  refine ZH (QH (ZM (QH (Qc ?_))))
  refine Rr (Js underlying33 sizeOf114 hs rfl rfl omg) ?_
  refine Rr (Jx isAgg114 sizeOf114 hs rfl (Jw ez (by omega))) ?_
  refine Z8 rfl rfl zeroValue114 rfl sizeOf114 (fun _ => rfl) rfl rfl ?_
  intro b10 w14 x15 hge10 hb10
  replace hown := hown.mono (D' := fun g => w7.heap.size ≤ g ∧ g ≠ b10) (fun g h1 h2 => by omega)
  have hlt10 := hb10.lt
  change Box _ _ _ (encE _) at hb10
  have z16 := x15.size
  replace hX := hX.ex x15
  replace hXL10 := Bel.ex hXL10 x15
  replace hb3 := hb3.ext x15
  replace hown := hown.ext x15
  refine Qg (QH (QH (Qc ?_)))
  refine Rr (mvB rfl) ?_
  refine Rr (Jf rfl) ?_
  refine Rr (mvB rfl) ?_
  refine ZI 2 44 rfl rfl rfl (fun hg => (ZO isAgg114 sizeOf114 rfl hb3.at rfl)) ?_
  refine ZI 2 44 rfl rfl rfl (fun hg => (ZO isAgg114 sizeOf114 rfl hb10.at rfl)) ?_
  refine JQ 2 44 rfl rfl rfl (fun hg => ⟨(ZW call96 (ZU (u := undef) hg) (ZU (u := undef) hg)), r13less_ok _ _ he (hm.ve _ (gm (z := ez) (show k < m.length by omega))).2.2.1 _⟩) ?_
  intro w17 x18
  have z19 := x18.size
  replace hX := hX.ex x18
  replace hXL10 := Bel.ex hXL10 x18
  replace hb3 := hb3.ext x18
  replace hown := hown.ext x18
  replace hb10 := hb10.ext x18
  refine Rr (Jq (u := undef) rfl rfl) ?_
  refine Qg ?_
  refine ZG rfl (fun hc6 => ?_) (fun hc6 => ?_)
  ·have hd0 : insD m e k = false ∧ lessE e (m.getD k ez) = true := by simpa using hc6
   refine QH (Qc ?_)
   refine Rr (Zt (v := t) rfl) ?_
   refine Rr (ZO isAgg114 sizeOf114 rfl hb3.at rfl) ?_
   refine Jh (vs := [.agg _]) ([e]) rfl encE_ok el_rent rfl rfl ⟨rfl, trivial⟩ rfl rfl rfl rfl ?_
   intro a51 w20 x21 hown51
   have z22 := x21.size
   replace hX := hX.ex x21
   replace hXL10 := Bel.ex hXL10 x21
   replace hown := hown.ext x21
   replace hb10 := hb10.ext x21
   replace hown51 := hown51.mono (D' := fun g => w7.heap.size ≤ g) (fun g h1 h2 => by omega)
   refine Jd rfl encE_ok el_rent rfl rfl hown (hown51.slA encE_ok) rfl (by have := insO_len m e k; simp; omega) omU ?_
   intro v52 w23 x24 hown
   have z25 := x24.size
   replace hX := Bel.out hX x24 om2
   replace hXL10 := Bel.out hXL10 x24 om2
   replace hb10 := hb10.keep x24 om1
   refine Rr (ZD (v := v52) rfl) ?_
   refine Qg (Qc ?_)
   refine Rr Zi ?_
   refine Qg (Qc ?_)
   refine Rr (Zt (v := v52) rfl) ?_
   refine Rr (ZO isAgg114 sizeOf114 rfl hb10.at rfl) ?_
   refine Jh (vs := [.agg _]) ([(m.getD k ez)]) rfl encE_ok el_rent rfl rfl ⟨rfl, trivial⟩ rfl rfl rfl rfl ?_
   intro a55 w26 x27 hown55
   have z28 := x27.size
   replace hX := hX.ex x27
   replace hXL10 := Bel.ex hXL10 x27
   replace hown := hown.ext x27
   replace hown55 := hown55.mono (D' := fun g => w7.heap.size ≤ g) (fun g h1 h2 => by omega)
   refine Jd rfl encE_ok el_rent rfl rfl hown (hown55.slA encE_ok) rfl (by have := insO_len m e k; simp; omega) omU ?_
   intro v56 w29 x30 hown
   have z31 := x30.size
   replace hX := Bel.out hX x30 om2
   replace hXL10 := Bel.out hXL10 x30 om2
   refine Rr (ZD (v := v56) rfl) ?_
   refine Qg (Qc ?_)
   refine Rr (Z1 rfl rfl omg) ?_
   refine Rr (mvI rfl) ?_
   refine Qg ?_
   refine ⟨(k + 1, v56), ⟨sT, sT, ?_, trivial⟩, oT, ⟨?_, hXL10, ?_⟩, ?_⟩
   ·exact cvB (ins_yes (by omega) hd0.1 hd0.2).2.symm
   ·show k + 1 ≤ m.length; omega
   ·show Own _ _ _ _ _ _ (insO m e (k + 1))
    rw [(ins_yes (by omega) hd0.1 hd0.2).1]; exact hown.mono (fun g h1 h2 => h2.1)
   ·show m.length - (k + 1) < m.length - k; omega
  skip
  refine ZH (Qc ?_)
  refine Rr (Zt (v := t) rfl) ?_
  refine Rr (ZO isAgg114 sizeOf114 rfl hb10.at rfl) ?_
  refine Jh (vs := [.agg _]) ([(m.getD k ez)]) rfl encE_ok el_rent rfl rfl ⟨rfl, trivial⟩ rfl rfl rfl rfl ?_
  intro a55 w32 x33 hown55
  have z34 := x33.size
  replace hX := hX.ex x33
  replace hXL10 := Bel.ex hXL10 x33
  replace hown := hown.ext x33
  replace hown55 := hown55.mono (D' := fun g => w7.heap.size ≤ g) (fun g h1 h2 => by omega)
  refine Jd rfl encE_ok el_rent rfl rfl hown (hown55.slA encE_ok) rfl (by have := insO_len m e k; simp; omega) omU ?_
  intro v56 w35 x36 hown
  have z37 := x36.size
  replace hX := Bel.out hX x36 om2
  replace hXL10 := Bel.out hXL10 x36 om2
  refine Rr (ZD (v := v56) rfl) ?_
  refine Qg (Qc ?_)
  refine Rr (Z1 rfl rfl omg) ?_
  refine Rr (mvI rfl) ?_
  refine Qg ?_
  refine ⟨(k + 1, v56), ⟨sT, sT, ?_, trivial⟩, oT, ⟨?_, hXL10, ?_⟩, ?_⟩
  ·exact cvB (ins_no (by omega) hc6).2.symm
  ·show k + 1 ≤ m.length; omega
  ·show Own _ _ _ _ _ _ (insO m e (k + 1))
   rw [(ins_no (by omega) hc6).1]; exact hown.mono (fun g h1 h2 => h2.1)
  ·show m.length - (k + 1) < m.length - k; omega
 replace hc5 := dcF hc5
 refine Z4 (ZX (QH (QH (Qc ?_))))
 refine Rr (mvB rfl) ?_
 refine Rr (Jf rfl) ?_
 refine Qg ?_
 refine ZG rfl (fun hc7 => ?_) (fun hc7 => ?_)
 ·have hd1 : insD m e k = false := by simpa using hc7
  refine Qc ?_
  refine Rr (Zt (v := t) rfl) ?_
  refine Rr (ZO isAgg114 sizeOf114 rfl hb3.at rfl) ?_
  refine Jh (vs := [.agg _]) ([e]) rfl encE_ok el_rent rfl rfl ⟨rfl, trivial⟩ rfl rfl rfl rfl ?_
  intro a62 w38 x39 hown62
  have z40 := x39.size
  replace hX := hX.ex x39
  replace hown := hown.ext x39
  replace hown62 := hown62.mono (D' := fun g => w7.heap.size ≤ g) (fun g h1 h2 => by omega)
  refine Jd rfl encE_ok el_rent rfl rfl hown (hown62.slA encE_ok) rfl (by have := insO_len m e k; simp; omega) omU ?_
  intro v63 w41 x42 hown
  have z43 := x42.size
  replace hX := Bel.out hX x42 om2
  refine Rr (ZD (v := v63) rfl) ?_
  refine Qg (QH (Qc ?_))
  refine Rr (Zt (v := v63) rfl) ?_
  refine Rr (ZD (v := v63) rfl) ?_
  refine Rr Zi ?_
  refine Qg (ZJ ?_)
  refine ⟨_, Je rfl rfl rfl, ?_⟩
  have e0 : grantR m e = (insGo cmpE e m, 0) := by rw [grantR, if_neg hr, if_neg hk0, if_neg hin, if_neg (by omega)]
  rw [e0, ins_end (k := k) (by omega), hd1]
  exact ⟨⟨_, rfl, Rd.mono (hown.rd encE_ok) fun g h1 h2 => .inr ⟨by omega, h1⟩⟩, hX⟩
 have hd1 : insD m e k = true := by simpa using hc7
 refine ZH (QH (Qc ?_))
 refine Rr (Zt (v := t) rfl) ?_
 refine Rr (ZD (v := t) rfl) ?_
 refine Rr Zi ?_
 refine Qg (ZJ ?_)
 refine ⟨_, Je rfl rfl rfl, ?_⟩
 have e0 : grantR m e = (insGo cmpE e m, 0) := by rw [grantR, if_neg hr, if_neg hk0, if_neg hin, if_neg (by omega)]
 rw [e0, ins_end (k := k) (by omega), hd1]
 exact ⟨⟨_, rfl, Rd.mono (hown.rd encE_ok) fun g h1 h2 => .inr ⟨by omega, h1⟩⟩, hX⟩

