/- Walks: what functions return. -/
import Derived.Test.YtdnkjdmfnmdpdaaGreatDoorWref50
import Derived.Test.YtdnkjdmfnmdpdaaGreatDoorWset5
import Derived.Test.YtdnkjdmfnmdpdaaGreatDoorCs
set_option linter.unusedVariables false
set_option linter.unusedSimpArgs false
set_option linter.unnecessarySimpa false
namespace Go.Proofs.YtdnkjdmfnmdpdaaGreatDoor
open Go Go.Lx Go.RowKit Tryz
set_option maxRecDepth 100000
theorem lop_ok (o : COp) (hk : 0 ≤ o.k ∧ o.k ≤ 255) (w : World) : Ok Tryz.prog 10 #[.agg (encRo o).toArray] w fun v w' => v = .agg (encCo o).toArray ∧ Ext False w w' := by
 refine ZQ 17 func10 rfl rfl rfl ?_
 have hX := xRf w
 refine QH (Qc ?_)
 refine Z2 rfl (JB (v := .agg _) rfl) ?_
 intro b1 w1 x2 hge1 hb1
 have hlt1 := hb1.lt
 change Box _ _ _ (encRo _) at hb1
 have z3 := x2.size
 replace hX := hX.ex x2
 refine Z2 rfl (JK zeroValue50) ?_
 intro b2 w4 x5 hge2 hb2
 have hlt2 := hb2.lt
 change Box _ _ _ ([.bool _, .int _ _, .int _ _, .int _ _, .int _ _, str _, str _, .bool _]) at hb2
 have z6 := x5.size
 replace hX := hX.ex x5
 replace hb1 := hb1.ext x5
 refine Qg (QH (Qc ?_))
 refine Rr (ZN underlying44 rfl sizeOf4 rfl) ?_
 refine Rr (ZB isAgg4 rfl (hb1.at.get 0 rfl)) ?_
 refine Rr (ZN underlying44 rfl sizeOf3 rfl) ?_
 refine Rr (ZB isAgg3 rfl (hb1.at.get 1 rfl)) ?_
 refine Rr (JJ underlying3 underlying47 rfl (wrap_k8 hk.1 hk.2)) ?_
 refine Rr (ZN underlying44 rfl sizeOf3 rfl) ?_
 refine Rr (ZB isAgg3 rfl (hb1.at.get 2 rfl)) ?_
 refine Rr (ZN underlying44 rfl sizeOf3 rfl) ?_
 refine Rr (ZB isAgg3 rfl (hb1.at.get 3 rfl)) ?_
 refine Rr (ZN underlying44 rfl sizeOf3 rfl) ?_
 refine Rr (ZB isAgg3 rfl (hb1.at.get 4 rfl)) ?_
 refine Rr (ZN underlying44 rfl sizeOf42 rfl) ?_
 refine Rr (ZO isAgg42 sizeOf42 rfl (hb1.at.sub 5 3) rfl) ?_
 refine Rr (Z7 (cells := encCo o) (vs := [(0, .bool _), (1, .int _ _), (2, .int _ _), (3, .int _ _), (4, .int _ _), (5, .agg _)]) rfl (by kernel_rfl)) ?_
 refine Ja (v := .agg _) rfl sizeOf50 rfl rfl hb2 rfl rfl rfl ?_
 intro w7 c8 hb2
 change Box _ _ _ (encCo _) at hb2
 have z9 := Bel.size c8
 replace hX := Bel.out hX c8 om2
 refine Qg (ZJ ?_)
 refine ⟨_, res_1 (v := .agg _) rfl (Ju isAgg50 sizeOf50 rfl hb2.at rfl), ?_⟩
 exact ⟨rfl, hX⟩

theorem lops_ok (w : World) (vl : Value) (l : List COp) (hl : Rd encRo 8 (Lt w.heap.size) w vl l) (nl : l.length ≤ 100000) (hk0 : ∀ x ∈ l, 0 ≤ x.k ∧ x.k ≤ 255) : Ok Tryz.prog 17 #[vl] w fun v w' => Own encCo 8 50 (Fsh w w') w' v (l) ∧ Ext False w w' := by
 obtain ⟨al, cl, rfl, hl⟩ := hl; have ml := hl.len
 refine ZQ 19 func17 rfl rfl rfl ?_
 have hX := xRf w
 refine QH (Qc ?_)
 refine Rr Zi ?_
 refine Qg (QH (Qc ?_))
 refine Rr Zi ?_
 refine Qg (QH (QH (Qc ?_)))
 refine Rr (mvS rfl) ?_
 refine Rr (Z0 underlying27 rfl) ?_
 refine Rr Jj ?_
 refine Qg (ZM ?_)
 refine Jk (α := Nat × Value) [(3, 3), (5, 5), (8, 17)] (fun q => [(8, .int .i64 (q.1 : Int)), (3, q.2)]) (fun q w' => (q.1 ≤ l.length) ∧ Bel False (fun g => w.heap.size ≤ g) w w' ∧ (Own encCo 8 50 (fun g => w.heap.size ≤ g) w' q.2 (l.take q.1))) (fun q => l.length - q.1) (0, .slice none 0 0) ⟨rfl, rfl, trivial⟩ ⟨Nat.zero_le _, Bel.refl _ _, Own.nil _ _⟩ ?_
 rintro ⟨k, t⟩ fb3 w2 ⟨hk, hXL1, hown⟩
 dsimp only at *
 have z4 := Bel.size hXL1
 replace hX := Bel.out hX hXL1 om2
 replace hl := hl.keep hXL1 om3
 refine QH (Qc ?_)
 refine Rr (Z5 rfl rfl) ?_
 refine Qg (QH ?_)
 refine ZG rfl (fun hc1 => ?_) (fun hc1 => ?_)
 ·replace hc1 := dcT hc1
  refine ZH (QH (ZM (QH (Qc ?_))))
  refine Rr (Js underlying27 sizeOf44 hl rfl rfl omg) ?_
  refine Rr (Jx isAgg44 sizeOf44 hl rfl (Jw coz (by omega))) ?_
  refine Z8 rfl rfl zeroValue44 rfl sizeOf44 (fun _ => rfl) rfl rfl ?_
  intro b5 w5 x6 hge5 hb5
  have hlt5 := hb5.lt
  change Box _ _ _ (encRo _) at hb5
  have z7 := x6.size
  replace hX := hX.ex x6
  replace hXL1 := Bel.ex hXL1 x6
  replace hown := hown.ext x6
  refine Qg (Qc ?_)
  refine Rr (Zt (v := t) rfl) ?_
  refine Rr (ZO isAgg44 sizeOf44 rfl hb5.at rfl) ?_
  refine ZC rfl (ZK call10 rfl) (Ok.mono (lop_ok (l.getD k coz) (hk0 _ (gm (show k < l.length by omega))) _) ?_)
  rintro _ w8 ⟨rfl, x9⟩
  have z10 := x9.size
  replace hX := hX.ex x9
  replace hXL1 := Bel.ex hXL1 x9
  replace hown := hown.ext x9
  refine Jh (vs := [.agg _]) ([(l.getD k coz)]) rfl encCo_ok el_co rfl rfl ⟨rfl, trivial⟩ rfl rfl rfl rfl ?_
  intro a15 w11 x12 hown15
  have z13 := x12.size
  replace hX := hX.ex x12
  replace hXL1 := Bel.ex hXL1 x12
  replace hown := hown.ext x12
  replace hown15 := hown15.mono (D' := fun g => w.heap.size ≤ g) (fun g h1 h2 => by omega)
  refine Jd rfl encCo_ok el_co rfl rfl hown (hown15.slA encCo_ok) rfl (by simp; omega) omU ?_
  intro v16 w14 x15 hown
  have z16 := x15.size
  replace hX := Bel.out hX x15 om2
  replace hXL1 := Bel.out hXL1 x15 om2
  refine Rr (ZD (v := v16) rfl) ?_
  refine Qg (Qc ?_)
  refine Rr (Z1 rfl rfl omg) ?_
  refine Rr (mvI rfl) ?_
  refine Qg ?_
  refine ⟨(k + 1, v16), ⟨sT, sT, trivial⟩, oT, ⟨?_, hXL1, ?_⟩, ?_⟩
  ·show k + 1 ≤ l.length; omega
  ·show Own _ _ _ _ _ _ (l.take (k + 1))
   rw [takeD (z := coz) (by omega)]; exact hown.mono (fun g h1 h2 => by omega)
  ·show l.length - (k + 1) < l.length - k; omega
 replace hc1 := dcF hc1
 refine Z4 (ZX (QH (Qc ?_)))
 refine Rr (Zt (v := t) rfl) ?_
 refine Rr (ZD (v := t) rfl) ?_
 refine Qg (ZJ ?_)
 refine ⟨_, ZF rfl rfl, ?_⟩
 rw [List.take_of_length_le (by omega)] at hown
 exact ⟨hown.mono (fun g h1 h2 => by omega), hX⟩

theorem lset_ok (w : World) (vl : Value) (l : List COp) (hl : Rd encRo 8 (Lt w.heap.size) w vl l) (nl : l.length ≤ 100000) (hvs : VS l) : Ok Tryz.prog 25 #[vl] w fun v w' => (∃ a c, v = .tuple #[.agg #[.slice a l.length c], .bool true] ∧ Sl encCo 8 (Fsh w w') w' a c l) ∧ Ext False w w' := by
 obtain ⟨al, cl, rfl, hl⟩ := hl; have ml := hl.len
 refine ZQ 15 func25 rfl rfl rfl ?_
 have hX := xRf w
 refine QH (Qc ?_)
 refine Z2 rfl (JK zeroValue63) ?_
 intro b2 w1 x2 hge2 hb2
 have hlt2 := hb2.lt
 change Box _ _ _ ([.slice _ _ _]) at hb2
 have z3 := x2.size
 replace hX := hX.ex x2
 replace hl := hl.ext x2
 refine Rr Zi ?_
 refine Qg (QH (Qc ?_))
 refine Rr (mvS rfl) ?_
 refine ZC rfl (ZK call17 rfl) (Ok.mono (lops_ok _ _ l hl.trd (by omega) (fun x hx => by have := (hvs.v x hx).rng; omega)) ?_)
 rintro v8 w4 ⟨hown8, x5⟩
 have z6 := x5.size
 replace hX := hX.ex x5
 replace hb2 := hb2.ext x5
 replace hown8 := hown8.mono (D' := fun g => w.heap.size ≤ g) (fun g h1 h2 => by omega)
 refine ZC rfl (ZK call16 rfl) (Ok.mono (cof_ok _ _ l (hown8.trd encCo_ok) (by omega) (fun x hx => (hvs.v x hx).ok)) ?_)
 rintro _ w7 ⟨⟨a9, c9, rfl, hs9⟩, x8⟩
 have z9 := x8.size
 replace hX := hX.ex x8
 replace hb2 := hb2.ext x8
 refine Rr (Zt (v := .tuple _) rfl) ?_
 refine Rr (ZS rfl rfl) ?_
 refine Rr (ZS rfl rfl) ?_
 refine Z8 rfl rfl zeroValue63 rfl sizeOf63 (fun _ => rfl) rfl rfl ?_
 intro b4 w10 x11 hge4 hb4
 have hlt4 := hb4.lt
 change Box _ _ _ (wsS _ _ _) at hb4
 have z12 := x11.size
 replace hX := hX.ex x11
 replace hb2 := hb2.ext x11
 replace hs9 := hs9.ext x11
 refine Rr (asI rfl) ?_
 refine Qg (QH (Qc ?_))
 refine Rr (ZO isAgg63 sizeOf63 rfl hb4.at rfl) ?_
 refine Rr (mvI rfl) ?_
 refine Rr (ZZ rfl rfl) ?_
 refine Ja (v := .agg _) rfl sizeOf63 rfl rfl hb2 rfl rfl rfl ?_
 intro w13 c14 hb2
 change Box _ _ _ (wsS _ _ _) at hb2
 have z15 := Bel.size c14
 replace hX := Bel.out hX c14 om2
 replace hs9 := hs9.keep c14 om3
 refine Rr (asB rfl) ?_
 refine Qg (ZJ ?_)
 refine ⟨_, res_T (vs := [.agg _, .bool _]) rfl ⟨Ju isAgg63 sizeOf63 rfl hb2.at rfl, rfl, trivial⟩ (by simp), ?_⟩
 have e0 := hvs.of
 refine ⟨⟨a9, c9, ?_, ?_⟩, hX⟩
 ·rw [e0]; rfl
 ·rw [e0] at hs9; exact hs9.mono (fun g h1 h2 => by omega)

theorem lsame_ok (a : Option Addr) (c : Nat) (G : Nat → Prop) (X : List COp) (w : World) (hs : Sl encCo 8 G w a c X) (v1 : Value) (l : List COp) (hl : Rd encRo 8 (Lt w.heap.size) w v1 l) (hn : X.length ≤ 100000) (hm : l.length ≤ 100000) (hk0 : ∀ x ∈ l, 0 ≤ x.k ∧ x.k ≤ 255) : Ok Tryz.prog 19 #[.agg #[.slice a X.length c], v1] w fun v w' => v = .bool (X == l) ∧ Ext False w w' := by
 have hlen := hs.len
 replace hs := hs.mono (F' := fun g => G g ∧ g < w.heap.size) (fun g h1 h2 => ⟨h2, h1⟩)
 obtain ⟨al, cl, rfl, hl⟩ := hl
 refine ZQ 10 func19 rfl rfl rfl ?_
 have hX := xRf w
 refine QH (Qc ?_)
 refine Z2 rfl (JB (v := .agg _) rfl) ?_
 intro b2 w1 x2 hge2 hb2
 change Box _ _ _ (wsS _ _ _) at hb2
 replace hX := hX.ex x2
 replace hs := hs.ext x2
 replace hl := hl.ext x2
 refine Rr Zi ?_
 refine Qg (QH (Qc ?_))
 refine Rr (ZO isAgg63 sizeOf63 rfl hb2.at rfl) ?_
 refine ZC rfl (ZK call59 rfl) (Ok.mono (cops_ok _ _ _ X _ hs hn) ?_)
 rintro v6 w3 ⟨hown6, x4⟩
 replace hX := hX.ex x4
 replace hl := hl.ext x4
 refine Rr (mvS rfl) ?_
 refine ZC rfl (ZK call17 rfl) (Ok.mono (lops_ok _ _ l hl.trd (by omega) hk0) ?_)
 rintro v8 w5 ⟨hown8, x6⟩
 replace hX := hX.ex x6
 replace hown6 := hown6.ext x6
 refine ZC rfl (ZW call58 rfl rfl) (Ok.mono (coeq_okV _ _ _ _ X l _ (hown6.rd encCo_ok) (hown8.rd encCo_ok)) ?_)
 rintro _ w7 ⟨rfl, x8⟩
 replace hX := hX.ex x8
 refine Rr (asB rfl) ?_
 refine Qg (ZJ ?_)
 refine ⟨_, ZF rfl rfl, ?_⟩
 exact ⟨rfl, hX⟩

