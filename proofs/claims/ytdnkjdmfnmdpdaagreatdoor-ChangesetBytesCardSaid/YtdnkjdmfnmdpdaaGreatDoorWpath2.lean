/- Walks: what functions return. -/
import Derived.Test.YtdnkjdmfnmdpdaaGreatDoorWpath
set_option linter.unusedVariables false
set_option linter.unusedSimpArgs false
set_option linter.unnecessarySimpa false
namespace Go.Proofs.YtdnkjdmfnmdpdaaGreatDoor
open Go Go.Lx Go.RowKit Tryz
set_option maxRecDepth 100000
theorem scompare_ok (β : Prop) (a b : Option Addr) (c d : Nat) (A B : Nat → Prop) (x y : List Str) (w : World) (hx : Sl encS 1 A w a c x) (hy : Sl encS 1 B w b d y) : Ok Tryz.prog 177 #[.slice a x.length c, .slice b y.length d] w fun v w' => v = .int .i64 (cmpL x y) ∧ Ext β w w' := by
 have hlx := hx.len; have hly := hy.len
 refine ZQ 36 func177 rfl rfl rfl ?_
 have hX : Ext β w w := Bel.refl _ _
 refine QH (Qc ?_)
 refine Rr Zi ?_
 refine Qg (QH (QH (Qc ?_)))
 refine Rr (mvS rfl) ?_
 refine Rr (Z0 underlying29 rfl) ?_
 refine Rr Jj ?_
 refine Qg (ZM ?_)
 refine Jk (α := Nat) [(4, 8), (11, 30)] (fun k => [(11, .int .i64 (k : Int))]) (fun k w' => (k ≤ x.length ∧ k ≤ y.length ∧ cmpL x y = cmpL (x.drop k) (y.drop k)) ∧ Ext β w w') (fun k => x.length - k) 0 ⟨rfl, trivial⟩ ⟨⟨by omega, by omega, rfl⟩, Bel.refl _ _⟩ ?_
 rintro k fb3 w2 ⟨hk, hXL1⟩
 replace hX := hX.ex hXL1
 replace hx := hx.ext hXL1
 replace hy := hy.ext hXL1
 refine QH (Qc ?_)
 refine Rr (Z5 rfl rfl) ?_
 refine Qg (QH ?_)
 refine ZG rfl (fun hc1 => ?_) (fun hc1 => ?_)
 ·first | replace hc1 := dcT hc1 | replace hc1 := JN hc1 | skip
  refine ZH (QH (ZM (QH (Qc ?_))))
  refine Rr (mvI rfl) ?_
  refine Rr (Js underlying29 sizeOf9 hx rfl rfl omg) ?_
  refine Rr (Yf isAgg9 hx rfl rfl (getElem?_of (by first | omega | assumption)) rfl) ?_
  refine Rr (asI rfl) ?_
  refine Rr (ZD (v := str _) rfl) ?_
  refine Qg (QH (QH (Qc ?_)))
  refine Rr (mvI rfl) ?_
  refine Rr (mvS rfl) ?_
  refine Rr (Z0 underlying29 rfl) ?_
  refine Rr (o_geq rfl rfl) ?_
  refine Qg ?_
  refine ZG rfl (fun hc2 => ?_) (fun hc2 => ?_)
  ·first | replace hc2 := dcT hc2 | replace hc2 := JN hc2 | skip
   refine QH (Qc ?_)
   refine Rr Zi ?_
   refine Qg (ZJ ?_)
   refine ⟨_, ZF rfl rfl, ?_⟩
   refine ⟨congrArg (Value.int .i64) ?_, hX⟩
   all_goals (rw [hk.2.2, cmpL_long (by omega) (by omega)])
  first | replace hc2 := dcF hc2 | replace hc2 := JO hc2 | skip
  refine ZH (QH (Qc ?_))
  refine Rr (mvS rfl) ?_
  refine Rr (mvI rfl) ?_
  refine Rr (Js underlying29 sizeOf9 hy rfl rfl omg) ?_
  refine Rr (Yf isAgg9 hy rfl rfl (getElem?_of (by first | omega | assumption)) rfl) ?_
  refine Rr (ZD (v := str _) rfl) ?_
  refine Qg (QH (Qc ?_))
  refine Rr (Zt (v := str _) rfl) ?_
  refine Rr (Zt (v := str _) rfl) ?_
  refine ZC rfl (ZW call156 rfl rfl) (Ok.mono (cmp_ok (β) _ _ _) ?_)
  rintro _ w4 ⟨rfl, x5⟩
  replace hX := hX.ex x5
  replace hXL1 := Bel.ex hXL1 x5
  refine Rr (asI rfl) ?_
  refine Qg (QH (Qc ?_))
  refine Rr (mvI rfl) ?_
  refine Rr (JD rfl rfl) ?_
  refine Qg ?_
  refine ZG rfl (fun hc3 => ?_) (fun hc3 => ?_)
  ·first | replace hc3 := dcT hc3 | replace hc3 := JN hc3 | skip
   refine QH (Qc ?_)
   refine Rr (mvI rfl) ?_
   refine Rr (asI rfl) ?_
   refine Qg (ZJ ?_)
   refine ⟨_, ZF rfl rfl, ?_⟩
   refine ⟨congrArg (Value.int .i64) ?_, hX⟩
   all_goals (rw [hk.2.2, cmpL_ne (by omega) (by omega) hc3])
  first | replace hc3 := dcF hc3 | replace hc3 := JO hc3 | skip
  refine ZH (Qc ?_)
  refine Rr (Z1 rfl rfl omg) ?_
  refine Rr (mvI rfl) ?_
  refine Qg ?_
  refine ⟨k + 1, ⟨sT, trivial⟩, oT, ⟨?_, hXL1⟩, ?_⟩
  ·exact ⟨by omega, by omega, by rw [hk.2.2, cmpL_step (by omega) (by omega) hc3]⟩
  ·omega
 first | replace hc1 := dcF hc1 | replace hc1 := JO hc1 | skip
 refine Z4 (ZX (QH (QH (Qc ?_))))
 refine Rr (mvS rfl) ?_
 refine Rr (Z0 underlying29 rfl) ?_
 refine Rr (mvS rfl) ?_
 refine Rr (Z0 underlying29 rfl) ?_
 refine Rr (Z5 rfl rfl) ?_
 refine Qg ?_
 refine ZG rfl (fun hc4 => ?_) (fun hc4 => ?_)
 ·first | replace hc4 := dcT hc4 | replace hc4 := JN hc4 | skip
  refine QH (Qc ?_)
  refine Rr Zi ?_
  refine Qg (ZJ ?_)
  refine ⟨_, ZF rfl rfl, ?_⟩
  refine ⟨congrArg (Value.int .i64) ?_, hX⟩
  all_goals (rw [hk.2.2, cmpL_short (by omega) (by omega)])
 first | replace hc4 := dcF hc4 | replace hc4 := JO hc4 | skip
 refine ZH (QH (Qc ?_))
 refine Rr Zi ?_
 refine Qg (ZJ ?_)
 refine ⟨_, ZF rfl rfl, ?_⟩
 refine ⟨congrArg (Value.int .i64) ?_, hX⟩
 all_goals (rw [hk.2.2, cmpL_both (by omega) (by omega)])

theorem pcompare_ok (β : Prop) (p q : Str) (hp : p.length ≤ 1000000) (hq : q.length ≤ 1000000) (w : World) : Ok Tryz.prog 157 #[str p, str q] w fun v w' => v = .int .i64 (cmpP p q) ∧ Ext β w w' := by
 refine ZQ 34 func157 rfl rfl rfl ?_
 have hX : Ext β w w := Bel.refl _ _
 refine QH (Qc ?_)
 refine Rr Zi ?_
 refine Qg (QH (Qc ?_))
 refine Rr (Zt (v := str _) rfl) ?_
 refine ZC rfl (ZK call135 rfl) (Ok.mono (split_ok (β) _ (by first | assumption | omega | (simp; done) | (simp; omega) | (simp at *; omega)) _) ?_)
 rintro _ w1 ⟨a11, c11, rfl, hs11, x2⟩
 replace hX := hX.ex x2
 refine Rr (Zt (v := .tuple _) rfl) ?_
 refine Rr (ZS rfl rfl) ?_
 refine Rr (ZS rfl rfl) ?_
 refine Rr (asS rfl) ?_
 refine Rr (asB rfl) ?_
 refine Qg (QH (Qc ?_))
 refine Rr (Zt (v := str _) rfl) ?_
 refine ZC rfl (ZK call135 rfl) (Ok.mono (split_ok (β) _ (by first | assumption | omega | (simp; done) | (simp; omega) | (simp at *; omega)) _) ?_)
 rintro _ w3 ⟨a16, c16, rfl, hs16, x4⟩
 replace hX := hX.ex x4
 replace hs11 := hs11.ext x4
 refine Rr (Zt (v := .tuple _) rfl) ?_
 refine Rr (ZS rfl rfl) ?_
 refine Rr (ZS rfl rfl) ?_
 refine Rr (asS rfl) ?_
 refine Rr (asB rfl) ?_
 refine Qg (QH (ZM (QH (Qc ?_))))
 refine Rr (mvB rfl) ?_
 refine Rr (mvB rfl) ?_
 refine ZI 1 21 rfl rfl rfl (fun hg => (mvB rfl)) ?_
 refine Rr (Jq (u := undef) rfl rfl) ?_
 refine Rr (asB rfl) ?_
 refine Qg ?_
 refine ZG rfl (fun hc1 => ?_) (fun hc1 => ?_)
 ·refine QH (Qc ?_)
  refine Rr (mvS rfl) ?_
  refine Rr (mvS rfl) ?_
  refine ZC rfl (ZW call177 rfl rfl) (Ok.mono (scompare_ok (β) _ _ _ _ _ _ _ _ _ hs11 hs16) ?_)
  rintro _ w5 ⟨rfl, x6⟩
  replace hX := hX.ex x6
  refine Rr (asI rfl) ?_
  refine Qg (ZJ ?_)
  refine ⟨_, ZF rfl rfl, ?_⟩
  refine ⟨congrArg (Value.int .i64) ?_, hX⟩
  all_goals (rw [cmpP, if_pos hc1])
 refine QH (Qc ?_)
 refine Rr (mvB rfl) ?_
 refine Rr (asB rfl) ?_
 refine Qg ?_
 refine ZG rfl (fun hc2 => ?_) (fun hc2 => ?_)
 ·refine QH (Qc ?_)
  refine Rr Zi ?_
  refine Qg (ZJ ?_)
  refine ⟨_, ZF rfl rfl, ?_⟩
  refine ⟨congrArg (Value.int .i64) ?_, hX⟩
  all_goals (rw [cmpP, if_neg (by rw [hc1]; simp), if_pos hc2])
 refine QH (Qc ?_)
 refine Rr (mvB rfl) ?_
 refine Rr (asB rfl) ?_
 refine Qg ?_
 refine ZG rfl (fun hc3 => ?_) (fun hc3 => ?_)
 ·refine QH (Qc ?_)
  refine Rr Zi ?_
  refine Qg (ZJ ?_)
  refine ⟨_, ZF rfl rfl, ?_⟩
  refine ⟨congrArg (Value.int .i64) ?_, hX⟩
  all_goals (rw [cmpP, if_neg (by rw [hc1]; simp), if_neg (by rw [hc2]; simp), if_pos hc3])
 refine ZH (QH (Qc ?_))
 refine Rr (Zt (v := str _) rfl) ?_
 refine Rr (Zt (v := str _) rfl) ?_
 refine ZC rfl (ZW call156 rfl rfl) (Ok.mono (cmp_ok (β) _ _ _) ?_)
 rintro _ w7 ⟨rfl, x8⟩
 replace hX := hX.ex x8
 refine Rr (asI rfl) ?_
 refine Qg (ZJ ?_)
 refine ⟨_, ZF rfl rfl, ?_⟩
 refine ⟨congrArg (Value.int .i64) ?_, hX⟩
 all_goals (rw [cmpP, if_neg (by rw [hc1]; simp), if_neg (by rw [hc2]; simp), if_neg (by rw [hc3]; simp)])

