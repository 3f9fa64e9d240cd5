/- Walks: what functions return. -/
import Derived.Test.YtdnkjdmfnmdpdaaGreatDoorWcb
import Derived.Test.YtdnkjdmfnmdpdaaGreatDoorWak5
import Derived.Test.YtdnkjdmfnmdpdaaGreatDoorWl50
import Derived.Test.YtdnkjdmfnmdpdaaGreatDoorWmk50
import Derived.Test.YtdnkjdmfnmdpdaaGreatDoorWmk24m
set_option linter.unusedVariables false
set_option linter.unusedSimpArgs false
set_option linter.unnecessarySimpa false
namespace Go.Proofs.YtdnkjdmfnmdpdaaGreatDoor
open Go Go.Lx Go.RowKit Tryz
set_option maxRecDepth 100000
theorem ceqb_ok (a b : Option Addr) (c d : Nat) (A C : Nat → Prop) (x y : List UInt8) (w : World) (hx : Sl encB 1 A w a c x) (hy : Sl encB 1 C w b d y) : Ok Tryz.prog 30 #[.slice a x.length c, .slice b y.length d] w fun v w' => v = .bool (x == y) ∧ Ext False w w' := by
 have hlx := hx.len; have hly := hy.len
 replace hx := hx.mono (F' := fun g => g < w.heap.size) (fun g h1 h2 => h1)
 replace hy := hy.mono (F' := fun g => g < w.heap.size) (fun g h1 h2 => h1)
 refine ZQ 26 func30 rfl rfl rfl ?_
 have hX := xRf w
 refine QH (Qc ?_)
 refine Rr Zi ?_
 refine Qg (QH (QH (Qc ?_)))
 refine Rr (mvS rfl) ?_
 refine Rr (Z0 underlying22 rfl) ?_
 refine Rr (mvS rfl) ?_
 refine Rr (Z0 underlying22 rfl) ?_
 refine Rr (JD rfl rfl) ?_
 refine Qg ?_
 refine ZG rfl (fun hc1 => ?_) (fun hc1 => ?_)
 ·skip
  refine QH (Qc ?_)
  refine Rr Zi ?_
  refine Qg (ZJ ?_)
  refine ⟨_, ZF rfl rfl, ?_⟩
  refine ⟨cvB ?_, hX⟩
  all_goals (exact (eqT_len (by simpa using hc1)).symm)
 have hle : (x.length : Int) = y.length := by simpa using hc1
 refine ZH (QH (QH (Qc ?_)))
 refine Rr (mvS rfl) ?_
 refine Rr (Z0 underlying22 rfl) ?_
 refine Rr Jj ?_
 refine Qg (ZM ?_)
 refine Jk (α := Nat) [(4, 5), (13, 25)] (fun k => [(13, .int .i64 (k : Int))]) (fun k w' => (k ≤ x.length ∧ x.take k = y.take k) ∧ Ext False w w') (fun k => x.length - k) 0 ⟨rfl, trivial⟩ ⟨⟨by omega, by simp⟩, Bel.refl _ _⟩ ?_
 rintro k fb3 w2 ⟨⟨hk, hall⟩, hXL1⟩
 replace hX := hX.ex hXL1
 replace hx := hx.ext hXL1
 replace hy := hy.ext hXL1
 refine QH (Qc ?_)
 refine Rr (Z5 rfl rfl) ?_
 refine Qg (QH ?_)
 refine ZG rfl (fun hc2 => ?_) (fun hc2 => ?_)
 ·replace hc2 := dcT hc2
  refine ZH (QH (ZM (QH (Qc ?_))))
  refine Rr (mvI rfl) ?_
  refine Rr (asI rfl) ?_
  refine Qg (QH ?_)
  apply J3 (β := False) [peq _, peq _, peq _, peq _, peq _, peq _, peq _, peq _, peq _] 9 Jz (by kernel_rfl) rfl ⟨Zs _, Zs _, Zs _, Zs _, Zs _, Zs _, Zs _, Zs _, Zs _, trivial⟩ ?ob6 ?fin6
  case ob6 =>
   refine ZA (fun w4 x5 => ?_) ?_
   ·refine Zv ?_
    exact ZT rfl (mvS rfl)
   refine ZA (fun w6 x7 => ?_) ?_
   ·refine Zv ?_
    exact ZT rfl (mvI rfl)
   refine ZA (fun w8 x9 => ?_) ?_
   ·have hx := hx.ext x9
    refine Qi (Qi (Zv ?_))
    exact ZT rfl (Js underlying22 sizeOf5 hx rfl rfl omg)
   refine ZA (fun w10 x11 => ?_) ?_
   ·have hx := hx.ext x11
    refine Qi (Zv ?_)
    exact ZT rfl (Yf isAgg5 hx rfl rfl (Jw (0 : UInt8) (by omega)) rfl)
   refine ZA (fun w12 x13 => ?_) ?_
   ·refine Zv ?_
    exact ZT rfl (mvS rfl)
   refine ZA (fun w14 x15 => ?_) ?_
   ·refine Zv ?_
    exact ZT rfl (mvI rfl)
   refine ZA (fun w16 x17 => ?_) ?_
   ·have hy := hy.ext x17
    refine Qi (Qi (Zv ?_))
    exact ZT rfl (Js underlying22 sizeOf5 hy rfl rfl omg)
   refine ZA (fun w18 x19 => ?_) ?_
   ·have hy := hy.ext x19
    refine Qi (Zv ?_)
    exact ZT rfl (Yf isAgg5 hy rfl rfl (Jw (0 : UInt8) (by omega)) rfl)
   refine ZA (fun w20 x21 => ?_) ?_
   ·refine Qi (Qi (Zv ?_))
    exact ZT rfl (JD rfl rfl)
   exact JG
  case fin6 =>
   intro w22 x23
   replace hX := hX.ex x23
   replace hXL1 := Bel.ex hXL1 x23
   refine Qi (Qi (Qi (Qi (Qi (Qi (Qi (Qi (Qi ?_))))))))
   refine Zv (Qg ?_)
   refine ZG rfl (fun hc3 => ?_) (fun hc3 => ?_)
   ·refine QH (Qc ?_)
    refine Rr Zi ?_
    refine Qg (ZJ ?_)
    refine ⟨_, ZF rfl rfl, ?_⟩
    refine ⟨cvB ?_, hX⟩
    all_goals (exact (eqT_ne (z := (0 : UInt8)) (k := k) (fun e => by have h := bne_iff_ne.1 hc3; rw [e] at h; exact h rfl)).symm)
   refine ZH (Qc ?_)
   refine Rr (Z1 rfl rfl omg) ?_
   refine Rr (mvI rfl) ?_
   refine Qg ?_
   refine ⟨k + 1, ⟨sT, trivial⟩, oT, ⟨?_, hXL1⟩, ?_⟩
   ·exact ⟨by omega, eqT_succ (z := (0 : UInt8)) (by omega) (by omega) hall (UInt8.toNat_inj.1 (by have h := bne_eq_false_iff_eq.1 hc3; omega))⟩
   ·omega
 replace hc2 := dcF hc2
 refine Z4 (ZX (QH (Qc ?_)))
 refine Rr Zi ?_
 refine Qg (ZJ ?_)
 refine ⟨_, ZF rfl rfl, ?_⟩
 refine ⟨cvB ?_, hX⟩
 all_goals (exact (eqT_end (k := k) (by omega) (by omega) hall).symm)

theorem ceqb_okV (v1 v2 : Value) (A C : Nat → Prop) (x y : List UInt8) (w : World) (hx : Rd encB 1 A w v1 x) (hy : Rd encB 1 C w v2 y) : Ok Tryz.prog 30 #[v1, v2] w fun v w' => v = .bool (x == y) ∧ Ext False w w' := by
 obtain ⟨a, c, rfl, h1⟩ := hx
 obtain ⟨b, d, rfl, h2⟩ := hy
 exact ceqb_ok _ _ _ _ _ _ _ _ _ h1 h2
