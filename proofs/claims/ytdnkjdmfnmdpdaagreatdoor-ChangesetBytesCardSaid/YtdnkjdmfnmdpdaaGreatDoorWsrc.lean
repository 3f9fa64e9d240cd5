/- Walks: what functions return. -/
import Derived.Test.YtdnkjdmfnmdpdaaGreatDoorPure11
import Derived.Test.YtdnkjdmfnmdpdaaGreatDoorCs
import Derived.Test.YtdnkjdmfnmdpdaaGreatDoorSe
set_option linter.unusedVariables false
set_option linter.unusedSimpArgs false
set_option linter.unnecessarySimpa false
namespace Go.Proofs.YtdnkjdmfnmdpdaaGreatDoor
open Go Go.Lx Go.RowKit Tryz
set_option maxRecDepth 100000
theorem wrap_i8 (x : UInt8) : IntKind.u8.wrap (x.toNat : Int) = (x.toNat : Int) := by
 rw [wrapU8, UInt8.ofNat_toNat]
theorem el_a : ElT Tryz.prog 32 110 3 24 (.agg #[.int .i64 0, .int .i64 0, .int .i64 0]) := ⟨underlying32, ⟨Tryz.t110, by kernel_rfl, rfl, rfl, rfl⟩, rfl, by decide, by decide⟩
theorem el_c18 : ElT Tryz.prog 35 123 7 96 (.agg #[.bool false, .int .i64 0, .string ⟨#[]⟩, .int .i64 0, .int .i64 0, .slice none 0 0, .slice none 0 0]) := ⟨underlying35, ⟨Tryz.t123, by kernel_rfl, rfl, rfl, rfl⟩, rfl, by decide, by decide⟩
theorem el_f18 : ElT Tryz.prog 119 121 4 64 (.agg #[.int .i64 0, .int .i64 0, .slice none 0 0, .slice none 0 0]) := ⟨underlying119, ⟨Tryz.t121, by kernel_rfl, rfl, rfl, rfl⟩, rfl, by decide, by decide⟩
theorem el_r23 : ElT Tryz.prog 34 168 7 72 (.agg #[.bool false, .int .i64 0, .int .i64 0, .int .u64 0, .int .u64 0, .slice none 0 0, .int .i64 0]) := ⟨underlying34, ⟨Tryz.t168, by kernel_rfl, rfl, rfl, rfl⟩, rfl, by decide, by decide⟩
theorem el_int : ElT Tryz.prog 117 3 1 8 (.int .i64 0) := ⟨underlying117, ⟨Tryz.t3, by kernel_rfl, rfl, rfl, rfl⟩, rfl, by decide, by decide⟩
theorem JR (b : Nat) (F : Nat → Prop) (N : Nat) (w : World) (hs : Byt F w b 100 N) (hF : ∀ g, F g → g < b) (hN : N ≤ 1000000) : Ok Tryz.prog 40 #[.pointer (some ⟨b, 0, none⟩)] w fun v w' => (∃ x : UInt8, v = .int .i64 (x.toNat : Int)) ∧ Byt F w' b 100 (N + 1) ∧ Bel False (fun g => g = b) w w' := by
 have hbl := hs.lt
 obtain ⟨a, c, l, n, hb0, hn, hl⟩ := hs
 replace hl := hl.mono (F' := fun g => F g ∧ g < b) (fun g h1 h2 => ⟨h2, hF g h2⟩)
 have hll := hl.len
 refine ZQ 32 func40 rfl rfl rfl ?_
 have hX : Bel False ((fun g => g = b)) w w := Bel.refl _ _
 refine QH (Qc ?_)
 refine Rr Zi ?_
 refine Qg (QH (Qc ?_))
 refine Rr (Zt (v := .pointer _) rfl) ?_
 refine Rr (JI rfl) ?_
 refine Rr (ZN underlying100 rfl sizeOf3 rfl) ?_
 refine Rr (ZB isAgg3 rfl (hb0.at.get 1 rfl)) ?_
 refine Rr (Z1 rfl rfl (by unfold I64; omega)) ?_
 refine Rr (JI rfl) ?_
 refine Rr (ZN underlying100 rfl sizeOf3 rfl) ?_
 refine Jb (v := .int _ _) rfl sizeOf3 rfl rfl hb0 rfl rfl rfl ?_
 intro w1 c2 hb0
 change Box _ _ _ ([.slice _ _ _, .int _ _]) at hb0
 have z3 := Bel.size c2
 replace hX := Bel.out hX c2 (fun g h1 h2 => by first | exact h2 | omega)
 replace hl := hl.keep c2 om3
 refine Qg (QH (QH ?_))
 apply J3 (β := False) [peq _, peq _, peq _, peq _, peq _, peq _, peq _, peq _, peq _, peq _] 10 Jz (by kernel_rfl) rfl ⟨Zs _, Zs _, Zs _, Zs _, Zs _, Zs _, Zs _, Zs _, Zs _, Zs _, trivial⟩ ?ob2 ?fin2
 case ob2 =>
  refine ZA (fun w4 x5 => ?_) ?_
  ·have z6 := x5.size
   refine Zv ?_
   exact ZT rfl (Zt (v := .pointer _) rfl)
  refine ZA (fun w7 x8 => ?_) ?_
  ·have z9 := x8.size
   refine Qi (Zv ?_)
   exact ZT rfl (JI rfl)
  refine ZA (fun w10 x11 => ?_) ?_
  ·have z12 := x11.size
   refine Qi (Zv ?_)
   exact ZT rfl (ZN underlying100 rfl sizeOf3 rfl)
  refine ZA (fun w13 x14 => ?_) ?_
  ·have z15 := x14.size
   have hb0 := hb0.ext x14
   refine Qi (Zv ?_)
   exact ZT rfl (ZB isAgg3 rfl (hb0.at.get 1 rfl))
  refine ZA (fun w16 x17 => ?_) ?_
  ·have z18 := x17.size
   refine Zv ?_
   exact ZT rfl (Zt (v := .pointer _) rfl)
  refine ZA (fun w19 x20 => ?_) ?_
  ·have z21 := x20.size
   refine Qi (Zv ?_)
   exact ZT rfl (JI rfl)
  refine ZA (fun w22 x23 => ?_) ?_
  ·have z24 := x23.size
   refine Qi (Zv ?_)
   exact ZT rfl (ZN underlying100 rfl sizeOf22 rfl)
  refine ZA (fun w25 x26 => ?_) ?_
  ·have z27 := x26.size
   have hb0 := hb0.ext x26
   refine Qi (Zv ?_)
   exact ZT rfl (ZB isAgg22 rfl (hb0.at.get 0 rfl))
  refine ZA (fun w28 x29 => ?_) ?_
  ·have z30 := x29.size
   refine Qi (Zv ?_)
   exact ZT rfl (Z0 underlying22 rfl)
  refine ZA (fun w31 x32 => ?_) ?_
  ·have z33 := x32.size
   refine Qi (Qi (Zv ?_))
   exact ZT rfl (JY rfl rfl)
  exact JG
 case fin2 =>
  intro w34 x35
  have z36 := x35.size
  replace hX := hX.ex x35
  replace hb0 := hb0.ext x35
  replace hl := hl.ext x35
  refine Qi (Qi (Qi (Qi (Qi (Qi (Qi (Qi (Qi ?_))))))))
  refine Qi (Zv (Qg ?_))
  refine ZG rfl (fun hc1 => ?_) (fun hc1 => ?_)
  ·skip
   refine QH (Qc ?_)
   refine Rr Zi ?_
   refine Qg (ZJ ?_)
   refine ⟨_, ZF rfl rfl, ?_⟩
   exact ⟨⟨0, rfl⟩, ⟨a, c, l, n + 1, hb0, by omega, hl.mono (fun g h1 h2 => h2.1)⟩, hX⟩
  have hnl : n < l.length := by have := dcF hc1; omega
  refine ZH (QH ?_)
  apply J3 (β := False) [peq _, peq _, peq _, peq _, peq _, peq _, peq _, peq _, peq _, peq _, peq _, peq _, peq _] 13 Jz (by kernel_rfl) rfl ⟨Zs _, Zs _, Zs _, Zs _, Zs _, Zs _, Zs _, Zs _, Zs _, Zs _, Zs _, Zs _, Zs _, trivial⟩ ?ob4 ?fin4
  case ob4 =>
   refine ZA (fun w37 x38 => ?_) ?_
   ·have z39 := x38.size
    refine Zv ?_
    exact ZT rfl (Zt (v := .pointer _) rfl)
   refine ZA (fun w40 x41 => ?_) ?_
   ·have z42 := x41.size
    refine Qi (Zv ?_)
    exact ZT rfl (JI rfl)
   refine ZA (fun w43 x44 => ?_) ?_
   ·have z45 := x44.size
    refine Qi (Zv ?_)
    exact ZT rfl (ZN underlying100 rfl sizeOf22 rfl)
   refine ZA (fun w46 x47 => ?_) ?_
   ·have z48 := x47.size
    have hb0 := hb0.ext x47
    refine Qi (Zv ?_)
    exact ZT rfl (ZB isAgg22 rfl (hb0.at.get 0 rfl))
   refine ZA (fun w49 x50 => ?_) ?_
   ·have z51 := x50.size
    refine Zv ?_
    exact ZT rfl (Zt (v := .pointer _) rfl)
   refine ZA (fun w52 x53 => ?_) ?_
   ·have z54 := x53.size
    refine Qi (Zv ?_)
    exact ZT rfl (JI rfl)
   refine ZA (fun w55 x56 => ?_) ?_
   ·have z57 := x56.size
    refine Qi (Zv ?_)
    exact ZT rfl (ZN underlying100 rfl sizeOf3 rfl)
   refine ZA (fun w58 x59 => ?_) ?_
   ·have z60 := x59.size
    have hb0 := hb0.ext x59
    refine Qi (Zv ?_)
    exact ZT rfl (ZB isAgg3 rfl (hb0.at.get 1 rfl))
   refine ZA (fun w61 x62 => ?_) ?_
   ·have z63 := x62.size
    refine Qi (Zv ?_)
    exact ZT rfl ((o_sub rfl rfl (by unfold I64; omega)).trans (by rw [Int.add_sub_cancel]))
   refine ZA (fun w64 x65 => ?_) ?_
   ·have z66 := x65.size
    have hl := hl.ext x65
    refine Qi (Qi (Zv ?_))
    exact ZT rfl (Js (i := n) underlying22 sizeOf5 hl rfl rfl (by omega))
   refine ZA (fun w67 x68 => ?_) ?_
   ·have z69 := x68.size
    have hl := hl.ext x68
    refine Qi (Zv ?_)
    exact ZT rfl (Yf isAgg5 hl rfl rfl (Jw 0 (by omega)) rfl)
   refine ZA (fun w70 x71 => ?_) ?_
   ·have z72 := x71.size
    refine Qi (Zv ?_)
    exact ZT rfl (JJ underlying5 underlying3 rfl (wrapB _))
   refine ZA (fun w73 x74 => ?_) ?_
   ·have z75 := x74.size
    refine Qi (Qi (Qi (Qi (Qi (Qi (Qi (Qi (Qi ?_))))))))
    refine Qi (Qi (Qi (Qi (Zv ?_))))
    exact ZT rfl (asI rfl)
   exact JG
  case fin4 =>
   intro w76 x77
   have z78 := x77.size
   replace hX := hX.ex x77
   replace hb0 := hb0.ext x77
   replace hl := hl.ext x77
   refine Qi (Qi (Qi (Qi (Qi (Qi (Qi (Qi (Qi ?_))))))))
   refine Qi (Qi (Qi (Qi (Zv (Qg (ZJ ?_))))))
   refine ⟨_, ZF rfl rfl, ?_⟩
   exact ⟨⟨l.getD n 0, rfl⟩, ⟨a, c, l, n + 1, hb0, by omega, hl.mono (fun g h1 h2 => h2.1)⟩, hX⟩

theorem next18_ok (b : Nat) (F : Nat → Prop) (N : Nat) (w : World) (hs : Byt F w b 174 N) (hF : ∀ g, F g → g < b) (hN : N ≤ 1000000) : Ok Tryz.prog 129 #[.pointer (some ⟨b, 0, none⟩)] w fun v w' => (∃ x : UInt8, v = .int .i64 (x.toNat : Int)) ∧ Byt F w' b 174 (N + 1) ∧ Bel False (fun g => g = b) w w' := by
 have hbl := hs.lt
 obtain ⟨a, c, l, n, hb0, hn, hl⟩ := hs
 replace hl := hl.mono (F' := fun g => F g ∧ g < b) (fun g h1 h2 => ⟨h2, hF g h2⟩)
 have hll := hl.len
 refine ZQ 32 func129 rfl rfl rfl ?_
 have hX : Bel False ((fun g => g = b)) w w := Bel.refl _ _
 refine QH (Qc ?_)
 refine Rr Zi ?_
 refine Qg (QH (Qc ?_))
 refine Rr (Zt (v := .pointer _) rfl) ?_
 refine Rr (JI rfl) ?_
 refine Rr (ZN underlying174 rfl sizeOf3 rfl) ?_
 refine Rr (ZB isAgg3 rfl (hb0.at.get 1 rfl)) ?_
 refine Rr (Z1 rfl rfl (by unfold I64; omega)) ?_
 refine Rr (JI rfl) ?_
 refine Rr (ZN underlying174 rfl sizeOf3 rfl) ?_
 refine Jb (v := .int _ _) rfl sizeOf3 rfl rfl hb0 rfl rfl rfl ?_
 intro w1 c2 hb0
 change Box _ _ _ ([.slice _ _ _, .int _ _]) at hb0
 have z3 := Bel.size c2
 replace hX := Bel.out hX c2 (fun g h1 h2 => by first | exact h2 | omega)
 replace hl := hl.keep c2 om3
 refine Qg (QH (QH ?_))
 apply J3 (β := False) [peq _, peq _, peq _, peq _, peq _, peq _, peq _, peq _, peq _, peq _] 10 Jz (by kernel_rfl) rfl ⟨Zs _, Zs _, Zs _, Zs _, Zs _, Zs _, Zs _, Zs _, Zs _, Zs _, trivial⟩ ?ob2 ?fin2
 case ob2 =>
  refine ZA (fun w4 x5 => ?_) ?_
  ·have z6 := x5.size
   refine Zv ?_
   exact ZT rfl (Zt (v := .pointer _) rfl)
  refine ZA (fun w7 x8 => ?_) ?_
  ·have z9 := x8.size
   refine Qi (Zv ?_)
   exact ZT rfl (JI rfl)
  refine ZA (fun w10 x11 => ?_) ?_
  ·have z12 := x11.size
   refine Qi (Zv ?_)
   exact ZT rfl (ZN underlying174 rfl sizeOf3 rfl)
  refine ZA (fun w13 x14 => ?_) ?_
  ·have z15 := x14.size
   have hb0 := hb0.ext x14
   refine Qi (Zv ?_)
   exact ZT rfl (ZB isAgg3 rfl (hb0.at.get 1 rfl))
  refine ZA (fun w16 x17 => ?_) ?_
  ·have z18 := x17.size
   refine Zv ?_
   exact ZT rfl (Zt (v := .pointer _) rfl)
  refine ZA (fun w19 x20 => ?_) ?_
  ·have z21 := x20.size
   refine Qi (Zv ?_)
   exact ZT rfl (JI rfl)
  refine ZA (fun w22 x23 => ?_) ?_
  ·have z24 := x23.size
   refine Qi (Zv ?_)
   exact ZT rfl (ZN underlying174 rfl sizeOf22 rfl)
  refine ZA (fun w25 x26 => ?_) ?_
  ·have z27 := x26.size
   have hb0 := hb0.ext x26
   refine Qi (Zv ?_)
   exact ZT rfl (ZB isAgg22 rfl (hb0.at.get 0 rfl))
  refine ZA (fun w28 x29 => ?_) ?_
  ·have z30 := x29.size
   refine Qi (Zv ?_)
   exact ZT rfl (Z0 underlying22 rfl)
  refine ZA (fun w31 x32 => ?_) ?_
  ·have z33 := x32.size
   refine Qi (Qi (Zv ?_))
   exact ZT rfl (JY rfl rfl)
  exact JG
 case fin2 =>
  intro w34 x35
  have z36 := x35.size
  replace hX := hX.ex x35
  replace hb0 := hb0.ext x35
  replace hl := hl.ext x35
  refine Qi (Qi (Qi (Qi (Qi (Qi (Qi (Qi (Qi ?_))))))))
  refine Qi (Zv (Qg ?_))
  refine ZG rfl (fun hc1 => ?_) (fun hc1 => ?_)
  ·skip
   refine QH (Qc ?_)
   refine Rr Zi ?_
   refine Qg (ZJ ?_)
   refine ⟨_, ZF rfl rfl, ?_⟩
   exact ⟨⟨0, rfl⟩, ⟨a, c, l, n + 1, hb0, by omega, hl.mono (fun g h1 h2 => h2.1)⟩, hX⟩
  have hnl : n < l.length := by have := dcF hc1; omega
  refine ZH (QH ?_)
  apply J3 (β := False) [peq _, peq _, peq _, peq _, peq _, peq _, peq _, peq _, peq _, peq _, peq _, peq _, peq _] 13 Jz (by kernel_rfl) rfl ⟨Zs _, Zs _, Zs _, Zs _, Zs _, Zs _, Zs _, Zs _, Zs _, Zs _, Zs _, Zs _, Zs _, trivial⟩ ?ob4 ?fin4
  case ob4 =>
   refine ZA (fun w37 x38 => ?_) ?_
   ·have z39 := x38.size
    refine Zv ?_
    exact ZT rfl (Zt (v := .pointer _) rfl)
   refine ZA (fun w40 x41 => ?_) ?_
   ·have z42 := x41.size
    refine Qi (Zv ?_)
    exact ZT rfl (JI rfl)
   refine ZA (fun w43 x44 => ?_) ?_
   ·have z45 := x44.size
    refine Qi (Zv ?_)
    exact ZT rfl (ZN underlying174 rfl sizeOf22 rfl)
   refine ZA (fun w46 x47 => ?_) ?_
   ·have z48 := x47.size
    have hb0 := hb0.ext x47
    refine Qi (Zv ?_)
    exact ZT rfl (ZB isAgg22 rfl (hb0.at.get 0 rfl))
   refine ZA (fun w49 x50 => ?_) ?_
   ·have z51 := x50.size
    refine Zv ?_
    exact ZT rfl (Zt (v := .pointer _) rfl)
   refine ZA (fun w52 x53 => ?_) ?_
   ·have z54 := x53.size
    refine Qi (Zv ?_)
    exact ZT rfl (JI rfl)
   refine ZA (fun w55 x56 => ?_) ?_
   ·have z57 := x56.size
    refine Qi (Zv ?_)
    exact ZT rfl (ZN underlying174 rfl sizeOf3 rfl)
   refine ZA (fun w58 x59 => ?_) ?_
   ·have z60 := x59.size
    have hb0 := hb0.ext x59
    refine Qi (Zv ?_)
    exact ZT rfl (ZB isAgg3 rfl (hb0.at.get 1 rfl))
   refine ZA (fun w61 x62 => ?_) ?_
   ·have z63 := x62.size
    refine Qi (Zv ?_)
    exact ZT rfl ((o_sub rfl rfl (by unfold I64; omega)).trans (by rw [Int.add_sub_cancel]))
   refine ZA (fun w64 x65 => ?_) ?_
   ·have z66 := x65.size
    have hl := hl.ext x65
    refine Qi (Qi (Zv ?_))
    exact ZT rfl (Js (i := n) underlying22 sizeOf5 hl rfl rfl (by omega))
   refine ZA (fun w67 x68 => ?_) ?_
   ·have z69 := x68.size
    have hl := hl.ext x68
    refine Qi (Zv ?_)
    exact ZT rfl (Yf isAgg5 hl rfl rfl (Jw 0 (by omega)) rfl)
   refine ZA (fun w70 x71 => ?_) ?_
   ·have z72 := x71.size
    refine Qi (Zv ?_)
    exact ZT rfl (JJ underlying5 underlying3 rfl (wrapB _))
   refine ZA (fun w73 x74 => ?_) ?_
   ·have z75 := x74.size
    refine Qi (Qi (Qi (Qi (Qi (Qi (Qi (Qi (Qi ?_))))))))
    refine Qi (Qi (Qi (Qi (Zv ?_))))
    exact ZT rfl (asI rfl)
   exact JG
  case fin4 =>
   intro w76 x77
   have z78 := x77.size
   replace hX := hX.ex x77
   replace hb0 := hb0.ext x77
   replace hl := hl.ext x77
   refine Qi (Qi (Qi (Qi (Qi (Qi (Qi (Qi (Qi ?_))))))))
   refine Qi (Qi (Qi (Qi (Zv (Qg (ZJ ?_))))))
   refine ⟨_, ZF rfl rfl, ?_⟩
   exact ⟨⟨l.getD n 0, rfl⟩, ⟨a, c, l, n + 1, hb0, by omega, hl.mono (fun g h1 h2 => h2.1)⟩, hX⟩

theorem take24_ok (b : Nat) (F : Nat → Prop) (N : Nat) (w : World) (hs : Byt F w b 100 N) (hF : ∀ g, F g → g < b) (n : Nat) (hN : N + n ≤ 1000000) : Ok Tryz.prog 45 #[.pointer (some ⟨b, 0, none⟩), .int .i64 (n : Int)] w fun v w' => (∃ l : List UInt8, Own encB 1 5 (Fsh w w') w' v l ∧ l.length = n) ∧ Byt F w' b 100 (N + n) ∧ Bel False (fun g => g = b) w w' := by
 have hbl := hs.lt
 refine ZQ 19 func45 rfl rfl rfl ?_
 have hX : Bel False ((fun g => g = b)) w w := Bel.refl _ _
 refine QH (Qc ?_)
 refine Rr Zi ?_
 refine Qg (QH (Qc ?_))
 refine Rr Zi ?_
 refine Qg (QH (QH (Qc ?_)))
 refine Rr Zi ?_
 refine Qg (ZM ?_)
 refine Jk (α := Nat × Value × List UInt8) [(5, 17)] (fun q => [(6, .int .i64 (q.1 : Int)), (5, q.2.1)]) (fun q w' => (q.1 ≤ n ∧ q.2.2.length = q.1) ∧ Bel False (fun g => g = b ∨ w.heap.size ≤ g) w w' ∧ (Own encB 1 5 (fun g => w.heap.size ≤ g) w' q.2.1 q.2.2 ∧ Byt F w' b 100 (N + q.1))) (fun q => n - q.1) (0, .slice none 0 0, []) ⟨rfl, rfl, trivial⟩ ⟨⟨Nat.zero_le _, rfl⟩, Bel.refl _ _, ⟨Own.nil _ _, hs⟩⟩ ?_
 rintro ⟨k, t, l⟩ fb3 w2 ⟨⟨hk, hl⟩, hXL1, ⟨hown, hs⟩⟩
 dsimp only at *
 have z4 := Bel.size hXL1
 replace hX := Bel.out hX hXL1 (fun g h1 h2 => by first | exact h2 | omega)
 refine QH (QH (Qc ?_))
 refine Rr (mvI rfl) ?_
 refine Rr (mvI rfl) ?_
 refine Rr (Z5 rfl rfl) ?_
 refine Qg ?_
 refine ZG rfl (fun hc1 => ?_) (fun hc1 => ?_)
 ·replace hc1 : k < n := by have := dcT hc1; omega
  refine ZH (QH (ZM (Qc ?_)))
  refine Rr (Zt (v := t) rfl) ?_
  refine Rr (Zt (v := .pointer _) rfl) ?_
  refine ZC rfl (ZK call40 rfl) (Ok.mono (JR b F _ _ hs hF (by omega)) ?_)
  rintro _ w5 ⟨⟨y14, rfl⟩, hs, x6⟩
  have z7 := x6.size
  replace hX := Bel.out hX x6 (fun g h1 h2 => by first | exact h2 | omega)
  replace hXL1 := Bel.out hXL1 x6 (fun g h1 h2 => by first | exact h2 | omega)
  replace hown := hown.keepD x6 om3
  have hy14 := y14.toNat_lt
  refine Rr (JJ underlying3 underlying5 rfl (wrap_i8 _)) ?_
  refine Jh (vs := [.int _ _]) ([y14]) rfl Z6 el_byte rfl rfl ⟨rfl, trivial⟩ rfl rfl rfl rfl ?_
  intro a16 w8 x9 hown16
  have z10 := x9.size
  replace hX := hX.ex x9
  replace hXL1 := Bel.ex hXL1 x9
  replace hown := hown.ext x9
  replace hs := hs.ext x9
  refine Jd rfl Z6 el_byte rfl rfl hown (hown16.slA Z6) rfl (by simp; omega) (fun g h => by omega) ?_
  intro v17 w11 x12 hown
  have z13 := x12.size
  replace hX := Bel.out hX x12 (fun g h1 h2 => by first | exact h2 | omega)
  replace hXL1 := Bel.out hXL1 x12 (fun g h1 h2 => by first | exact h2 | omega)
  replace hs := hs.keep x12 (fun h => by omega) (fun g h1 h2 h3 => by have := hF g h2; omega)
  refine Rr (ZD (v := v17) rfl) ?_
  refine Qg (Qc ?_)
  refine Rr (mvI rfl) ?_
  refine Rr (Z1 rfl rfl omg) ?_
  refine Rr (asI rfl) ?_
  refine Qg ?_
  refine ⟨(k + 1, v17, l ++ [y14]), ⟨sT, sT, trivial⟩, oT, ⟨?_, hXL1, ?_⟩, ?_⟩
  ·exact ⟨by show k + 1 ≤ n; omega, by simp [hl]⟩
  ·exact ⟨hown, hs⟩
  ·show n - (k + 1) < n - k; omega
 replace hc1 : n ≤ k := by have := dcF hc1; omega
 refine Z4 (ZX (QH (Qc ?_)))
 refine Rr (Zt (v := t) rfl) ?_
 refine Rr (ZD (v := t) rfl) ?_
 refine Qg (ZJ ?_)
 refine ⟨_, ZF rfl rfl, ?_⟩
 have e : k = n := by omega
 subst e
 exact ⟨⟨l, hown.mono (fun g h1 h2 => by omega), hl⟩, hs, hX⟩

