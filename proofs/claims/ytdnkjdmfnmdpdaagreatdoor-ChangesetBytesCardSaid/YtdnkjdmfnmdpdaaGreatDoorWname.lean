/- Walks: what functions return. -/
import Derived.Test.YtdnkjdmfnmdpdaaGreatDoorWpath2
set_option linter.unusedVariables false
set_option linter.unusedSimpArgs false
set_option linter.unnecessarySimpa false
namespace Go.Proofs.YtdnkjdmfnmdpdaaGreatDoor
open Go Go.Lx Go.RowKit Tryz
set_option maxRecDepth 100000
theorem kw_ok (β : Prop) (w : World) : Ok Tryz.prog 132 #[] w fun v w' => ∃ a c, v = .slice a keywordsS.length c ∧ Sl encS 1 (Fsh w w') w' a c keywordsS ∧ Ext β w w' := by
 refine ZQ 2 func132 rfl rfl rfl ?_
 have hX : Ext β w w := Bel.refl _ _
 refine QH (Qc ?_)
 refine Rr Zi ?_
 refine Qg (QH (Qc ?_))
 refine Jh (vs := [str _, str _, str _, str _, str _, str _, str _, str _, str _, str _, str _, str _, str _, str _, str _, str _, str _, str _, str _, str _]) (keywordsS) rfl Jy Yb rfl rfl ⟨rfl, ⟨rfl, ⟨rfl, ⟨rfl, ⟨rfl, ⟨rfl, ⟨rfl, ⟨rfl, ⟨rfl, ⟨rfl, ⟨rfl, ⟨rfl, ⟨rfl, ⟨rfl, ⟨rfl, ⟨rfl, ⟨rfl, ⟨rfl, ⟨rfl, ⟨rfl, trivial⟩⟩⟩⟩⟩⟩⟩⟩⟩⟩⟩⟩⟩⟩⟩⟩⟩⟩⟩⟩ rfl rfl rfl rfl ?_
 intro a1 w1 x2 hown1
 have z3 := x2.size
 replace hX := hX.ex x2
 replace hown1 := hown1.mono (D' := fun g => w.heap.size ≤ g) (fun g h1 h2 => by omega)
 refine Rr (asS rfl) ?_
 refine Qg (ZJ ?_)
 refine ⟨_, ZF rfl rfl, ?_⟩
 exact ⟨_, _, rfl, (hown1.slA Jy).mono (fun g h1 h2 => by omega), hX⟩

theorem rkw_ok (β : Prop) (w : World) : Ok Tryz.prog 136 #[] w fun v w' => ∃ a c, v = .slice a keywordsS.length c ∧ Sl encS 1 (Fsh w w') w' a c keywordsS ∧ Ext β w w' := by
 refine ZQ 2 func136 rfl rfl rfl ?_
 have hX : Ext β w w := Bel.refl _ _
 refine QH (Qc ?_)
 refine Rr Zi ?_
 refine Qg (QH (Qc ?_))
 refine Jh (vs := [str _, str _, str _, str _, str _, str _, str _, str _, str _, str _, str _, str _, str _, str _, str _, str _, str _, str _, str _, str _]) (keywordsS) rfl Jy Yb rfl rfl ⟨rfl, ⟨rfl, ⟨rfl, ⟨rfl, ⟨rfl, ⟨rfl, ⟨rfl, ⟨rfl, ⟨rfl, ⟨rfl, ⟨rfl, ⟨rfl, ⟨rfl, ⟨rfl, ⟨rfl, ⟨rfl, ⟨rfl, ⟨rfl, ⟨rfl, ⟨rfl, trivial⟩⟩⟩⟩⟩⟩⟩⟩⟩⟩⟩⟩⟩⟩⟩⟩⟩⟩⟩⟩ rfl rfl rfl rfl ?_
 intro a1 w1 x2 hown1
 have z3 := x2.size
 replace hX := hX.ex x2
 replace hown1 := hown1.mono (D' := fun g => w.heap.size ≤ g) (fun g h1 h2 => by omega)
 refine Rr (asS rfl) ?_
 refine Qg (ZJ ?_)
 refine ⟨_, ZF rfl rfl, ?_⟩
 exact ⟨_, _, rfl, (hown1.slA Jy).mono (fun g h1 h2 => by omega), hX⟩

theorem letter_ok (β : Prop) (c : UInt8) (w : World) : Ok Tryz.prog 133 #[.int .u8 (c.toNat : Int)] w fun v w' => v = .bool (letterB c) ∧ Ext β w w' := by
 refine ZQ 9 func133 rfl rfl rfl ?_
 have hX : Ext β w w := Bel.refl _ _
 refine QH (Qc ?_)
 refine Rr Zi ?_
 refine Qg (QH (Qc ?_))
 refine Rr (mvI rfl) ?_
 refine Rr (o_geq rfl rfl) ?_
 refine Rr (mvB rfl) ?_
 refine ZI 2 5 rfl rfl rfl (fun hg => (mvI rfl)) ?_
 refine ZI 2 5 rfl rfl rfl (fun hg => (o_leq (ZU (u := undef) hg) rfl)) ?_
 refine Rr (Jq (u := undef) rfl rfl) ?_
 refine Rr (asB rfl) ?_
 refine Qg (ZJ ?_)
 refine ⟨_, ZF rfl rfl, ?_⟩
 refine ⟨cvB ?_, hX⟩
 all_goals (rfl)

theorem inner_ok (β : Prop) (c : UInt8) (b : Nat) (w : World) (hb : At w b 0 [.func (.func 133) #[] #[]]) : Ok Tryz.prog 134 #[.int .u8 (c.toNat : Int), .pointer (some ⟨b, 0, none⟩)] w fun v w' => v = .bool (innerB c) ∧ Ext β w w' := by
 refine ZQ 19 func134 rfl rfl rfl ?_
 have hX : Ext β w w := Bel.refl _ _
 refine QH (Qc ?_)
 refine Rr Zi ?_
 refine Qg (QH (Qc ?_))
 refine Rr (ZB isAgg209 rfl (hb.get 0 rfl)) ?_
 refine Rr (mvI rfl) ?_
 refine ZC rfl (o_clo1 call133 rfl rfl) (Ok.mono (letter_ok (β) _ _) ?_)
 rintro _ w1 ⟨rfl, x2⟩
 replace hX := hX.ex x2
 refine Rr (mvB rfl) ?_
 refine ZI 3 7 rfl rfl rfl (fun hg => (mvI rfl)) ?_
 refine ZI 3 7 rfl rfl rfl (fun hg => (o_geq (ZU (u := undef) hg) rfl)) ?_
 refine ZI 3 7 rfl rfl rfl (fun hg => (Zt (v := .bool _) (ZU (u := undef) hg))) ?_
 refine JU 6 10 rfl rfl rfl (fun hg => (mvI rfl)) ?_
 refine JU 6 10 rfl rfl rfl (fun hg => (o_leq (ZU (u := undef) hg) rfl)) ?_
 refine ZI 3 7 rfl rfl rfl (fun hg => (Jq (u := undef) (ZU (u := undef) hg) (gand (u := undef) hg))) ?_
 refine Rr (JP (u := undef) rfl rfl) ?_
 refine Rr (mvB rfl) ?_
 refine ZI 11 15 rfl rfl rfl (fun hg => (mvI rfl)) ?_
 refine ZI 11 15 rfl rfl rfl (fun hg => (ZZ (ZU (u := undef) hg) rfl)) ?_
 refine Rr (JP (u := undef) rfl rfl) ?_
 refine Rr (asB rfl) ?_
 refine Qg (ZJ ?_)
 refine ⟨_, ZF rfl rfl, ?_⟩
 refine ⟨cvB ?_, hX⟩
 all_goals (rfl)

theorem rname_ok (β : Prop) (s : Str) (hs : s.length ≤ 4611686018427387904) (w : World) : Ok Tryz.prog 106 #[str s] w fun v w' => v = .bool (nmS s) ∧ Ext β w w' := by
 have hkl : keywordsS.length = 20 := rfl
 refine ZQ 68 func106 rfl rfl rfl ?_
 have hX : Ext β w w := Bel.refl _ _
 refine QH (Qc ?_)
 refine Rr Zi ?_
 refine Qg (QH (QH (Qc ?_)))
 refine Rr (Zt (v := str _) rfl) ?_
 refine Rr (J8 underlying9 rfl) ?_
 refine Rr (ZZ rfl rfl) ?_
 refine Rr (mvB rfl) ?_
 refine ZI 3 11 rfl rfl rfl (fun hg => (Zt (v := str _) rfl)) ?_
 refine ZI 3 11 rfl rfl rfl (fun hg => (J8 underlying9 (ZU (u := undef) hg))) ?_
 refine ZI 3 11 rfl rfl rfl (fun hg => (JY (ZU (u := undef) hg) rfl)) ?_
 refine Rr (JP (u := undef) rfl rfl) ?_
 refine Qg ?_
 refine ZG rfl (fun hc1 => ?_) (fun hc1 => ?_)
 ·first | replace hc1 := dcT hc1 | replace hc1 := JN hc1 | skip
  refine QH (Qc ?_)
  refine Rr Zi ?_
  refine Qg (ZJ ?_)
  refine ⟨_, ZF rfl rfl, ?_⟩
  refine ⟨cvB ?_, hX⟩
  all_goals (exact (nmS_pre hc1).symm)
 first | replace hc1 := dcF hc1 | replace hc1 := JO hc1 | skip
 refine ZH (QH (QH (Qc ?_)))
 refine Rr Zi ?_
 refine Qg (ZM ?_)
 refine Jk (α := Nat) [(2, 5), (16, 57)] (fun k => [(3, .int .i64 (k : Int))]) (fun k w' => (k ≤ s.length ∧ ∀ i, i < k → okAt s i = true) ∧ Ext β w w') (fun k => s.length - k) 0 ⟨rfl, trivial⟩ ⟨⟨by omega, fun i hi => absurd hi (Nat.not_lt_zero _)⟩, Bel.refl _ _⟩ ?_
 rintro k fb3 w2 ⟨⟨hk, hall⟩, hXL1⟩
 replace hX := hX.ex hXL1
 refine QH (QH (Qc ?_))
 refine Rr (mvI rfl) ?_
 refine Rr (Zt (v := str _) rfl) ?_
 refine Rr (J8 underlying9 rfl) ?_
 refine Rr (Z5 rfl rfl) ?_
 refine Qg ?_
 refine ZG rfl (fun hc2 => ?_) (fun hc2 => ?_)
 ·first | replace hc2 := dcT hc2 | replace hc2 := JN hc2 | skip
  refine ZH (QH (ZM (QH (Qc ?_))))
  refine Rr (Zt (v := str _) rfl) ?_
  refine Rr (mvI rfl) ?_
  refine Rr (o_sidx underlying9 rfl rfl (by omega)) ?_
  refine Rr (o_geq rfl rfl) ?_
  refine Rr (mvB rfl) ?_
  refine ZI 4 26 rfl rfl rfl (fun hg => (Zt (v := str _) rfl)) ?_
  refine ZI 4 26 rfl rfl rfl (fun hg => (mvI rfl)) ?_
  refine ZI 4 26 rfl rfl rfl (fun hg => (o_sidx underlying9 (ZU (u := undef) hg) (ZU (u := undef) hg) (by omega))) ?_
  refine ZI 4 26 rfl rfl rfl (fun hg => (o_leq (ZU (u := undef) hg) rfl)) ?_
  refine Rr (Jq (u := undef) rfl rfl) ?_
  refine Rr (asB rfl) ?_
  refine Qg (QH (Qc ?_))
  refine Rr (Zt (v := str _) rfl) ?_
  refine Rr (mvI rfl) ?_
  refine Rr (o_sidx underlying9 rfl rfl (by omega)) ?_
  refine Rr (o_geq rfl rfl) ?_
  refine Rr (mvB rfl) ?_
  refine ZI 4 36 rfl rfl rfl (fun hg => (Zt (v := str _) rfl)) ?_
  refine ZI 4 36 rfl rfl rfl (fun hg => (mvI rfl)) ?_
  refine ZI 4 36 rfl rfl rfl (fun hg => (o_sidx underlying9 (ZU (u := undef) hg) (ZU (u := undef) hg) (by omega))) ?_
  refine ZI 4 36 rfl rfl rfl (fun hg => (o_leq (ZU (u := undef) hg) rfl)) ?_
  refine Rr (Jq (u := undef) rfl rfl) ?_
  refine Rr (mvB rfl) ?_
  refine ZI 10 42 rfl rfl rfl (fun hg => (Zt (v := str _) rfl)) ?_
  refine ZI 10 42 rfl rfl rfl (fun hg => (mvI rfl)) ?_
  refine ZI 10 42 rfl rfl rfl (fun hg => (o_sidx underlying9 (ZU (u := undef) hg) (ZU (u := undef) hg) (by omega))) ?_
  refine ZI 10 42 rfl rfl rfl (fun hg => (ZZ (ZU (u := undef) hg) rfl)) ?_
  refine Rr (JP (u := undef) rfl rfl) ?_
  refine Rr (asB rfl) ?_
  refine Qg (QH (Qc ?_))
  refine Rr (mvB rfl) ?_
  refine Rr (Jf rfl) ?_
  refine Rr (mvB rfl) ?_
  refine ZI 2 50 rfl rfl rfl (fun hg => (mvI rfl)) ?_
  refine ZI 2 50 rfl rfl rfl (fun hg => (ZZ (ZU (u := undef) hg) rfl)) ?_
  refine ZI 2 50 rfl rfl rfl (fun hg => (Zt (v := .bool _) (ZU (u := undef) hg))) ?_
  refine JU 5 53 rfl rfl rfl (fun hg => (mvB rfl)) ?_
  refine JU 5 53 rfl rfl rfl (fun hg => (Jf (ZU (u := undef) hg))) ?_
  refine ZI 2 50 rfl rfl rfl (fun hg => (JP (u := undef) (ZU (u := undef) hg) (gand (u := undef) hg))) ?_
  refine Rr (Jq (u := undef) rfl rfl) ?_
  refine Qg ?_
  refine ZG rfl (fun hc3 => ?_) (fun hc3 => ?_)
  ·first | replace hc3 := dcT hc3 | replace hc3 := JN hc3 | skip
   refine QH (Qc ?_)
   refine Rr Zi ?_
   refine Qg (ZJ ?_)
   refine ⟨_, ZF rfl rfl, ?_⟩
   refine ⟨cvB ?_, hX⟩
   all_goals (exact (nmS_no (k := k) (by omega) (okAt_f hc3)).symm)
  first | replace hc3 := dcF hc3 | replace hc3 := JO hc3 | skip
  refine ZH (Qc ?_)
  refine Rr (mvI rfl) ?_
  refine Rr (Z1 rfl rfl omg) ?_
  refine Rr (asI rfl) ?_
  refine Qg ?_
  refine ⟨k + 1, ⟨sT, trivial⟩, oT, ⟨?_, hXL1⟩, ?_⟩
  ·exact ⟨by omega, okAt_succ hall (okAt_r hc3)⟩
  ·omega
 first | replace hc2 := dcF hc2 | replace hc2 := JO hc2 | skip
 refine Z4 (ZX (QH (QH (Qc ?_))))
 refine ZC rfl (o_call0 call136) (Ok.mono (rkw_ok (β) _) ?_)
 rintro _ w4 ⟨a58, c58, rfl, hs58, x5⟩
 replace hX := hX.ex x5
 refine Rr (Z0 underlying29 rfl) ?_
 refine Rr Jj ?_
 refine Qg (ZM ?_)
 refine Jk (α := Nat) [(2, 2), (7, 7), (60, 67)] (fun j => [(60, .int .i64 (j : Int))]) (fun j w' => (j ≤ keywordsS.length ∧ (keywordsS.take j).any (fun y => y == s) = false) ∧ Ext β w4 w') (fun j => keywordsS.length - j) 0 ⟨rfl, trivial⟩ ⟨⟨by omega, by simp⟩, Bel.refl _ _⟩ ?_
 rintro j fb8 w7 ⟨⟨hj, hany⟩, hXL6⟩
 replace hX := hX.ex hXL6
 replace hs58 := hs58.ext hXL6
 refine QH (Qc ?_)
 refine Rr (Z5 rfl rfl) ?_
 refine Qg (QH ?_)
 refine ZG rfl (fun hc4 => ?_) (fun hc4 => ?_)
 ·first | replace hc4 := dcT hc4 | replace hc4 := JN hc4 | skip
  refine ZH (QH (ZM (QH (Qc ?_))))
  refine Rr (Js underlying29 sizeOf9 hs58 rfl rfl omg) ?_
  refine Rr (Yf isAgg9 hs58 rfl rfl (getElem?_of (by first | omega | assumption)) rfl) ?_
  refine Rr (ZD (v := str _) rfl) ?_
  refine Qg (QH (Qc ?_))
  refine Rr (Zt (v := str _) rfl) ?_
  refine Rr (Zt (v := str _) rfl) ?_
  refine Rr (o_seql rfl rfl) ?_
  refine Qg ?_
  refine ZG rfl (fun hc5 => ?_) (fun hc5 => ?_)
  ·first | replace hc5 := dcT hc5 | replace hc5 := JN hc5 | skip
   refine QH (Qc ?_)
   refine Rr Zi ?_
   refine Qg (ZJ ?_)
   refine ⟨_, ZF rfl rfl, ?_⟩
   refine ⟨cvB ?_, hX⟩
   all_goals (exact (nmS_kw (kw_in (by omega) hc5)).symm)
  first | replace hc5 := dcF hc5 | replace hc5 := JO hc5 | skip
  refine ZH (Qc ?_)
  refine Rr (Z1 rfl rfl omg) ?_
  refine Rr (mvI rfl) ?_
  refine Qg ?_
  refine ⟨j + 1, ⟨sT, trivial⟩, oT, ⟨?_, hXL6⟩, ?_⟩
  ·exact ⟨by omega, anyT_succ (by omega) hany hc5⟩
  ·omega
 first | replace hc4 := dcF hc4 | replace hc4 := JO hc4 | skip
 refine Z4 (ZX (QH (Qc ?_)))
 refine Rr Zi ?_
 refine Qg (ZJ ?_)
 refine ⟨_, ZF rfl rfl, ?_⟩
 refine ⟨cvB ?_, hX⟩
 all_goals (rw [nmS_of (by omega) hk hall hc1, kw_out (by omega) hany]; rfl)

theorem name_ok (β : Prop) (s : Str) (hs : s.length ≤ 4611686018427387904) (w : World) : Ok Tryz.prog 103 #[str s] w fun v w' => v = .bool (nmS s) ∧ Ext β w w' := by
 refine ZQ 44 func103 rfl rfl rfl ?_
 have hX : Ext β w w := Bel.refl _ _
 refine QH (Qc ?_)
 refine Rr Zi ?_
 refine Qg (QH (QH (Qc ?_)))
 refine Rr (Zt (v := str _) rfl) ?_
 refine Rr (J8 underlying9 rfl) ?_
 refine Rr (ZZ rfl rfl) ?_
 refine Rr (mvB rfl) ?_
 refine ZI 3 9 rfl rfl rfl (fun hg => (Zt (v := str _) rfl)) ?_
 refine ZI 3 9 rfl rfl rfl (fun hg => (J8 underlying9 (ZU (u := undef) hg))) ?_
 refine ZI 3 9 rfl rfl rfl (fun hg => (JY (ZU (u := undef) hg) rfl)) ?_
 refine Rr (JP (u := undef) rfl rfl) ?_
 refine Rr (mvB rfl) ?_
 refine Rg_split 14 rfl (fun hs1 => ?_) (fun hs1 => ?_)
 ·refine ZR 8 14 rfl rfl (cvB hs1) rfl rfl ?_
  refine ZR 8 14 rfl rfl (cvB hs1) rfl rfl ?_
  refine ZR 8 14 rfl rfl (cvB hs1) rfl rfl ?_
  refine Rr (Jt (v := .bool _) (cvB hs1) rfl) ?_
  refine Qg ?_
  refine Jc rfl ?_
  refine QH (Qc ?_)
  refine Rr Zi ?_
  refine Qg (ZJ ?_)
  refine ⟨_, ZF rfl rfl, ?_⟩
  refine ⟨cvB ?_, hX⟩
  all_goals (exact (nmS_pre hs1).symm)
 refine ZP 8 14 rfl (cvB hs1) ?_
 refine ZC rfl (o_call0 call132) (Ok.mono (kw_ok (β) _) ?_)
 rintro _ w2 ⟨a15, c15, rfl, hs15, x3⟩
 replace hX := hX.ex x3
 refine ZP 8 14 rfl (cvB hs1) ?_
 refine Rr (Zt (v := str _) rfl) ?_
 refine ZP 8 14 rfl (cvB hs1) ?_
 refine ZC rfl (ZW call131 rfl rfl) (Ok.mono (scontains_ok (β) _ _ _ _ _ _ hs15) ?_)
 rintro _ w4 ⟨rfl, x5⟩
 replace hX := hX.ex x5
 refine Rr (Jo (v := .bool _) (cvB hs1) rfl) ?_
 refine Qg ?_
 refine ZG rfl (fun hc2 => ?_) (fun hc2 => ?_)
 ·first | replace hc2 := dcT hc2 | replace hc2 := JN hc2 | skip
  refine QH (Qc ?_)
  refine Rr Zi ?_
  refine Qg (ZJ ?_)
  refine ⟨_, ZF rfl rfl, ?_⟩
  refine ⟨cvB ?_, hX⟩
  all_goals (exact (nmS_kw hc2).symm)
 first | replace hc2 := dcF hc2 | replace hc2 := JO hc2 | skip
 refine ZH (QH (Qc ?_))
 refine Z8 rfl rfl zeroValue209 rfl sizeOf209 (fun _ => rfl) rfl rfl ?_
 intro b3 w6 x7 hge3 hb3
 replace hX := hX.ex x7
 refine Qg (QH (Qc ?_))
 refine Rr (o_fn1 rfl) ?_
 refine Rr (ZD (v := .func _ _ _) rfl) ?_
 refine Qg (QH (QH (Qc ?_)))
 refine Rr (Zt (v := str _) rfl) ?_
 refine Rr (J8 underlying9 rfl) ?_
 refine Rr Jj ?_
 refine Qg (ZM ?_)
 refine Jk (α := Nat) [(2, 2), (5, 5), (22, 43)] (fun k => [(22, .int .i64 (k : Int))]) (fun k w' => (k ≤ s.length ∧ ∀ i, i < k → okAt s i = true) ∧ Ext β w6 w') (fun k => s.length - k) 0 ⟨rfl, trivial⟩ ⟨⟨by omega, fun i hi => absurd hi (Nat.not_lt_zero _)⟩, Bel.refl _ _⟩ ?_
 rintro k fb10 w9 ⟨⟨hk, hall⟩, hXL8⟩
 replace hX := hX.ex hXL8
 replace hb3 := hb3.ext hXL8
 refine QH (Qc ?_)
 refine Rr (Z5 rfl rfl) ?_
 refine Qg (QH ?_)
 refine ZG rfl (fun hc3 => ?_) (fun hc3 => ?_)
 ·first | replace hc3 := dcT hc3 | replace hc3 := JN hc3 | skip
  refine ZH (QH (ZM (QH (Qc ?_))))
  refine Rr (mvI rfl) ?_
  refine Rr (asI rfl) ?_
  refine Qg (QH ?_)
  apply J3 (β := β) [peq _, peq _, peq _, peq _, peq _, peq _, peq _, peq _, peq _, peq _, peq _, peq _, peq _, peq _, peq _, peq _, peq _, peq _] 18 Jz (by kernel_rfl) rfl ⟨Zs _, Zs _, Zs _, Zs _, Zs _, Zs _, Zs _, Zs _, Zs _, Zs _, Zs _, Zs _, Zs _, Zs _, Zs _, Zs _, Zs _, Zs _, trivial⟩ ?ob8 ?fin8
  case ob8 =>
   refine ZA (fun w11 x12 => ?_) ?_
   ·refine Zv ?_
    exact ZT rfl (Zt (v := .func _ _ _) rfl)
   refine ZA (fun w13 x14 => ?_) ?_
   ·refine Zv ?_
    exact ZT rfl (Zt (v := str _) rfl)
   refine ZA (fun w15 x16 => ?_) ?_
   ·refine Zv ?_
    exact ZT rfl (mvI rfl)
   refine ZA (fun w17 x18 => ?_) ?_
   ·refine Qi (Qi (Zv ?_))
    exact ZT rfl (o_sidx underlying9 rfl rfl omg)
   refine ZA (fun w19 x20 => ?_) ?_
   ·have hb3 := hb3.ext x20
    refine Qi (Qi (Zv ?_))
    exact OpS_call rfl (o_clo1 call134 rfl rfl) (inner_ok (β) _ _ _ hb3.at)
   refine ZA (fun w21 x22 => ?_) ?_
   ·refine Qi (Zv ?_)
    exact ZT rfl (Jf rfl)
   refine ZA (fun w23 x24 => ?_) ?_
   ·refine Qi (Qi (Zv ?_))
    exact ZT rfl (mvB rfl)
   refine ZA (fun w25 x26 => ?_) ?_
   ·refine Qi (Zv ?_)
    exact Z9 6 31 rfl rfl (fun hg => (mvI rfl))
   refine ZA (fun w27 x28 => ?_) ?_
   ·refine Qi (Qi (Zv ?_))
    exact Z9 6 31 rfl rfl (fun hg => (ZZ (ZU (u := undef) hg) rfl))
   refine ZA (fun w29 x30 => ?_) ?_
   ·refine Qi (Qi (Qi (Zv ?_)))
    exact Z9 6 31 rfl rfl (fun hg => (Zt (v := .bool _) (ZU (u := undef) hg)))
   refine ZA (fun w31 x32 => ?_) ?_
   ·have hb3 := hb3.ext x32
    refine Qi (Zv ?_)
    exact Jg 9 34 rfl rfl (fun hg => (ZB isAgg209 rfl (hb3.at.get 0 rfl)))
   refine ZA (fun w33 x34 => ?_) ?_
   ·refine Qi (Zv ?_)
    exact Jg 9 34 rfl rfl (fun hg => (Zt (v := str _) rfl))
   refine ZA (fun w35 x36 => ?_) ?_
   ·refine Qi (Zv ?_)
    exact Jg 9 34 rfl rfl (fun hg => (mvI rfl))
   refine ZA (fun w37 x38 => ?_) ?_
   ·refine Qi (Qi (Qi (Zv ?_)))
    exact Jg 9 34 rfl rfl (fun hg => (o_sidx underlying9 (ZU (u := undef) hg) (ZU (u := undef) hg) omg))
   refine ZA (fun w39 x40 => ?_) ?_
   ·refine Qi (Qi (Qi (Qi (Zv ?_))))
    exact OpS_mayCall2 9 34 rfl rfl (fun hg => ⟨(o_clo1 call133 (ZU (u := undef) hg) (ZU (u := undef) hg)), letter_ok (β) _ _⟩)
   refine ZA (fun w41 x42 => ?_) ?_
   ·refine Qi (Qi (Zv ?_))
    exact Jg 9 34 rfl rfl (fun hg => (Jf (ZU (u := undef) hg)))
   refine ZA (fun w43 x44 => ?_) ?_
   ·refine Qi (Qi (Qi (Zv ?_)))
    exact Z9 6 31 rfl rfl (fun hg => (Jq (u := undef) (ZU (u := undef) hg) (gand (u := undef) hg)))
   refine ZA (fun w45 x46 => ?_) ?_
   ·refine Qi (Qi (Zv ?_))
    exact ZT rfl (JP (u := undef) rfl rfl)
   exact JG
  case fin8 =>
   intro w47 x48
   replace hX := hX.ex x48
   replace hXL8 := Bel.ex hXL8 x48
   refine Qi (Qi (Qi (Qi (Qi (Qi (Qi (Qi (Qi ?_))))))))
   refine Qi (Qi (Qi (Qi (Qi (Qi (Qi (Qi (Qi ?_))))))))
   refine Zv (Qg ?_)
   refine ZG rfl (fun hc4 => ?_) (fun hc4 => ?_)
   ·first | replace hc4 := dcT hc4 | replace hc4 := JN hc4 | skip
    refine QH (Qc ?_)
    refine Rr Zi ?_
    refine Qg (ZJ ?_)
    refine ⟨_, ZF rfl rfl, ?_⟩
    refine ⟨cvB ?_, hX⟩
    all_goals (exact (nmS_no (k := k) (by omega) (by rw [okAt, hc4]; rfl)).symm)
   first | replace hc4 := dcF hc4 | replace hc4 := JO hc4 | skip
   refine ZH (Qc ?_)
   refine Rr (Z1 rfl rfl omg) ?_
   refine Rr (mvI rfl) ?_
   refine Qg ?_
   refine ⟨k + 1, ⟨sT, trivial⟩, oT, ⟨?_, hXL8⟩, ?_⟩
   ·exact ⟨by omega, okAt_succ hall (by rw [okAt, hc4]; rfl)⟩
   ·omega
 first | replace hc3 := dcF hc3 | replace hc3 := JO hc3 | skip
 refine Z4 (ZX (QH (Qc ?_)))
 refine Rr Zi ?_
 refine Qg (ZJ ?_)
 refine ⟨_, ZF rfl rfl, ?_⟩
 refine ⟨cvB ?_, hX⟩
 all_goals (rw [nmS_of (by omega) hk hall hs1, hc2]; rfl)

