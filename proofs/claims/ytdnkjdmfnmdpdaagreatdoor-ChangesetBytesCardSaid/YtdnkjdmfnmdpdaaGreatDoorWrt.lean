/- Walks: what functions return. -/
import Derived.Test.YtdnkjdmfnmdpdaaGreatDoorWtx5
import Derived.Test.YtdnkjdmfnmdpdaaGreatDoorWend
import Derived.Test.YtdnkjdmfnmdpdaaGreatDoorRe
import Derived.Test.YtdnkjdmfnmdpdaaGreatDoorWref11d
set_option linter.unusedVariables false
set_option linter.unusedSimpArgs false
set_option linter.unnecessarySimpa false
namespace Go.Proofs.YtdnkjdmfnmdpdaaGreatDoor
open Go Go.Lx Go.RowKit Tryz
set_option maxRecDepth 100000
abbrev TbI (w : World) : Prop := Lib.TabIs Tryz.prog w "internal/strconv.uint64pow10" .u64 Lib.pow10Tab
theorem TbI.keep {γ : Prop} {D : Nat → Prop} {w w' : World} (h : TbI w) (x : Bel γ D w w') (hd : ¬ D 0) : TbI w' := tab_keep h (by kernel_rfl) x hd
theorem itoaT_ok (n : Int) (w : World) (h0 : 0 ≤ n) (h1 : n < 100000) (hT : TbI w) : Ok Tryz.prog 84 #[.int .i64 n] w fun v w' => v = str (dig n) ∧ Ext False w w' :=
 Calls.mono (Tryz.strconv_Itoa n (by omega) (by omega) w hT) fun e w' ⟨h2, k, os, h3⟩ => ⟨_, h2, by rw [itoa_dig h0]; rfl, by rw [h3]; exact grow_ext _ _ _⟩
theorem ctextT_ok (a : Option Addr) (c : Nat) (G : Nat → Prop) (X : List COp) (w : World) (hs : Sl encCo 8 G w a c X) (hv : ∀ x ∈ X, Vo x) (hn : X.length ≤ 100) (hT : TbI w) : Ok Tryz.prog 33 #[.agg #[.slice a X.length c]] w fun v w' => v = str (txtO X dig textS X.length) ∧ Ext False w w' :=
 ctextG_ok a c G X w hs (fun x hx => (hv x hx).ok) 100000 (by decide) (fun x hx => by have := (hv x hx).rng; omega) hn TbI (fun w w' h x => h.keep x id) (fun n w h0 h1 h => itoaT_ok n w h0 h1 h) hT
theorem dec_step (n : Nat) (hn : n < 100000) (w : World) (ih : ∀ (m : Nat) (w : World), m < n → Ok Tryz.prog 86 #[.int .i64 (m : Int)] w fun v w' => v = str (Lib.decDigits m) ∧ Ext False w w') : Ok Tryz.prog 86 #[.int .i64 (n : Int)] w fun v w' => v = str (Lib.decDigits n) ∧ Ext False w w' := by
 have hdl : (Lib.decDigits (n / 10)).length ≤ 5 := by have := dig_len5 (n := ((n / 10 : Nat) : Int)) (by omega); exact this
 have hdl2 : (Lib.decDigits (n % 10)).length ≤ 5 := by have := dig_len5 (n := ((n % 10 : Nat) : Int)) (by omega); exact this
 refine ZQ 16 func86 rfl rfl rfl ?_
 have hX := xRf w
 refine QH (Qc ?_)
 refine Rr Zi ?_
 refine Qg (QH (QH (Qc ?_)))
 refine Rr (mvI rfl) ?_
 refine Rr (Z5 rfl rfl) ?_
 refine Qg ?_
 refine ZG rfl (fun hc1 => ?_) (fun hc1 => ?_)
 ·have h10 : n < 10 := by have := dcT hc1; omega
  refine QH (Qc ?_)
  refine Rr (mvI rfl) ?_
  refine Rr (mvI rfl) ?_
  refine Rr (Jr (p := n) (b := 1) rfl rfl (by omega)) ?_
  refine Rr (o_sslice (i := n) (j := n + 1) underlying9 (rfl : _ = str digL) rfl rfl (by show n ≤ n + 1; omega) (by show n + 1 ≤ 10; omega)) ?_
  refine Rr (ZD (v := str _) rfl) ?_
  refine Qg (ZJ ?_)
  refine ⟨_, ZF rfl rfl, ?_⟩
  refine ⟨congrArg str ?_, hX⟩
  all_goals (exact dig_one h10)
 have h10 : ¬ n < 10 := by have := dcF hc1; omega
 refine ZH (QH (Qc ?_))
 refine Rr (mvI rfl) ?_
 refine Rr (o_quoN (a := n) (b := 10) rfl rfl (by decide) (by omega)) ?_
 refine ZC rfl (ZK call86 rfl) (Ok.mono (ih (n / 10) _ (by omega)) ?_)
 rintro _ w1 ⟨rfl, x2⟩
 replace hX := hX.ex x2
 refine Rr (mvI rfl) ?_
 refine Rr (Jp (a := n) (b := 10) rfl rfl (by decide) (by omega)) ?_
 refine ZC rfl (ZK call86 rfl) (Ok.mono (ih (n % 10) _ (by omega)) ?_)
 rintro _ w3 ⟨rfl, x4⟩
 replace hX := hX.ex x4
 refine Rr (Z3 rfl rfl (by omega)) ?_
 refine Rr (ZD (v := str _) rfl) ?_
 refine Qg (ZJ ?_)
 refine ⟨_, ZF rfl rfl, ?_⟩
 refine ⟨congrArg str ?_, hX⟩
 all_goals (exact (dig_more h10).symm)

theorem dec_ok : ∀ (n : Nat) (w : World), n < 100000 → Ok Tryz.prog 86 #[.int .i64 (n : Int)] w fun v w' => v = str (Lib.decDigits n) ∧ Ext False w w' := by
 intro n
 induction n using Nat.strongRecOn with
 | _ n ih => exact fun w hn => dec_step n hn w (fun m w hm => ih m hm w (by omega))
theorem decI_ok (n : Int) (w : World) (h0 : 0 ≤ n) (h1 : n < 100000) : Ok Tryz.prog 86 #[.int .i64 n] w fun v w' => v = str (dig n) ∧ Ext False w w' := by
 obtain ⟨i, rfl⟩ := Int.eq_ofNat_of_zero_le h0
 exact dec_ok i w (by omega)
set_option maxHeartbeats 2000000 in
theorem rtext50_ok (v0 : Value) (G0 : Nat → Prop) (l : List COp) (w : World) (hl : Rd encRo 8 G0 w v0 l) (hv : ∀ x ∈ l, Vo x) (hn : l.length ≤ 100) : Ok Tryz.prog 34 #[v0] w fun v w' => v = str (txtO l dig textS l.length) ∧ Ext False w w' := by
 obtain ⟨al, cl, rfl, hl⟩ := hl
 have ml := hl.len
 replace hl := hl.mono (F' := fun g => g < w.heap.size) (fun g h1 h2 => h1)
 refine ZQ 72 func34 rfl rfl rfl ?_
 have hX := xRf w
 refine QH (Qc ?_)
 refine Rr Zi ?_
 refine Qg (QH (Qc ?_))
 refine Rr Zi ?_
 refine Qg (QH (QH (Qc ?_)))
 refine Rr (mvS rfl) ?_
 refine Rr (Z0 underlying27 rfl) ?_
 refine Rr Jj ?_
 refine Qg (ZM ?_)
 refine Jk (α := Nat) [(3, 3), (5, 6), (9, 70)] (fun k => [(9, .int .i64 (k : Int)), (3, str (txtO l dig textS k))]) (fun k w' => (k ≤ l.length ∧ (txtO l dig textS k).length ≤ k * 3000000) ∧ Ext False w w') (fun k => l.length - k) 0 ⟨rfl, rfl, trivial⟩ ⟨⟨Nat.zero_le _, Nat.zero_le _⟩, Bel.refl _ _⟩ ?_
 rintro k fb3 w2 ⟨⟨hk, hOl⟩, hXL1⟩
 replace hX := hX.ex hXL1
 replace hl := hl.ext hXL1
 refine QH (Qc ?_)
 refine Rr (Z5 rfl rfl) ?_
 refine Qg (QH ?_)
 refine ZG rfl (fun hc1 => ?_) (fun hc1 => ?_)
 ·have hk1 : k < l.length := by have := dcT hc1; omega
  refine ZH (QH (ZM (QH (Qc ?_))))
  refine Rr (Js underlying27 sizeOf44 hl rfl rfl omg) ?_
  refine Rr (Jx isAgg44 sizeOf44 hl rfl (Jw coz hk1)) ?_
  refine Z8 rfl rfl zeroValue44 rfl sizeOf44 (fun _ => rfl) rfl rfl ?_
  intro b5 w4 x5 hge5 hb5
  change Box _ _ _ (encRo _) at hb5
  replace hX := hX.ex x5
  replace hXL1 := Bel.ex hXL1 x5
  refine Qg (QH (Qc ?_))
  refine Rr Zi ?_
  refine Qg (QH (QH (Qc ?_)))
  obtain ⟨o, ho⟩ : ∃ o, o = (l.getD k coz) := ⟨_, rfl⟩
  rw [← ho] at hb5
  have hvo : Vo o := hv o (ho ▸ gm hk1)
  have hop := hvo.ok
  have hr := hvo.rng
  have hl1 := dig_len5 (show o.a < 100000 by omega); have hl2 := dig_len5 (show o.b < 100000 by omega); have hl3 := dig_len5 (show o.u < 100000 by omega)
  have hl4 := textS_len o.p; have hop1 := hop.1; have hop2 := hop.2
  refine Rr (ZN underlying44 rfl sizeOf4 rfl) ?_
  refine Rr (ZB isAgg4 rfl (hb5.at.get 0 rfl)) ?_
  refine Qg ?_
  refine ZG rfl (fun hc2 => ?_) (fun hc2 => ?_)
  ·have hadd : o.add = true := hc2
   refine Qc ?_
   refine Rr Zi ?_
   refine Qg (QH (Qc ?_))
   refine Rr (ZN underlying44 rfl sizeOf3 rfl) ?_
   refine Rr (ZB isAgg3 rfl (hb5.at.get 1 rfl)) ?_
   refine Qg (ZM (QH (Qc ?_)))
   refine Rr (ZZ rfl rfl) ?_
   refine Rr (asB rfl) ?_
   refine Qg ?_
   refine ZG rfl (fun hc3 => ?_) (fun hc3 => ?_)
   ·have hk1' : o.k = 1 := eq_of_beq hc3
    apply JA (β := False) (fun _ => 0) [peqC _, peqC _, peqC _, peqC _, peqC _, peqC _, peqC _, peqC _, peqC _, peqC _, peqC _, peqC _, peqC _, peqC _, peqC _, peqC _, peqC _, peqC _, peqC _] [0, 0, 0, 0, 0, 0, 0, 0, 0, 0, 0, 0, 0, 0, 0, 0, 0, 0, 0] 19 Jz (by kernel_rfl) (by kernel_rfl) rfl ⟨Q4 _ _, Q4 _ _, Q4 _ _, Q4 _ _, Q4 _ _, Q4 _ _, Q4 _ _, Q4 _ _, Q4 _ _, Q4 _ _, Q4 _ _, Q4 _ _, Q4 _ _, Q4 _ _, Q4 _ _, Q4 _ _, Q4 _ _, Q4 _ _, Q4 _ _, trivial⟩ ?ob10 ?fin10
    case ob10 =>
     refine Zb (fun w6 c8 x7 hc09 hk10 => ?_) ?_
     ·replace x7 := RelG.ext0 x7
      refine QU ?_
      exact ZL rfl (Zt (v := str _) rfl)
     refine Zb (fun w11 c13 x12 hc014 hk15 => ?_) ?_
     ·replace x12 := RelG.ext0 x12
      refine QU ?_
      exact ZL rfl (Zt (v := str _) rfl)
     refine Zb (fun w16 c18 x17 hc019 hk20 => ?_) ?_
     ·replace x17 := RelG.ext0 x17
      refine Qk (QU ?_)
      exact ZL rfl (Z3 rfl rfl omg)
     refine Zb (fun w21 c23 x22 hc024 hk25 => ?_) ?_
     ·replace x22 := RelG.ext0 x22
      refine QU ?_
      exact ZL rfl (ZN underlying44 rfl sizeOf3 rfl)
     refine Zb (fun w26 c28 x27 hc029 hk30 => ?_) ?_
     ·replace x27 := RelG.ext0 x27
      have hb5 := hb5.ext x27
      refine Qk (QU ?_)
      exact ZL rfl (ZB isAgg3 rfl (hb5.at.get 2 rfl))
     refine Zb (fun w31 c33 x32 hc034 hk35 => ?_) ?_
     ·replace x32 := RelG.ext0 x32
      refine Qk (QU ?_)
      exact Jn rfl (ZK call86 rfl) (decI_ok o.a _ (by omega) (by omega))
     refine Zb (fun w36 c38 x37 hc039 hk40 => ?_) ?_
     ·replace x37 := RelG.ext0 x37
      refine Qk (Qk (QU ?_))
      exact ZL rfl (Z3 rfl rfl omg)
     refine Zb (fun w41 c43 x42 hc044 hk45 => ?_) ?_
     ·replace x42 := RelG.ext0 x42
      refine Qk (QU ?_)
      exact ZL rfl (Z3 rfl rfl omg)
     refine Zb (fun w46 c48 x47 hc049 hk50 => ?_) ?_
     ·replace x47 := RelG.ext0 x47
      refine QU ?_
      exact ZL rfl (ZN underlying44 rfl sizeOf3 rfl)
     refine Zb (fun w51 c53 x52 hc054 hk55 => ?_) ?_
     ·replace x52 := RelG.ext0 x52
      have hb5 := hb5.ext x52
      refine Qk (QU ?_)
      exact ZL rfl (ZB isAgg3 rfl (hb5.at.get 3 rfl))
     refine Zb (fun w56 c58 x57 hc059 hk60 => ?_) ?_
     ·replace x57 := RelG.ext0 x57
      refine Qk (Qk (QU ?_))
      exact Jn rfl (ZK call86 rfl) (decI_ok o.b _ (by omega) (by omega))
     refine Zb (fun w61 c63 x62 hc064 hk65 => ?_) ?_
     ·replace x62 := RelG.ext0 x62
      refine Qk (Qk (QU ?_))
      exact ZL rfl (Z3 rfl rfl omg)
     refine Zb (fun w66 c68 x67 hc069 hk70 => ?_) ?_
     ·replace x67 := RelG.ext0 x67
      refine Qk (QU ?_)
      exact ZL rfl (Z3 rfl rfl omg)
     refine Zb (fun w71 c73 x72 hc074 hk75 => ?_) ?_
     ·replace x72 := RelG.ext0 x72
      refine QU ?_
      exact ZL rfl (ZN underlying44 rfl sizeOf3 rfl)
     refine Zb (fun w76 c78 x77 hc079 hk80 => ?_) ?_
     ·replace x77 := RelG.ext0 x77
      have hb5 := hb5.ext x77
      refine Qk (QU ?_)
      exact ZL rfl (ZB isAgg3 rfl (hb5.at.get 4 rfl))
     refine Zb (fun w81 c83 x82 hc084 hk85 => ?_) ?_
     ·replace x82 := RelG.ext0 x82
      refine Qk (Qk (QU ?_))
      exact Jn rfl (ZK call86 rfl) (decI_ok o.u _ (by omega) (by omega))
     refine Zb (fun w86 c88 x87 hc089 hk90 => ?_) ?_
     ·replace x87 := RelG.ext0 x87
      refine Qk (Qk (QU ?_))
      exact ZL rfl (Z3 rfl rfl omg)
     refine Zb (fun w91 c93 x92 hc094 hk95 => ?_) ?_
     ·replace x92 := RelG.ext0 x92
      refine Qk (QU ?_)
      exact ZL rfl (Z3 rfl rfl omg)
     refine Zb (fun w96 c98 x97 hc099 hk100 => ?_) ?_
     ·replace x97 := RelG.ext0 x97
      refine Qk (Qk (QU ?_))
      exact ZL rfl (Z3 rfl rfl omg)
     exact Jv
    case fin10 =>
     intro w101 c103 x102 hc0104
     replace x102 := RelG.ext0 x102
     replace hX := hX.ex x102
     replace hXL1 := Bel.ex hXL1 x102
     refine Qk (Qk (Qk (Qk (Qk (Qk (Qk (Qk (Qk ?_))))))))
     refine Qk (Qk (Qk (Qk (Qk (Qk (Qk (Qk (Qk ?_))))))))
     refine Qk (QU ?_)
     refine Rr (ZD (v := str _) rfl) ?_
     refine Qg (Qc ?_)
     refine Rr (Z1 rfl rfl omg) ?_
     refine Rr (mvI rfl) ?_
     refine Qg ?_
     refine ⟨k + 1, ⟨sT, ?_, trivial⟩, oT, ⟨?_, hXL1⟩, ?_⟩
     ·show str _ = str _
      rw [JE hk1, ← ho]
      unfold lineO
      rw [if_pos hadd, if_pos hk1']
      simp [List.append_assoc]
     ·refine ⟨by omega, ?_⟩
      rw [JE hk1, ← ho, List.length_append]
      have : (lineO o dig textS).length ≤ 3000000 := Yc hl1 hl2 hl3 (by omega)
      omega
     ·omega
   have hk1' : ¬ o.k = 1 := ne_of_beq_false hc3
   refine QH (Qc ?_)
   refine Rr (ZZ rfl rfl) ?_
   refine Rr (asB rfl) ?_
   refine Qg ?_
   refine ZG rfl (fun hc4 => ?_) (fun hc4 => ?_)
   ·have hk2 : o.k = 2 := eq_of_beq hc4
    apply JA (β := False) (fun _ => 0) [peqC _, peqC _, peqC _, peqC _, peqC _, peqC _, peqC _, peqC _, peqC _, peqC _, peqC _, peqC _, peqC _, peqC _] [0, 0, 0, 0, 0, 0, 0, 0, 0, 0, 0, 0, 0, 0] 14 Jz (by kernel_rfl) (by kernel_rfl) rfl ⟨Q4 _ _, Q4 _ _, Q4 _ _, Q4 _ _, Q4 _ _, Q4 _ _, Q4 _ _, Q4 _ _, Q4 _ _, Q4 _ _, Q4 _ _, Q4 _ _, Q4 _ _, Q4 _ _, trivial⟩ ?ob12 ?fin12
    case ob12 =>
     refine Zb (fun w105 c107 x106 hc0108 hk109 => ?_) ?_
     ·replace x106 := RelG.ext0 x106
      refine QU ?_
      exact ZL rfl (Zt (v := str _) rfl)
     refine Zb (fun w110 c112 x111 hc0113 hk114 => ?_) ?_
     ·replace x111 := RelG.ext0 x111
      refine QU ?_
      exact ZL rfl (Zt (v := str _) rfl)
     refine Zb (fun w115 c117 x116 hc0118 hk119 => ?_) ?_
     ·replace x116 := RelG.ext0 x116
      refine Qk (QU ?_)
      exact ZL rfl (Z3 rfl rfl omg)
     refine Zb (fun w120 c122 x121 hc0123 hk124 => ?_) ?_
     ·replace x121 := RelG.ext0 x121
      refine QU ?_
      exact ZL rfl (ZN underlying44 rfl sizeOf3 rfl)
     refine Zb (fun w125 c127 x126 hc0128 hk129 => ?_) ?_
     ·replace x126 := RelG.ext0 x126
      have hb5 := hb5.ext x126
      refine Qk (QU ?_)
      exact ZL rfl (ZB isAgg3 rfl (hb5.at.get 2 rfl))
     refine Zb (fun w130 c132 x131 hc0133 hk134 => ?_) ?_
     ·replace x131 := RelG.ext0 x131
      refine Qk (QU ?_)
      exact Jn rfl (ZK call86 rfl) (decI_ok o.a _ (by omega) (by omega))
     refine Zb (fun w135 c137 x136 hc0138 hk139 => ?_) ?_
     ·replace x136 := RelG.ext0 x136
      refine Qk (Qk (QU ?_))
      exact ZL rfl (Z3 rfl rfl omg)
     refine Zb (fun w140 c142 x141 hc0143 hk144 => ?_) ?_
     ·replace x141 := RelG.ext0 x141
      refine Qk (QU ?_)
      exact ZL rfl (Z3 rfl rfl omg)
     refine Zb (fun w145 c147 x146 hc0148 hk149 => ?_) ?_
     ·replace x146 := RelG.ext0 x146
      refine QU ?_
      exact ZL rfl (ZN underlying44 rfl sizeOf42 rfl)
     refine Zb (fun w150 c152 x151 hc0153 hk154 => ?_) ?_
     ·replace x151 := RelG.ext0 x151
      have hb5 := hb5.ext x151
      refine Qk (QU ?_)
      exact ZL rfl (ZO isAgg42 sizeOf42 rfl (hb5.at.sub 5 3) rfl)
     refine Zb (fun w155 c157 x156 hc0158 hk159 => ?_) ?_
     ·replace x156 := RelG.ext0 x156
      refine Qk (Qk (QU ?_))
      exact Jn rfl (ZK call87 rfl) (rtext_ok _ o.p hop)
     refine Zb (fun w160 c162 x161 hc0163 hk164 => ?_) ?_
     ·replace x161 := RelG.ext0 x161
      refine Qk (Qk (QU ?_))
      exact ZL rfl (Z3 rfl rfl omg)
     refine Zb (fun w165 c167 x166 hc0168 hk169 => ?_) ?_
     ·replace x166 := RelG.ext0 x166
      refine Qk (QU ?_)
      exact ZL rfl (Z3 rfl rfl omg)
     refine Zb (fun w170 c172 x171 hc0173 hk174 => ?_) ?_
     ·replace x171 := RelG.ext0 x171
      refine Qk (Qk (QU ?_))
      exact ZL rfl (Z3 rfl rfl omg)
     exact Jv
    case fin12 =>
     intro w175 c177 x176 hc0178
     replace x176 := RelG.ext0 x176
     replace hX := hX.ex x176
     replace hXL1 := Bel.ex hXL1 x176
     refine Qk (Qk (Qk (Qk (Qk (Qk (Qk (Qk (Qk ?_))))))))
     refine Qk (Qk (Qk (Qk (Qk (QU ?_)))))
     refine Rr (ZD (v := str _) rfl) ?_
     refine Qg (Qc ?_)
     refine Rr (Z1 rfl rfl omg) ?_
     refine Rr (mvI rfl) ?_
     refine Qg ?_
     refine ⟨k + 1, ⟨sT, ?_, trivial⟩, oT, ⟨?_, hXL1⟩, ?_⟩
     ·show str _ = str _
      rw [JE hk1, ← ho]
      unfold lineO
      rw [if_pos hadd, if_neg hk1', if_pos hk2]
      simp [List.append_assoc]
     ·refine ⟨by omega, ?_⟩
      rw [JE hk1, ← ho, List.length_append]
      have : (lineO o dig textS).length ≤ 3000000 := Yc hl1 hl2 hl3 (by omega)
      omega
     ·omega
   have hk2 : ¬ o.k = 2 := ne_of_beq_false hc4
   refine QH (Qc ?_)
   refine Rr (ZZ rfl rfl) ?_
   refine Rr (asB rfl) ?_
   refine Qg ?_
   refine Jc (cvB (beq_iff_eq.2 (show o.k = 3 by omega))) ?_
   apply JA (β := False) (fun _ => 0) [peqC _, peqC _, peqC _, peqC _, peqC _, peqC _, peqC _, peqC _, peqC _, peqC _, peqC _, peqC _, peqC _, peqC _] [0, 0, 0, 0, 0, 0, 0, 0, 0, 0, 0, 0, 0, 0] 14 Jz (by kernel_rfl) (by kernel_rfl) rfl ⟨Q4 _ _, Q4 _ _, Q4 _ _, Q4 _ _, Q4 _ _, Q4 _ _, Q4 _ _, Q4 _ _, Q4 _ _, Q4 _ _, Q4 _ _, Q4 _ _, Q4 _ _, Q4 _ _, trivial⟩ ?ob14 ?fin14
   case ob14 =>
    refine Zb (fun w179 c181 x180 hc0182 hk183 => ?_) ?_
    ·replace x180 := RelG.ext0 x180
     refine QU ?_
     exact ZL rfl (Zt (v := str _) rfl)
    refine Zb (fun w184 c186 x185 hc0187 hk188 => ?_) ?_
    ·replace x185 := RelG.ext0 x185
     refine QU ?_
     exact ZL rfl (Zt (v := str _) rfl)
    refine Zb (fun w189 c191 x190 hc0192 hk193 => ?_) ?_
    ·replace x190 := RelG.ext0 x190
     refine Qk (QU ?_)
     exact ZL rfl (Z3 rfl rfl omg)
    refine Zb (fun w194 c196 x195 hc0197 hk198 => ?_) ?_
    ·replace x195 := RelG.ext0 x195
     refine QU ?_
     exact ZL rfl (ZN underlying44 rfl sizeOf3 rfl)
    refine Zb (fun w199 c201 x200 hc0202 hk203 => ?_) ?_
    ·replace x200 := RelG.ext0 x200
     have hb5 := hb5.ext x200
     refine Qk (QU ?_)
     exact ZL rfl (ZB isAgg3 rfl (hb5.at.get 2 rfl))
    refine Zb (fun w204 c206 x205 hc0207 hk208 => ?_) ?_
    ·replace x205 := RelG.ext0 x205
     refine Qk (QU ?_)
     exact Jn rfl (ZK call86 rfl) (decI_ok o.a _ (by omega) (by omega))
    refine Zb (fun w209 c211 x210 hc0212 hk213 => ?_) ?_
    ·replace x210 := RelG.ext0 x210
     refine Qk (Qk (QU ?_))
     exact ZL rfl (Z3 rfl rfl omg)
    refine Zb (fun w214 c216 x215 hc0217 hk218 => ?_) ?_
    ·replace x215 := RelG.ext0 x215
     refine Qk (QU ?_)
     exact ZL rfl (Z3 rfl rfl omg)
    refine Zb (fun w219 c221 x220 hc0222 hk223 => ?_) ?_
    ·replace x220 := RelG.ext0 x220
     refine QU ?_
     exact ZL rfl (ZN underlying44 rfl sizeOf3 rfl)
    refine Zb (fun w224 c226 x225 hc0227 hk228 => ?_) ?_
    ·replace x225 := RelG.ext0 x225
     have hb5 := hb5.ext x225
     refine Qk (QU ?_)
     exact ZL rfl (ZB isAgg3 rfl (hb5.at.get 3 rfl))
    refine Zb (fun w229 c231 x230 hc0232 hk233 => ?_) ?_
    ·replace x230 := RelG.ext0 x230
     refine Qk (Qk (QU ?_))
     exact Jn rfl (ZK call86 rfl) (decI_ok o.b _ (by omega) (by omega))
    refine Zb (fun w234 c236 x235 hc0237 hk238 => ?_) ?_
    ·replace x235 := RelG.ext0 x235
     refine Qk (Qk (QU ?_))
     exact ZL rfl (Z3 rfl rfl omg)
    refine Zb (fun w239 c241 x240 hc0242 hk243 => ?_) ?_
    ·replace x240 := RelG.ext0 x240
     refine Qk (QU ?_)
     exact ZL rfl (Z3 rfl rfl omg)
    refine Zb (fun w244 c246 x245 hc0247 hk248 => ?_) ?_
    ·replace x245 := RelG.ext0 x245
     refine Qk (Qk (QU ?_))
     exact ZL rfl (Z3 rfl rfl omg)
    exact Jv
   case fin14 =>
    intro w249 c251 x250 hc0252
    replace x250 := RelG.ext0 x250
    replace hX := hX.ex x250
    replace hXL1 := Bel.ex hXL1 x250
    refine Qk (Qk (Qk (Qk (Qk (Qk (Qk (Qk (Qk ?_))))))))
    refine Qk (Qk (Qk (Qk (Qk (QU ?_)))))
    refine Rr (ZD (v := str _) rfl) ?_
    refine Qg (Qc ?_)
    refine Rr (Z1 rfl rfl omg) ?_
    refine Rr (mvI rfl) ?_
    refine Qg ?_
    refine ⟨k + 1, ⟨sT, ?_, trivial⟩, oT, ⟨?_, hXL1⟩, ?_⟩
    ·show str _ = str _
     rw [JE hk1, ← ho]
     unfold lineO
     rw [if_pos hadd, if_neg hk1', if_neg hk2]
     simp [List.append_assoc]
    ·refine ⟨by omega, ?_⟩
     rw [JE hk1, ← ho, List.length_append]
     have : (lineO o dig textS).length ≤ 3000000 := Yc hl1 hl2 hl3 (by omega)
     omega
    ·omega
  have hadd : o.add = false := hc2
  refine ZH (QH (Qc ?_))
  refine Rr (ZN underlying44 rfl sizeOf3 rfl) ?_
  refine Rr (ZB isAgg3 rfl (hb5.at.get 1 rfl)) ?_
  refine Qg (ZM (QH (Qc ?_)))
  refine Rr (ZZ rfl rfl) ?_
  refine Rr (asB rfl) ?_
  refine Qg ?_
  refine ZG rfl (fun hc6 => ?_) (fun hc6 => ?_)
  ·have hk1' : o.k = 1 := eq_of_beq hc6
   apply JA (β := False) (fun _ => 0) [peqC _, peqC _, peqC _, peqC _, peqC _, peqC _, peqC _, peqC _, peqC _, peqC _, peqC _, peqC _, peqC _, peqC _, peqC _, peqC _, peqC _, peqC _, peqC _] [0, 0, 0, 0, 0, 0, 0, 0, 0, 0, 0, 0, 0, 0, 0, 0, 0, 0, 0] 19 Jz (by kernel_rfl) (by kernel_rfl) rfl ⟨Q4 _ _, Q4 _ _, Q4 _ _, Q4 _ _, Q4 _ _, Q4 _ _, Q4 _ _, Q4 _ _, Q4 _ _, Q4 _ _, Q4 _ _, Q4 _ _, Q4 _ _, Q4 _ _, Q4 _ _, Q4 _ _, Q4 _ _, Q4 _ _, Q4 _ _, trivial⟩ ?ob10 ?fin10
   case ob10 =>
    refine Zb (fun w253 c255 x254 hc0256 hk257 => ?_) ?_
    ·replace x254 := RelG.ext0 x254
     refine QU ?_
     exact ZL rfl (Zt (v := str _) rfl)
    refine Zb (fun w258 c260 x259 hc0261 hk262 => ?_) ?_
    ·replace x259 := RelG.ext0 x259
     refine QU ?_
     exact ZL rfl (Zt (v := str _) rfl)
    refine Zb (fun w263 c265 x264 hc0266 hk267 => ?_) ?_
    ·replace x264 := RelG.ext0 x264
     refine Qk (QU ?_)
     exact ZL rfl (Z3 rfl rfl omg)
    refine Zb (fun w268 c270 x269 hc0271 hk272 => ?_) ?_
    ·replace x269 := RelG.ext0 x269
     refine QU ?_
     exact ZL rfl (ZN underlying44 rfl sizeOf3 rfl)
    refine Zb (fun w273 c275 x274 hc0276 hk277 => ?_) ?_
    ·replace x274 := RelG.ext0 x274
     have hb5 := hb5.ext x274
     refine Qk (QU ?_)
     exact ZL rfl (ZB isAgg3 rfl (hb5.at.get 2 rfl))
    refine Zb (fun w278 c280 x279 hc0281 hk282 => ?_) ?_
    ·replace x279 := RelG.ext0 x279
     refine Qk (QU ?_)
     exact Jn rfl (ZK call86 rfl) (decI_ok o.a _ (by omega) (by omega))
    refine Zb (fun w283 c285 x284 hc0286 hk287 => ?_) ?_
    ·replace x284 := RelG.ext0 x284
     refine Qk (Qk (QU ?_))
     exact ZL rfl (Z3 rfl rfl omg)
    refine Zb (fun w288 c290 x289 hc0291 hk292 => ?_) ?_
    ·replace x289 := RelG.ext0 x289
     refine Qk (QU ?_)
     exact ZL rfl (Z3 rfl rfl omg)
    refine Zb (fun w293 c295 x294 hc0296 hk297 => ?_) ?_
    ·replace x294 := RelG.ext0 x294
     refine QU ?_
     exact ZL rfl (ZN underlying44 rfl sizeOf3 rfl)
    refine Zb (fun w298 c300 x299 hc0301 hk302 => ?_) ?_
    ·replace x299 := RelG.ext0 x299
     have hb5 := hb5.ext x299
     refine Qk (QU ?_)
     exact ZL rfl (ZB isAgg3 rfl (hb5.at.get 3 rfl))
    refine Zb (fun w303 c305 x304 hc0306 hk307 => ?_) ?_
    ·replace x304 := RelG.ext0 x304
     refine Qk (Qk (QU ?_))
     exact Jn rfl (ZK call86 rfl) (decI_ok o.b _ (by omega) (by omega))
    refine Zb (fun w308 c310 x309 hc0311 hk312 => ?_) ?_
    ·replace x309 := RelG.ext0 x309
     refine Qk (Qk (QU ?_))
     exact ZL rfl (Z3 rfl rfl omg)
    refine Zb (fun w313 c315 x314 hc0316 hk317 => ?_) ?_
    ·replace x314 := RelG.ext0 x314
     refine Qk (QU ?_)
     exact ZL rfl (Z3 rfl rfl omg)
    refine Zb (fun w318 c320 x319 hc0321 hk322 => ?_) ?_
    ·replace x319 := RelG.ext0 x319
     refine QU ?_
     exact ZL rfl (ZN underlying44 rfl sizeOf3 rfl)
    refine Zb (fun w323 c325 x324 hc0326 hk327 => ?_) ?_
    ·replace x324 := RelG.ext0 x324
     have hb5 := hb5.ext x324
     refine Qk (QU ?_)
     exact ZL rfl (ZB isAgg3 rfl (hb5.at.get 4 rfl))
    refine Zb (fun w328 c330 x329 hc0331 hk332 => ?_) ?_
    ·replace x329 := RelG.ext0 x329
     refine Qk (Qk (QU ?_))
     exact Jn rfl (ZK call86 rfl) (decI_ok o.u _ (by omega) (by omega))
    refine Zb (fun w333 c335 x334 hc0336 hk337 => ?_) ?_
    ·replace x334 := RelG.ext0 x334
     refine Qk (Qk (QU ?_))
     exact ZL rfl (Z3 rfl rfl omg)
    refine Zb (fun w338 c340 x339 hc0341 hk342 => ?_) ?_
    ·replace x339 := RelG.ext0 x339
     refine Qk (QU ?_)
     exact ZL rfl (Z3 rfl rfl omg)
    refine Zb (fun w343 c345 x344 hc0346 hk347 => ?_) ?_
    ·replace x344 := RelG.ext0 x344
     refine Qk (Qk (QU ?_))
     exact ZL rfl (Z3 rfl rfl omg)
    exact Jv
   case fin10 =>
    intro w348 c350 x349 hc0351
    replace x349 := RelG.ext0 x349
    replace hX := hX.ex x349
    replace hXL1 := Bel.ex hXL1 x349
    refine Qk (Qk (Qk (Qk (Qk (Qk (Qk (Qk (Qk ?_))))))))
    refine Qk (Qk (Qk (Qk (Qk (Qk (Qk (Qk (Qk ?_))))))))
    refine Qk (QU ?_)
    refine Rr (ZD (v := str _) rfl) ?_
    refine Qg (Qc ?_)
    refine Rr (Z1 rfl rfl omg) ?_
    refine Rr (mvI rfl) ?_
    refine Qg ?_
    refine ⟨k + 1, ⟨sT, ?_, trivial⟩, oT, ⟨?_, hXL1⟩, ?_⟩
    ·show str _ = str _
     rw [JE hk1, ← ho]
     unfold lineO
     rw [if_neg (by rw [hadd]; simp), if_pos hk1']
     simp [List.append_assoc]
    ·refine ⟨by omega, ?_⟩
     rw [JE hk1, ← ho, List.length_append]
     have : (lineO o dig textS).length ≤ 3000000 := Yc hl1 hl2 hl3 (by omega)
     omega
    ·omega
  have hk1' : ¬ o.k = 1 := ne_of_beq_false hc6
  refine QH (Qc ?_)
  refine Rr (ZZ rfl rfl) ?_
  refine Rr (asB rfl) ?_
  refine Qg ?_
  refine ZG rfl (fun hc7 => ?_) (fun hc7 => ?_)
  ·have hk2 : o.k = 2 := eq_of_beq hc7
   apply JA (β := False) (fun _ => 0) [peqC _, peqC _, peqC _, peqC _, peqC _, peqC _, peqC _, peqC _, peqC _, peqC _, peqC _, peqC _, peqC _, peqC _] [0, 0, 0, 0, 0, 0, 0, 0, 0, 0, 0, 0, 0, 0] 14 Jz (by kernel_rfl) (by kernel_rfl) rfl ⟨Q4 _ _, Q4 _ _, Q4 _ _, Q4 _ _, Q4 _ _, Q4 _ _, Q4 _ _, Q4 _ _, Q4 _ _, Q4 _ _, Q4 _ _, Q4 _ _, Q4 _ _, Q4 _ _, trivial⟩ ?ob12 ?fin12
   case ob12 =>
    refine Zb (fun w352 c354 x353 hc0355 hk356 => ?_) ?_
    ·replace x353 := RelG.ext0 x353
     refine QU ?_
     exact ZL rfl (Zt (v := str _) rfl)
    refine Zb (fun w357 c359 x358 hc0360 hk361 => ?_) ?_
    ·replace x358 := RelG.ext0 x358
     refine QU ?_
     exact ZL rfl (Zt (v := str _) rfl)
    refine Zb (fun w362 c364 x363 hc0365 hk366 => ?_) ?_
    ·replace x363 := RelG.ext0 x363
     refine Qk (QU ?_)
     exact ZL rfl (Z3 rfl rfl omg)
    refine Zb (fun w367 c369 x368 hc0370 hk371 => ?_) ?_
    ·replace x368 := RelG.ext0 x368
     refine QU ?_
     exact ZL rfl (ZN underlying44 rfl sizeOf3 rfl)
    refine Zb (fun w372 c374 x373 hc0375 hk376 => ?_) ?_
    ·replace x373 := RelG.ext0 x373
     have hb5 := hb5.ext x373
     refine Qk (QU ?_)
     exact ZL rfl (ZB isAgg3 rfl (hb5.at.get 2 rfl))
    refine Zb (fun w377 c379 x378 hc0380 hk381 => ?_) ?_
    ·replace x378 := RelG.ext0 x378
     refine Qk (QU ?_)
     exact Jn rfl (ZK call86 rfl) (decI_ok o.a _ (by omega) (by omega))
    refine Zb (fun w382 c384 x383 hc0385 hk386 => ?_) ?_
    ·replace x383 := RelG.ext0 x383
     refine Qk (Qk (QU ?_))
     exact ZL rfl (Z3 rfl rfl omg)
    refine Zb (fun w387 c389 x388 hc0390 hk391 => ?_) ?_
    ·replace x388 := RelG.ext0 x388
     refine Qk (QU ?_)
     exact ZL rfl (Z3 rfl rfl omg)
    refine Zb (fun w392 c394 x393 hc0395 hk396 => ?_) ?_
    ·replace x393 := RelG.ext0 x393
     refine QU ?_
     exact ZL rfl (ZN underlying44 rfl sizeOf42 rfl)
    refine Zb (fun w397 c399 x398 hc0400 hk401 => ?_) ?_
    ·replace x398 := RelG.ext0 x398
     have hb5 := hb5.ext x398
     refine Qk (QU ?_)
     exact ZL rfl (ZO isAgg42 sizeOf42 rfl (hb5.at.sub 5 3) rfl)
    refine Zb (fun w402 c404 x403 hc0405 hk406 => ?_) ?_
    ·replace x403 := RelG.ext0 x403
     refine Qk (Qk (QU ?_))
     exact Jn rfl (ZK call87 rfl) (rtext_ok _ o.p hop)
    refine Zb (fun w407 c409 x408 hc0410 hk411 => ?_) ?_
    ·replace x408 := RelG.ext0 x408
     refine Qk (Qk (QU ?_))
     exact ZL rfl (Z3 rfl rfl omg)
    refine Zb (fun w412 c414 x413 hc0415 hk416 => ?_) ?_
    ·replace x413 := RelG.ext0 x413
     refine Qk (QU ?_)
     exact ZL rfl (Z3 rfl rfl omg)
    refine Zb (fun w417 c419 x418 hc0420 hk421 => ?_) ?_
    ·replace x418 := RelG.ext0 x418
     refine Qk (Qk (QU ?_))
     exact ZL rfl (Z3 rfl rfl omg)
    exact Jv
   case fin12 =>
    intro w422 c424 x423 hc0425
    replace x423 := RelG.ext0 x423
    replace hX := hX.ex x423
    replace hXL1 := Bel.ex hXL1 x423
    refine Qk (Qk (Qk (Qk (Qk (Qk (Qk (Qk (Qk ?_))))))))
    refine Qk (Qk (Qk (Qk (Qk (QU ?_)))))
    refine Rr (ZD (v := str _) rfl) ?_
    refine Qg (Qc ?_)
    refine Rr (Z1 rfl rfl omg) ?_
    refine Rr (mvI rfl) ?_
    refine Qg ?_
    refine ⟨k + 1, ⟨sT, ?_, trivial⟩, oT, ⟨?_, hXL1⟩, ?_⟩
    ·show str _ = str _
     rw [JE hk1, ← ho]
     unfold lineO
     rw [if_neg (by rw [hadd]; simp), if_neg hk1', if_pos hk2]
     simp [List.append_assoc]
    ·refine ⟨by omega, ?_⟩
     rw [JE hk1, ← ho, List.length_append]
     have : (lineO o dig textS).length ≤ 3000000 := Yc hl1 hl2 hl3 (by omega)
     omega
    ·omega
  have hk2 : ¬ o.k = 2 := ne_of_beq_false hc7
  refine QH (Qc ?_)
  refine Rr (ZZ rfl rfl) ?_
  refine Rr (asB rfl) ?_
  refine Qg ?_
  refine Jc (cvB (beq_iff_eq.2 (show o.k = 3 by omega))) ?_
  apply JA (β := False) (fun _ => 0) [peqC _, peqC _, peqC _, peqC _, peqC _, peqC _, peqC _, peqC _, peqC _, peqC _, peqC _, peqC _, peqC _, peqC _] [0, 0, 0, 0, 0, 0, 0, 0, 0, 0, 0, 0, 0, 0] 14 Jz (by kernel_rfl) (by kernel_rfl) rfl ⟨Q4 _ _, Q4 _ _, Q4 _ _, Q4 _ _, Q4 _ _, Q4 _ _, Q4 _ _, Q4 _ _, Q4 _ _, Q4 _ _, Q4 _ _, Q4 _ _, Q4 _ _, Q4 _ _, trivial⟩ ?ob14 ?fin14
  case ob14 =>
   refine Zb (fun w426 c428 x427 hc0429 hk430 => ?_) ?_
   ·replace x427 := RelG.ext0 x427
    refine QU ?_
    exact ZL rfl (Zt (v := str _) rfl)
   refine Zb (fun w431 c433 x432 hc0434 hk435 => ?_) ?_
   ·replace x432 := RelG.ext0 x432
    refine QU ?_
    exact ZL rfl (Zt (v := str _) rfl)
   refine Zb (fun w436 c438 x437 hc0439 hk440 => ?_) ?_
   ·replace x437 := RelG.ext0 x437
    refine Qk (QU ?_)
    exact ZL rfl (Z3 rfl rfl omg)
   refine Zb (fun w441 c443 x442 hc0444 hk445 => ?_) ?_
   ·replace x442 := RelG.ext0 x442
    refine QU ?_
    exact ZL rfl (ZN underlying44 rfl sizeOf3 rfl)
   refine Zb (fun w446 c448 x447 hc0449 hk450 => ?_) ?_
   ·replace x447 := RelG.ext0 x447
    have hb5 := hb5.ext x447
    refine Qk (QU ?_)
    exact ZL rfl (ZB isAgg3 rfl (hb5.at.get 2 rfl))
   refine Zb (fun w451 c453 x452 hc0454 hk455 => ?_) ?_
   ·replace x452 := RelG.ext0 x452
    refine Qk (QU ?_)
    exact Jn rfl (ZK call86 rfl) (decI_ok o.a _ (by omega) (by omega))
   refine Zb (fun w456 c458 x457 hc0459 hk460 => ?_) ?_
   ·replace x457 := RelG.ext0 x457
    refine Qk (Qk (QU ?_))
    exact ZL rfl (Z3 rfl rfl omg)
   refine Zb (fun w461 c463 x462 hc0464 hk465 => ?_) ?_
   ·replace x462 := RelG.ext0 x462
    refine Qk (QU ?_)
    exact ZL rfl (Z3 rfl rfl omg)
   refine Zb (fun w466 c468 x467 hc0469 hk470 => ?_) ?_
   ·replace x467 := RelG.ext0 x467
    refine QU ?_
    exact ZL rfl (ZN underlying44 rfl sizeOf3 rfl)
   refine Zb (fun w471 c473 x472 hc0474 hk475 => ?_) ?_
   ·replace x472 := RelG.ext0 x472
    have hb5 := hb5.ext x472
    refine Qk (QU ?_)
    exact ZL rfl (ZB isAgg3 rfl (hb5.at.get 3 rfl))
   refine Zb (fun w476 c478 x477 hc0479 hk480 => ?_) ?_
   ·replace x477 := RelG.ext0 x477
    refine Qk (Qk (QU ?_))
    exact Jn rfl (ZK call86 rfl) (decI_ok o.b _ (by omega) (by omega))
   refine Zb (fun w481 c483 x482 hc0484 hk485 => ?_) ?_
   ·replace x482 := RelG.ext0 x482
    refine Qk (Qk (QU ?_))
    exact ZL rfl (Z3 rfl rfl omg)
   refine Zb (fun w486 c488 x487 hc0489 hk490 => ?_) ?_
   ·replace x487 := RelG.ext0 x487
    refine Qk (QU ?_)
    exact ZL rfl (Z3 rfl rfl omg)
   refine Zb (fun w491 c493 x492 hc0494 hk495 => ?_) ?_
   ·replace x492 := RelG.ext0 x492
    refine Qk (Qk (QU ?_))
    exact ZL rfl (Z3 rfl rfl omg)
   exact Jv
  case fin14 =>
   intro w496 c498 x497 hc0499
   replace x497 := RelG.ext0 x497
   replace hX := hX.ex x497
   replace hXL1 := Bel.ex hXL1 x497
   refine Qk (Qk (Qk (Qk (Qk (Qk (Qk (Qk (Qk ?_))))))))
   refine Qk (Qk (Qk (Qk (Qk (QU ?_)))))
   refine Rr (ZD (v := str _) rfl) ?_
   refine Qg (Qc ?_)
   refine Rr (Z1 rfl rfl omg) ?_
   refine Rr (mvI rfl) ?_
   refine Qg ?_
   refine ⟨k + 1, ⟨sT, ?_, trivial⟩, oT, ⟨?_, hXL1⟩, ?_⟩
   ·show str _ = str _
    rw [JE hk1, ← ho]
    unfold lineO
    rw [if_neg (by rw [hadd]; simp), if_neg hk1', if_neg hk2]
    simp [List.append_assoc]
   ·refine ⟨by omega, ?_⟩
    rw [JE hk1, ← ho, List.length_append]
    have : (lineO o dig textS).length ≤ 3000000 := Yc hl1 hl2 hl3 (by omega)
    omega
   ·omega
 have hk1 : ¬ k < l.length := by have := dcF hc1; omega
 refine Z4 (ZX (QH (Qc ?_)))
 refine Rr (Zt (v := str _) rfl) ?_
 refine Rr (ZD (v := str _) rfl) ?_
 refine Qg (ZJ ?_)
 refine ⟨_, ZF rfl rfl, ?_⟩
 refine ⟨congrArg str ?_, hX⟩
 all_goals (rw [show k = l.length by omega])

theorem rinv50_ok (v0 : Value) (G0 : Nat → Prop) (l : List COp) (w : World) (hl : Rd encRo 8 G0 w v0 l) (hok : ∀ x ∈ l, x.p.ok) (hn : l.length ≤ 10000) : Ok Tryz.prog 36 #[v0] w fun v w' => Own encRo 8 44 (Fsh w w') w' v (invO l) ∧ Ext False w w' := by
 obtain ⟨al, cl, rfl, hl⟩ := hl
 have ml := hl.len
 replace hl := hl.mono (F' := fun g => g < w.heap.size) (fun g h1 h2 => h1)
 refine ZQ 20 func36 rfl rfl rfl ?_
 have hX := xRf w
 refine QH (Qc ?_)
 refine Rr Zi ?_
 refine Qg (QH (Qc ?_))
 refine Rr Zi ?_
 refine Qg (QH (QH (Qc ?_)))
 refine Rr (mvS rfl) ?_
 refine Rr (Z0 underlying27 rfl) ?_
 refine Rr Jj ?_
 refine Qg (ZM ?_)
 refine Jk (α := Nat × Value) [(3, 3), (5, 5), (8, 17)] (fun q => [(8, .int .i64 (q.1 : Int)), (3, q.2)]) (fun q w' => (q.1 ≤ l.length) ∧ Bel False (fun g => w.heap.size ≤ g) w w' ∧ (Own encRo 8 44 (fun g => w.heap.size ≤ g) w' q.2 ((l.take q.1).map flipO))) (fun q => l.length - q.1) (0, .slice none 0 0) ⟨rfl, rfl, trivial⟩ ⟨Nat.zero_le _, Bel.refl _ _, Own.nil _ _⟩ ?_
 rintro ⟨k, t⟩ fb3 w2 ⟨hk, hXL1, hown3⟩
 dsimp only at *
 have z4 := Bel.size hXL1
 replace hX := Bel.out hX hXL1 om2
 replace hl := hl.keep hXL1 om3
 refine QH (Qc ?_)
 refine Rr (Z5 rfl rfl) ?_
 refine Qg (QH ?_)
 refine ZG rfl (fun hc1 => ?_) (fun hc1 => ?_)
 ·have hk1 : k < l.length := by have := dcT hc1; omega
  refine ZH (QH (ZM (QH (Qc ?_))))
  refine Rr (Js underlying27 sizeOf44 hl rfl rfl omg) ?_
  refine Rr (Jx isAgg44 sizeOf44 hl rfl (Jw coz hk1)) ?_
  refine Z8 rfl rfl zeroValue44 rfl sizeOf44 (fun _ => rfl) rfl rfl ?_
  intro b5 w5 x6 hge5 hb5
  have hlt5 := hb5.lt
  change Box _ _ _ (encRo _) at hb5
  have z7 := x6.size
  replace hX := hX.ex x6
  replace hXL1 := Bel.ex hXL1 x6
  replace hown3 := hown3.ext x6
  refine Qg (Qc ?_)
  refine Rr (Zt (v := t) rfl) ?_
  refine Rr (ZO isAgg44 sizeOf44 rfl hb5.at rfl) ?_
  refine ZC rfl (ZK call63 rfl) (Ok.mono (rflip_ok _ _) ?_)
  rintro _ w8 ⟨rfl, x9⟩
  have z10 := x9.size
  replace hX := hX.ex x9
  replace hXL1 := Bel.ex hXL1 x9
  replace hown3 := hown3.ext x9
  refine Jh (vs := [.agg _]) ([flipO (l.getD k coz)]) rfl ZV JW rfl rfl ⟨rfl, trivial⟩ rfl rfl rfl rfl ?_
  intro a15 w11 x12 hown15
  have z13 := x12.size
  replace hX := hX.ex x12
  replace hXL1 := Bel.ex hXL1 x12
  replace hown3 := hown3.ext x12
  replace hown15 := hown15.mono (D' := fun g => w.heap.size ≤ g) (fun g h1 h2 => by omega)
  refine Jd rfl ZV JW rfl rfl hown3 (hown15.slA ZV) rfl (by rw [List.length_singleton, List.length_map, List.length_take]; omega) omU ?_
  intro v16 w14 x15 hown3
  have z16 := x15.size
  replace hX := Bel.out hX x15 om2
  replace hXL1 := Bel.out hXL1 x15 om2
  refine Rr (ZD (v := v16) rfl) ?_
  refine Qg (Qc ?_)
  refine Rr (Z1 rfl rfl omg) ?_
  refine Rr (mvI rfl) ?_
  refine Qg ?_
  refine ⟨(k + 1, v16), ⟨sT, sT, trivial⟩, oT, ⟨?_, hXL1, ?_⟩, ?_⟩
  ·show k + 1 ≤ l.length; omega
  ·show Own _ _ _ _ _ _ ((l.take (k + 1)).map flipO)
   rw [mapT (z := coz) hk1]; exact hown3.mono (fun g h1 h2 => by omega)
  ·show l.length - (k + 1) < l.length - k; omega
 have hk1 : ¬ k < l.length := by have := dcF hc1; omega
 refine Z4 (ZX (QH (Qc ?_)))
 rw [List.take_of_length_le (by omega)] at hown3
 refine Rr (Zt (v := t) rfl) ?_
 refine ZC rfl (ZK call57 rfl) (Ok.mono (rsorted_ok _ _ (l.map flipO) (hown3.trd ZV) (by rw [List.length_map]; omega) (fun x hx => by obtain ⟨y, hy, rfl⟩ := List.mem_map.1 hx; exact hok y hy)) ?_)
 rintro v19 w17 ⟨hown19, x18⟩
 have z19 := x18.size
 replace hX := hX.ex x18
 replace hown19 := hown19.mono (D' := fun g => w.heap.size ≤ g) (fun g h1 h2 => by omega)
 refine Rr (ZD (v := v19) rfl) ?_
 refine Qg (ZJ ?_)
 refine ⟨_, ZF rfl rfl, ?_⟩
 exact ⟨hown19.mono (fun g h1 h2 => by omega), hX⟩

