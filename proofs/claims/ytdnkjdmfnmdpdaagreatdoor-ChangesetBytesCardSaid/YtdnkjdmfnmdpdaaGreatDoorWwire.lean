/- Walks: what functions return. -/
import Derived.Test.YtdnkjdmfnmdpdaaGreatDoorSe
import Derived.Test.YtdnkjdmfnmdpdaaGreatDoorOwn3
import Derived.Test.YtdnkjdmfnmdpdaaGreatDoorTz
import Derived.Test.YtdnkjdmfnmdpdaaGreatDoorWct
import Derived.Test.YtdnkjdmfnmdpdaaGreatDoorRe
set_option linter.unusedVariables false
set_option linter.unusedSimpArgs false
set_option linter.unnecessarySimpa false
namespace Go.Proofs.YtdnkjdmfnmdpdaaGreatDoor
open Go Go.Lx Go.RowKit Tryz
set_option maxRecDepth 100000
theorem Ya : ElT Tryz.prog 22 5 1 1 (.int .u8 0) := ⟨underlying22, ⟨Tryz.t5, by kernel_rfl, rfl, rfl, rfl⟩, rfl, by decide, by decide⟩
theorem bclone_ok (v0 : Value) (G : Nat → Prop) (l : List UInt8) (w : World) (hl : Rd encB 1 G w v0 l) (hn : l.length ≤ 100000000) : Ok Tryz.prog 115 #[v0] w fun v w' => Own encB 1 5 (Fsh w w') w' v l ∧ Ext False w w' := by
 obtain ⟨a, c, rfl, hl⟩ := hl
 replace hl := hl.mono (F' := fun g => G g ∧ g < w.heap.size) (fun g h1 h2 => ⟨h2, h1⟩)
 refine ZQ 8 func115 rfl rfl rfl ?_
 have hX := xRf w
 refine QH (Qc ?_)
 refine Rr Zi ?_
 refine Qg (QH (QH (Qc ?_)))
 refine Rr (mvS rfl) ?_
 refine Rr (o_lnil underlying22 rfl) ?_
 refine Qg ?_
 refine ZG rfl (fun hc1 => ?_) (fun hc1 => ?_)
 ·have hnl := sl_none hl hc1; subst hnl
  refine QH (Qc ?_)
  refine Rr Zi ?_
  refine Qg (ZJ ?_)
  refine ⟨_, ZF rfl rfl, ?_⟩
  exact ⟨Own.nil _ _, hX⟩
 refine ZH (QH (Qc ?_))
 refine Jh (vs := []) (([] : List UInt8)) rfl Z6 Ya rfl rfl trivial rfl rfl rfl rfl ?_
 intro a5 w1 x2 hown5
 have z3 := x2.size
 replace hX := hX.ex x2
 replace hl := hl.ext x2
 replace hown5 := hown5.mono (D' := fun g => w.heap.size ≤ g) (fun g h1 h2 => by omega)
 refine Rr (mvS rfl) ?_
 refine Jd rfl Z6 Ya rfl rfl hown5 hl rfl (by simp; omega) omU ?_
 intro v7 w4 x5 hown5
 have z6 := x5.size
 replace hX := Bel.out hX x5 om2
 refine Rr (ZD (v := v7) rfl) ?_
 refine Qg (ZJ ?_)
 refine ⟨_, ZF rfl rfl, ?_⟩
 rw [List.nil_append] at hown5; exact ⟨hown5.mono (fun g h1 h2 => by omega), hX⟩

theorem brev_ok (v0 : Value) (D : Nat → Prop) (l : List UInt8) (w : World) (ho : Own encB 1 5 D w v0 l) (hl : l.length ≤ 1000000) : Ok Tryz.prog 159 #[v0] w fun v w' => v = .tuple #[] ∧ Own encB 1 5 D w' v0 l.reverse ∧ Bel True D w w' := by
 obtain ⟨a, c, rfl, -⟩ := ho.sl Z6
 refine ZQ 28 func159 rfl rfl rfl ?_
 have hX : Bel True (D) w w := Bel.refl _ _
 refine QH (Qc ?_)
 refine Rr (mvS rfl) ?_
 refine Rr (Z0 underlying22 rfl) ?_
 refine Rr (o_sub rfl rfl omg) ?_
 refine Rr Zi ?_
 refine Rr (asI rfl) ?_
 refine Qg (ZM ?_)
 refine Jk (α := Nat × Nat × List UInt8) [(2, 3), (7, 27)] (fun q => [(2, .int .i64 (q.1 : Int)), (3, .int .i64 ((q.2.1 : Int) - 1))]) (fun q w' => (q.1 + q.2.1 = l.length ∧ RevI l q.2.2 q.1) ∧ Bel True (fun g => D g) w w' ∧ (Own encB 1 5 (fun g => D g) w' (.slice a l.length c) q.2.2)) (fun q => q.2.1) (0, l.length, l) ⟨rfl, rfl, trivial⟩ ⟨⟨by simp, RevI.start l⟩, Bel.refl _ _, ho⟩ ?_
 rintro ⟨i, j1, m⟩ fb3 w2 ⟨⟨hij0, hI⟩, hXL1, ho⟩
 dsimp only at *
 have z4 := Bel.size hXL1
 replace hX := Bel.out hX hXL1 (fun g h1 h2 => by first | exact h2 | (subst h2; exact hDg0) | omega)
 refine QH (QH (Qc ?_))
 refine Rr (mvI rfl) ?_
 refine Rr (mvI rfl) ?_
 refine Rr (Z5 rfl rfl) ?_
 refine Qg ?_
 refine ZG rfl (fun hc1 => ?_) (fun hc1 => ?_)
 ·replace hc1 := dcT hc1
  obtain ⟨j, rfl⟩ : ∃ j, j1 = j + 1 := ⟨j1 - 1, by omega⟩
  have hij : i < j := by omega
  have hml := hI.len
  rw [show (((j + 1 : Nat) : Int) - 1) = (j : Int) by omega]
  refine ZH (QH (ZM ?_))
  obtain ⟨g0, hg0, hDg0, hq⟩ := ho.blk0 (by intro e; rw [e] at hml; simp at hml; omega)
  apply JA (β := True) (fun b => if b = g0 then 1 else 0) [peqC _, peqC _, peqC _, peqC _, peqC _, peqC _, peqC _, peqC _, peqC _, peqC _, peqC _, peqC _, peqC _, (postOwnAt encB 1 5 1 (.slice a l.length c) (m.set i (m.getD j 0)))] [0, 0, 0, 0, 0, 0, 0, 0, 0, 0, 0, 0, 0, 1] 14 Jz (by kernel_rfl) (by kernel_rfl) rfl ⟨Q4 _ _, Q4 _ _, Q4 _ _, Q4 _ _, Q4 _ _, Q4 _ _, Q4 _ _, Q4 _ _, Q4 _ _, Q4 _ _, Q4 _ _, Q4 _ _, Q4 _ _, (postOwnAt_stable), trivial⟩ ?ob3 ?fin3
  case ob3 =>
   refine Zb (fun w5 c7 x6 hc08 hk9 => ?_) ?_
   ·replace x6 := Bel.mono x6 (D' := fun g => g = g0) omC
    have z10 := x6.size
    refine QU ?_
    exact ZL rfl (mvS rfl)
   refine Zb (fun w11 c13 x12 hc014 hk15 => ?_) ?_
   ·replace x12 := Bel.mono x12 (D' := fun g => g = g0) omC
    have z16 := x12.size
    refine QU ?_
    exact ZL rfl (mvI rfl)
   refine Zb (fun w17 c19 x18 hc020 hk21 => ?_) ?_
   ·replace x18 := Bel.mono x18 (D' := fun g => g = g0) omC
    have z22 := x18.size
    refine QU ?_
    exact ZL rfl (mvS rfl)
   refine Zb (fun w23 c25 x24 hc026 hk27 => ?_) ?_
   ·replace x24 := Bel.mono x24 (D' := fun g => g = g0) omC
    have z28 := x24.size
    refine QU ?_
    exact ZL rfl (mvI rfl)
   refine Zb (fun w29 c31 x30 hc032 hk33 => ?_) ?_
   ·replace x30 := Bel.mono x30 (D' := fun g => g = g0) omC
    have z34 := x30.size
    refine QU ?_
    exact ZL rfl (mvS rfl)
   refine Zb (fun w35 c37 x36 hc038 hk39 => ?_) ?_
   ·replace x36 := Bel.mono x36 (D' := fun g => g = g0) omC
    have z40 := x36.size
    refine QU ?_
    exact ZL rfl (mvI rfl)
   refine Zb (fun w41 c43 x42 hc044 hk45 => ?_) ?_
   ·replace x42 := Bel.mono x42 (D' := fun g => g = g0) omC
    have z46 := x42.size
    have hq := hq.blk (hk45 1 (by decide) (by kernel_rfl) _ hq.lt (by first | (simp [colAt]; done) | (simp [colAt]; omega)))
    refine Qk (Qk (QU ?_))
    exact ZL rfl (o_iaO (i := j) underlying22 sizeOf5 hq.1 rfl rfl (by omega))
   refine Zb (fun w47 c49 x48 hc050 hk51 => ?_) ?_
   ·replace x48 := Bel.mono x48 (D' := fun g => g = g0) omC
    have z52 := x48.size
    have hq := hq.blk (hk51 1 (by decide) (by kernel_rfl) _ hq.lt (by first | (simp [colAt]; done) | (simp [colAt]; omega)))
    refine Qk (QU ?_)
    exact ZL rfl (Yf isAgg5 ((show Own encB 1 5 (fun b => b = g0) _ (.slice a m.length c) m by rw [hml]; exact hq.1).slA Z6) rfl rfl (Jw 0 (by omega)) rfl)
   refine Zb (fun w53 c55 x54 hc056 hk57 => ?_) ?_
   ·replace x54 := Bel.mono x54 (D' := fun g => g = g0) omC
    have z58 := x54.size
    refine QU ?_
    exact ZL rfl (mvS rfl)
   refine Zb (fun w59 c61 x60 hc062 hk63 => ?_) ?_
   ·replace x60 := Bel.mono x60 (D' := fun g => g = g0) omC
    have z64 := x60.size
    refine QU ?_
    exact ZL rfl (mvI rfl)
   refine Zb (fun w65 c67 x66 hc068 hk69 => ?_) ?_
   ·replace x66 := Bel.mono x66 (D' := fun g => g = g0) omC
    have z70 := x66.size
    have hq := hq.blk (hk69 1 (by decide) (by kernel_rfl) _ hq.lt (by first | (simp [colAt]; done) | (simp [colAt]; omega)))
    refine Qk (Qk (QU ?_))
    exact ZL rfl (o_iaO (i := i) underlying22 sizeOf5 hq.1 rfl rfl (by omega))
   refine Zb (fun w71 c73 x72 hc074 hk75 => ?_) ?_
   ·replace x72 := Bel.mono x72 (D' := fun g => g = g0) omC
    have z76 := x72.size
    have hq := hq.blk (hk75 1 (by decide) (by kernel_rfl) _ hq.lt (by first | (simp [colAt]; done) | (simp [colAt]; omega)))
    refine Qk (QU ?_)
    exact ZL rfl (Yf isAgg5 ((show Own encB 1 5 (fun b => b = g0) _ (.slice a m.length c) m by rw [hml]; exact hq.1).slA Z6) rfl rfl (Jw 0 (by omega)) rfl)
   refine Zb (fun w77 c79 x78 hc080 hk81 => ?_) ?_
   ·replace x78 := Bel.mono x78 (D' := fun g => g = g0) omC
    have z82 := x78.size
    have hq := hq.blk (hk81 1 (by decide) (by kernel_rfl) _ hq.lt (by first | (simp [colAt]; done) | (simp [colAt]; omega)))
    refine Qk (Qk (Qk (Qk (Qk (Qk (Qk (Qk (Qk ?_))))))))
    refine QU ?_
    exact ZL rfl (o_iaO (i := i) underlying22 sizeOf5 hq.1 rfl rfl (by omega))
   refine Zb (fun w83 c85 x84 hc086 hk87 => ?_) ?_
   ·replace x84 := Bel.mono x84 (D' := fun g => g = g0) omC
    have z88 := x84.size
    refine Qk (Qk (Qk (Qk (Qk (Qk (Qk (Qk (Qk ?_))))))))
    refine QU ?_
    exact OpC_elst (kc := 1) (i := i) (u := m.getD j 0) (by decide) Z6 sizeOf5 rfl rfl rfl ((hq.blk (hk87 1 (by decide) (by kernel_rfl) _ hq.lt (by first | (simp [colAt]; done) | (simp [colAt]; omega)))).col ((hc086 g0 hq.lt).trans (by first | (simp [colAt]; done) | (simp [colAt]; omega)))) (by omega)
   exact Jv
  case fin3 =>
   intro w89 c91 x90 hc092
   replace x90 := Bel.mono x90 (D' := fun g => g = g0) omC
   have z93 := x90.size
   replace hX := Bel.out hX x90 (fun g h1 h2 => by first | exact h2 | (subst h2; exact hDg0) | omega)
   replace hXL1 := Bel.out hXL1 x90 (fun g h1 h2 => by first | exact h2 | (subst h2; exact hDg0) | omega)
   refine Qk (Qk (Qk (Qk (Qk (Qk (Qk (Qk (Qk ?_))))))))
   refine Qk (Qk (Qk (Qk ?_)))
   refine bindC_lk rfl (fun hst13 => ?_)
   refine QU ?_
   change Own _ _ _ _ _ _ _ at hst13
   have ho := hst13.at (D' := D) (fun g h1 h2 => by rw [hg0] at h2; cases h2; exact hDg0)
   refine Rr (o_iaO (i := j) underlying22 sizeOf5 ho rfl rfl (by omega)) ?_
   refine Rg_elst (u := (m.getD i 0)) rfl Z6 sizeOf5 rfl rfl rfl ho (by rw [List.length_set]; omega) ?_
   intro w94 x95 ho
   have z96 := x95.size
   replace hX := Bel.out hX x95 (fun g h1 h2 => by first | exact h2 | (subst h2; exact hDg0) | omega)
   replace hXL1 := Bel.out hXL1 x95 (fun g h1 h2 => by first | exact h2 | (subst h2; exact hDg0) | omega)
   refine Qg (Qc ?_)
   refine Rr (mvI rfl) ?_
   refine Rr (Z1 rfl rfl omg) ?_
   refine Rr (mvI rfl) ?_
   refine Rr (o_sub rfl rfl omg) ?_
   refine Rr (asI rfl) ?_
   refine Rr (asI rfl) ?_
   refine Qg ?_
   refine ⟨(i + 1, j, (m.set i (m.getD j 0)).set j (m.getD i 0)), ⟨sT, ?_, trivial⟩, oT, ⟨?_, hXL1, ?_⟩, ?_⟩
   ·first | rfl | (exact congrArg _ (by omega)) | (show Value.int .i64 ((j : Int) - 1) = .int .i64 ((j : Int) - 1); rfl)
   ·exact ⟨by show i + 1 + j = l.length; omega, hI.step (by omega) hij⟩
   ·exact ho
   ·show j < j + 1; omega
 replace hc1 := dcF hc1
 refine Z4 (ZX ?_)
 refine ⟨_, res_none rfl, ?_⟩
 have e := hI.fin (by omega)
 rw [← e]; exact ⟨rfl, ho, hX⟩

theorem wgrp_ok (x : W64) (w : World) : Ok Tryz.prog 123 #[u64 x] w fun v w' => Own encB 1 5 (Fsh w w') w' v (putU x) ∧ Ext False w w' := by
 have hgl := gT_len (x >>> 7) 10 (by have := (x >>> 7).isLt; omega)
 refine ZQ 24 func123 rfl rfl rfl ?_
 have hX := xRf w
 refine QH (Qc ?_)
 refine Rr Zi ?_
 refine Qg (QH (Qc ?_))
 refine Rr (mvI rfl) ?_
 refine Rr (o_band (b := BitVec.ofNat 64 127) rfl rfl) ?_
 refine Rr (o_convUB underlying30 underlying5 rfl) ?_
 refine Jh (vs := [.int _ _]) ([b7 x]) rfl Z6 Ya rfl rfl ⟨rfl, trivial⟩ rfl rfl rfl rfl ?_
 intro a7 w1 x2 hown7
 have z3 := x2.size
 replace hX := hX.ex x2
 replace hown7 := hown7.mono (D' := fun g => w.heap.size ≤ g) (fun g h1 h2 => by omega)
 refine Rr (asS rfl) ?_
 refine Qg (QH (QH (Qc ?_)))
 refine Rr (mvI rfl) ?_
 refine Rr (o_shrU (n := 7) rfl rfl omg) ?_
 refine Rr (asI rfl) ?_
 refine Qg (ZM ?_)
 refine Jk (α := W64 × List UInt8 × Value) [(0, 0), (3, 3), (10, 20)] (fun q => [(0, u64 q.1), (3, q.2.2)]) (fun q w' => (q.2.1 ++ gT q.1 = gT (x >>> 7)) ∧ Bel False (fun g => w.heap.size ≤ g) w1 w' ∧ (Own encB 1 5 (fun g => w.heap.size ≤ g) w' q.2.2 (b7 x :: q.2.1))) (fun q => q.1.toNat) (x >>> 7, [], .slice a7 1 1) ⟨rfl, rfl, trivial⟩ ⟨rfl, Bel.refl _ _, hown7⟩ ?_
 rintro ⟨y, l, u⟩ fb6 w5 ⟨hI, hXL4, hown⟩
 dsimp only at *
 have z7 := Bel.size hXL4
 replace hX := Bel.out hX hXL4 om2
 refine QH (QH (Qc ?_))
 refine Rr (mvI rfl) ?_
 refine Rr (JY rfl rfl) ?_
 refine Qg ?_
 refine ZG rfl (fun hc1 => ?_) (fun hc1 => ?_)
 ·replace hc1 := dcT hc1
  have hy0 : y ≠ 0 := fun h => by subst h; simp at hc1
  refine ZH (QH (ZM (Qc ?_)))
  refine Rr (Zt (v := u) rfl) ?_
  refine Rr (mvI rfl) ?_
  refine Rr (o_band (b := BitVec.ofNat 64 127) rfl rfl) ?_
  refine Rr (o_convUB underlying30 underlying5 rfl) ?_
  refine Rr (o_borB (a := b7 y) (b := 128) rfl rfl) ?_
  refine Jh (vs := [.int _ _]) ([b7 y ||| 128]) rfl Z6 Ya rfl rfl ⟨rfl, trivial⟩ rfl rfl rfl rfl ?_
  intro a19 w8 x9 hown19
  have z10 := x9.size
  replace hX := hX.ex x9
  replace hXL4 := Bel.ex hXL4 x9
  replace hown := hown.ext x9
  replace hown19 := hown19.mono (D' := fun g => w.heap.size ≤ g) (fun g h1 h2 => by omega)
  refine Jd rfl Z6 Ya rfl rfl hown (hown19.slA Z6) rfl (by have := congrArg List.length hI; simp at *; omega) omU ?_
  intro v20 w11 x12 hown
  have z13 := x12.size
  replace hX := Bel.out hX x12 om2
  replace hXL4 := Bel.out hXL4 x12 om2
  refine Rr (ZD (v := v20) rfl) ?_
  refine Qg (Qc ?_)
  refine Rr (mvI rfl) ?_
  refine Rr (o_shrU (n := 7) rfl rfl omg) ?_
  refine Rr (asI rfl) ?_
  refine Qg ?_
  refine ⟨(y >>> 7, l ++ [b7 y ||| 128], v20), ⟨sT, sT, trivial⟩, oT, ⟨?_, hXL4, ?_⟩, ?_⟩
  ·show (l ++ [b7 y ||| 128]) ++ gT (y >>> 7) = _; rw [List.append_assoc, List.singleton_append, ← gT_some hy0]; exact hI
  ·exact hown
  ·exact shr7_lt hy0
 replace hc1 := dcF hc1
 have hy0 : y = 0 := BitVec.eq_of_toNat_eq (by simp; omega)
 refine Z4 (ZX (QH (Qc ?_)))
 refine Rr (Zt (v := u) rfl) ?_
 refine ZC rfl (ZK call159 rfl) (Ok.mono (brev_ok _ _ _ _ hown (by have := congrArg List.length hI; simp at *; omega)) ?_)
 rintro _ w14 ⟨rfl, hown, x15⟩
 have z16 := x15.size
 replace hX := Bel.out hX x15 om2
 refine Qg (QH (Qc ?_))
 refine Rr (Zt (v := u) rfl) ?_
 refine Rr (ZD (v := u) rfl) ?_
 refine Qg (ZJ ?_)
 refine ⟨_, ZF rfl rfl, ?_⟩
 rw [hy0, gT_zero, List.append_nil] at hI
 rw [putU, ← hI]
 exact ⟨hown.mono (fun g h1 h2 => by omega), hX⟩

theorem wnew_ok (w : World) : Ok Tryz.prog 79 #[] w fun v w' => Wr 200 5 (Fsh w w') w' v [] ∧ Ext False w w' := by
 refine ZQ 3 func79 rfl rfl rfl ?_
 have hX := xRf w
 refine QH (Qc ?_)
 refine Rr Zi ?_
 refine Qg (QH (Qc ?_))
 refine Rr (Z7 (cells := [.slice none 0 0]) (vs := []) rfl (by kernel_rfl)) ?_
 refine Z2 rfl (JB (v := .agg _) rfl) ?_
 intro b2 w1 x2 hge2 hb2
 have hlt2 := hb2.lt
 have z3 := x2.size
 replace hX := hX.ex x2
 refine Rr (ZD (v := .pointer _) rfl) ?_
 refine Qg (ZJ ?_)
 refine ⟨_, ZF rfl rfl, ?_⟩
 change Box _ _ _ [.slice none 0 0] at hb2
 exact ⟨⟨b2, _, rfl, ⟨by omega, hb2.lt⟩, hb2, Own.nil _ _⟩, hX⟩

theorem wraw_ok (v0 : Value) (D : Nat → Prop) (l : List UInt8) (v1 : Value) (G : Nat → Prop) (y : List UInt8) (w : World) (hw0 : Wr 200 5 D w v0 l) (hU : ∀ g, w.heap.size ≤ g → D g) (hy : Rd encB 1 G w v1 y) (hn : l.length + y.length ≤ 100000000) : Ok Tryz.prog 122 #[v0, v1] w fun v w' => v = .tuple #[] ∧ Wr 200 5 D w' v0 (l ++ y) ∧ Bel False D w w' := by
 obtain ⟨b, u, rfl, hDb, hb, ho⟩ := hw0
 obtain ⟨ay, cy, rfl, hy⟩ := hy
 refine ZQ 15 func122 rfl rfl rfl ?_
 have hX : Bel False (D) w w := Bel.refl _ _
 refine QH (Qc ?_)
 refine Rr (Zt (v := .pointer _) rfl) ?_
 refine Rr (o_pne underlying153 rfl rfl) ?_
 refine Qg ?_
 refine Jc rfl ?_
 refine Qc ?_
 refine Rr (Zt (v := .pointer _) rfl) ?_
 refine Rr (Zt (v := .pointer _) rfl) ?_
 refine Rr (JI rfl) ?_
 refine Rr (ZN underlying200 rfl sizeOf22 rfl) ?_
 refine Rr (ZB isAgg22 rfl (hb.at.get 0 rfl)) ?_
 refine Rr (mvS rfl) ?_
 refine Jd rfl Z6 Ya rfl rfl ho hy rfl (by omega) (fun g h => ⟨hU g h, fun e => by have := hb.lt; omega⟩) ?_
 intro v12 w1 x2 ho
 have z3 := x2.size
 replace hX := Bel.out hX x2 (fun g h1 h2 => by first | exact h2.1 | (cases h2; exact hDb))
 replace hb := hb.keep x2 om1
 obtain ⟨a12, c12, hv12, -⟩ := ho.sl Z6
 subst hv12
 refine Rr (JI rfl) ?_
 refine Rr (ZN underlying200 rfl sizeOf22 rfl) ?_
 refine Jb (v := .slice _ _ _) rfl sizeOf22 rfl rfl hb rfl rfl rfl ?_
 intro w4 c5 hb
 have z6 := Bel.size c5
 replace hX := Bel.out hX c5 (fun g h1 h2 => by first | exact h2.1 | (cases h2; exact hDb))
 replace ho := ho.keepD c5 om3
 refine Qg ?_
 refine ⟨_, res_none rfl, ?_⟩
 exact ⟨rfl, ⟨b, _, rfl, hDb, hb, ho⟩, hX⟩

theorem wuint_ok (v0 : Value) (D : Nat → Prop) (l : List UInt8) (x : W64) (w : World) (hw0 : Wr 200 5 D w v0 l) (hU : ∀ g, w.heap.size ≤ g → D g) (hn : l.length ≤ 90000000) : Ok Tryz.prog 80 #[v0, u64 x] w fun v w' => v = .tuple #[] ∧ Wr 200 5 D w' v0 (l ++ putU x) ∧ Bel False D w w' := by
 have hpl := J7 x
 refine ZQ 8 func80 rfl rfl rfl ?_
 have hX : Bel False (D) w w := Bel.refl _ _
 refine Qc ?_
 refine Rr (Zt (v := v0) rfl) ?_
 refine Rr (mvI rfl) ?_
 refine ZC rfl (ZK call123 rfl) (Ok.mono (wgrp_ok _ _) ?_)
 rintro v6 w1 ⟨hown6, x2⟩
 have z3 := x2.size
 replace hX := hX.ex x2
 replace hw0 := hw0.ext x2
 replace hown6 := hown6.mono (D' := fun g => w.heap.size ≤ g) (fun g h1 h2 => by omega)
 refine ZC rfl (ZW call122 rfl rfl) (Ok.mono (wraw_ok _ _ _ _ _ _ _ hw0 (fun g h => hU g (by omega)) (hown6.trd Z6) (by omega)) ?_)
 rintro _ w4 ⟨rfl, hw0, x5⟩
 have z6 := x5.size
 replace hX := Bel.out hX x5 om2
 refine Qg ?_
 refine ⟨_, res_none rfl, ?_⟩
 exact ⟨rfl, hw0, hX⟩

theorem wbytes_ok (v0 : Value) (D : Nat → Prop) (l : List UInt8) (v1 : Value) (G : Nat → Prop) (y : List UInt8) (w : World) (hw0 : Wr 200 5 D w v0 l) (hU : ∀ g, w.heap.size ≤ g → D g) (hy : Rd encB 1 G w v1 y) (hG : ∀ g, g < w.heap.size → G g → ¬ D g) (hn : l.length + y.length ≤ 80000000) : Ok Tryz.prog 124 #[v0, v1] w fun v w' => v = .tuple #[] ∧ Wr 200 5 D w' v0 (l ++ putB y) ∧ Bel False D w w' := by
 obtain ⟨ay, cy, rfl, hy⟩ := hy
 have hpl := J7 (BitVec.ofNat 64 y.length)
 replace hy := hy.mono (F' := fun g => ¬ D g) (fun g h1 h2 => hG g h1 h2)
 refine ZQ 12 func124 rfl rfl rfl ?_
 have hX : Bel False (D) w w := Bel.refl _ _
 refine QH (Qc ?_)
 refine Rr (Zt (v := v0) rfl) ?_
 refine Rr (mvS rfl) ?_
 refine Rr (Z0 underlying22 rfl) ?_
 refine Rr (o_convV (n := y.length) underlying3 underlying30 rfl (by omega)) ?_
 refine ZC rfl (ZW call80 rfl rfl) (Ok.mono (wuint_ok _ _ _ (BitVec.ofNat 64 y.length) _ hw0 (fun g h => hU g (by omega)) (by omega)) ?_)
 rintro _ w1 ⟨rfl, hw0, x2⟩
 have z3 := x2.size
 replace hX := Bel.out hX x2 om2
 replace hy := hy.keep x2 (fun g _ h => h)
 refine Qg (Qc ?_)
 refine Rr (Zt (v := v0) rfl) ?_
 refine Rr (mvS rfl) ?_
 refine ZC rfl (ZW call122 rfl rfl) (Ok.mono (wraw_ok _ _ _ _ _ _ _ hw0 (fun g h => hU g (by omega)) ⟨_, _, rfl, hy⟩ (by simp; omega)) ?_)
 rintro _ w4 ⟨rfl, hw0, x5⟩
 have z6 := x5.size
 replace hX := Bel.out hX x5 om2
 refine Qg ?_
 refine ⟨_, res_none rfl, ?_⟩
 rw [List.append_assoc] at hw0
 exact ⟨rfl, hw0, hX⟩

theorem wout_ok (v0 : Value) (D : Nat → Prop) (l : List UInt8) (w : World) (hw0 : Wr 200 5 D w v0 l) (hn : l.length ≤ 100000000) : Ok Tryz.prog 83 #[v0] w fun v w' => Own encB 1 5 (Fsh w w') w' v l ∧ Ext False w w' := by
 obtain ⟨b, u, rfl, hDb, hb, ho⟩ := hw0
 refine ZQ 10 func83 rfl rfl rfl ?_
 have hX := xRf w
 refine QH (Qc ?_)
 refine Rr Zi ?_
 refine Qg (QH (QH (Qc ?_)))
 refine Rr (Zt (v := .pointer _) rfl) ?_
 refine Rr (o_peq underlying153 rfl rfl) ?_
 refine Qg ?_
 refine ZY rfl ?_
 refine ZH (QH (Qc ?_))
 refine Rr (Zt (v := .pointer _) rfl) ?_
 refine Rr (JI rfl) ?_
 refine Rr (ZN underlying200 rfl sizeOf22 rfl) ?_
 refine Rr (ZB isAgg22 rfl (hb.at.get 0 rfl)) ?_
 refine ZC rfl (ZK call115 rfl) (Ok.mono (bclone_ok _ _ _ _ (ho.trd Z6) hn) ?_)
 rintro v9 w1 ⟨hown9, x2⟩
 have z3 := x2.size
 replace hX := hX.ex x2
 replace hown9 := hown9.mono (D' := fun g => w.heap.size ≤ g) (fun g h1 h2 => by omega)
 refine Rr (ZD (v := v9) rfl) ?_
 refine Qg (ZJ ?_)
 refine ⟨_, ZF rfl rfl, ?_⟩
 exact ⟨hown9.mono (fun g h1 h2 => ⟨by omega, h1⟩), hX⟩

theorem wstr_ok (v0 : Value) (D : Nat → Prop) (l : List UInt8) (y : List UInt8) (w : World) (hw0 : Wr 200 5 D w v0 l) (hU : ∀ g, w.heap.size ≤ g → D g) (hn : l.length + y.length ≤ 80000000) : Ok Tryz.prog 82 #[v0, str y] w fun v w' => v = .tuple #[] ∧ Wr 200 5 D w' v0 (l ++ putB y) ∧ Bel False D w w' := by
 replace hw0 := hw0.mono (D' := fun g => D g ∧ g < w.heap.size) (fun g h1 h2 => ⟨h2, h1⟩)
 refine ZQ 8 func82 rfl rfl rfl ?_
 have hX : Bel False (D) w w := Bel.refl _ _
 refine Qc ?_
 refine Rr (Zt (v := v0) rfl) ?_
 refine Rr (Zt (v := str _) rfl) ?_
 refine Rg_sb rfl underlying9 underlying22 underlying5 rfl (by omega) ?_
 intro a6 c6 w1 x2 hs6
 have z3 := x2.size
 replace hX := hX.ex x2
 replace hw0 := hw0.ext x2
 obtain ⟨n7, hn7⟩ : ∃ n, n = w1.heap.size := ⟨_, rfl⟩
 refine ZC rfl (ZW call124 rfl rfl) (Ok.mono (wbytes_ok _ (fun g => D g ∧ ¬ (w.heap.size ≤ g ∧ g < n7)) _ _ _ _ _ (hw0.mono (fun g h1 h2 => ⟨h2.1, by omega⟩)) (fun g h => ⟨hU g (by omega), by omega⟩) ⟨_, _, rfl, hs6.mono (F' := fun g => w.heap.size ≤ g ∧ g < n7) (fun g h1 h2 => ⟨h2, by omega⟩)⟩ (fun g h1 h2 h3 => h3.2 h2) hn) ?_)
 rintro _ w4 ⟨rfl, hw0, x5⟩
 have z6 := x5.size
 replace hX := Bel.out hX x5 (fun g h1 h2 => by first | exact h2 | exact h2.1)
 refine Qg ?_
 refine ⟨_, res_none rfl, ?_⟩
 exact ⟨rfl, hw0.mono (fun g h1 h2 => h2.1), hX⟩

theorem wflag_ok (v0 : Value) (D : Nat → Prop) (l : List UInt8) (y : Bool) (w : World) (hw0 : Wr 200 5 D w v0 l) (hU : ∀ g, w.heap.size ≤ g → D g) (hn : l.length ≤ 90000000) : Ok Tryz.prog 81 #[v0, .bool y] w fun v w' => v = .tuple #[] ∧ Wr 200 5 D w' v0 (l ++ [putF y]) ∧ Bel False D w w' := by
 refine ZQ 11 func81 rfl rfl rfl ?_
 have hX : Bel False (D) w w := Bel.refl _ _
 refine QH (QH (Qc ?_))
 refine Rr (mvB rfl) ?_
 refine Qg ?_
 refine ZG rfl (fun hc1 => ?_) (fun hc1 => ?_)
 ·refine QH (Qc ?_)
  refine Rr (Zt (v := v0) rfl) ?_
  refine Jh (vs := [.int _ _]) (([1] : List UInt8)) rfl Z6 Ya rfl rfl ⟨rfl, trivial⟩ rfl rfl rfl rfl ?_
  intro a6 w1 x2 hown6
  have z3 := x2.size
  replace hX := hX.ex x2
  replace hw0 := hw0.ext x2
  replace hown6 := hown6.mono (D' := fun g => w.heap.size ≤ g) (fun g h1 h2 => by omega)
  refine ZC rfl (ZW call122 rfl rfl) (Ok.mono (wraw_ok v0 _ _ _ _ _ _ hw0 (fun g h => hU g (by omega)) (hown6.trd Z6) (by simp; omega)) ?_)
  rintro _ w4 ⟨rfl, hw0, x5⟩
  have z6 := x5.size
  replace hX := Bel.out hX x5 om2
  refine Qg (ZJ ?_)
  refine ⟨_, res_none rfl, ?_⟩
  have e1 : putF y = 1 := by rw [hc1]; rfl
  rw [e1]; exact ⟨rfl, hw0, hX⟩
 refine ZH (Qc ?_)
 refine Rr (Zt (v := v0) rfl) ?_
 refine Jh (vs := [.int _ _]) (([0] : List UInt8)) rfl Z6 Ya rfl rfl ⟨rfl, trivial⟩ rfl rfl rfl rfl ?_
 intro a9 w7 x8 hown9
 have z9 := x8.size
 replace hX := hX.ex x8
 replace hw0 := hw0.ext x8
 replace hown9 := hown9.mono (D' := fun g => w.heap.size ≤ g) (fun g h1 h2 => by omega)
 refine ZC rfl (ZW call122 rfl rfl) (Ok.mono (wraw_ok v0 _ _ _ _ _ _ hw0 (fun g h => hU g (by omega)) (hown9.trd Z6) (by simp; omega)) ?_)
 rintro _ w10 ⟨rfl, hw0, x11⟩
 have z12 := x11.size
 replace hX := Bel.out hX x11 om2
 refine Qg ?_
 refine ⟨_, res_none rfl, ?_⟩
 have e1 : putF y = 0 := by rw [hc1]; rfl
 rw [e1]; exact ⟨rfl, hw0, hX⟩

theorem rnew_ok (v0 : Value) (G : Nat → Prop) (l : List UInt8) (w : World) (hl : Rd encB 1 G w v0 l) (hn : l.length ≤ 100000000) : Ok Tryz.prog 72 #[v0] w fun v w' => Rdr 194 (Fsh w w') w' v (l, 0) ∧ Ext False w w' := by
 refine ZQ 7 func72 rfl rfl rfl ?_
 have hX := xRf w
 refine QH (Qc ?_)
 refine Rr Zi ?_
 refine Qg (QH (Qc ?_))
 refine Rr (Zt (v := v0) rfl) ?_
 refine ZC rfl (ZK call115 rfl) (Ok.mono (bclone_ok _ _ _ _ hl hn) ?_)
 rintro v4 w1 ⟨hown4, x2⟩
 have z3 := x2.size
 replace hX := hX.ex x2
 replace hown4 := hown4.mono (D' := fun g => w.heap.size ≤ g) (fun g h1 h2 => by omega)
 obtain ⟨a4, c4, hv4, -⟩ := hown4.sl Z6
 subst hv4
 obtain ⟨n5, hn5⟩ : ∃ n, n = w1.heap.size := ⟨_, rfl⟩
 replace hown4 := hown4.mono (D' := fun g => w.heap.size ≤ g ∧ g < n5) (fun g h1 h2 => ⟨h2, by omega⟩)
 refine Rr (Z7 (cells := [.slice a4 l.length c4, .int .i64 0]) (vs := [(0, .slice _ _ _)]) rfl (by kernel_rfl)) ?_
 refine Z2 rfl (JB (v := .agg _) rfl) ?_
 intro b6 w4 x5 hge6 hb6
 have hlt6 := hb6.lt
 change Box _ _ _ (rdC _ _) at hb6
 have z6 := x5.size
 replace hX := hX.ex x5
 replace hown4 := hown4.ext x5
 refine Rr (ZD (v := .pointer _) rfl) ?_
 refine Qg (ZJ ?_)
 refine ⟨_, ZF rfl rfl, ?_⟩
 exact ⟨⟨b6, _, rfl, ⟨by omega, hb6.lt⟩, hb6, (hown4.rd Z6).mono (fun g h1 h2 => ⟨⟨by omega, by omega⟩, by omega⟩)⟩, hX⟩

theorem rok_ok (v0 : Value) (D : Nat → Prop) (s : RSt) (w : World) (hr0 : Rdr 194 D w v0 s) : Ok Tryz.prog 116 #[v0] w fun v w' => v = .bool (s.2 == 0) ∧ Ext False w w' := by
 obtain ⟨b, u, rfl, hDb, hb, hx⟩ := hr0
 obtain ⟨ax, cx, rfl, hx⟩ := hx
 refine ZQ 12 func116 rfl rfl rfl ?_
 have hX := xRf w
 refine QH (Qc ?_)
 refine Rr Zi ?_
 refine Qg (QH (Qc ?_))
 refine Rr (Zt (v := .pointer _) rfl) ?_
 refine Rr (o_pne underlying149 rfl rfl) ?_
 refine Rr (mvB rfl) ?_
 refine ZP 2 5 rfl rfl ?_
 refine Rr (Zt (v := .pointer _) rfl) ?_
 refine ZP 2 5 rfl rfl ?_
 refine Rr (JI rfl) ?_
 refine ZP 2 5 rfl rfl ?_
 refine Rr (ZN underlying194 rfl sizeOf46 rfl) ?_
 refine ZP 2 5 rfl rfl ?_
 refine Rr (ZB isAgg46 rfl (hb.at.get 1 rfl)) ?_
 refine ZP 2 5 rfl rfl ?_
 refine Rr (ZZ rfl rfl) ?_
 refine Rr (Jt (v := .bool _) rfl rfl) ?_
 refine Rr (asB rfl) ?_
 refine Qg (ZJ ?_)
 refine ⟨_, ZF rfl rfl, ?_⟩
 refine ⟨cvB ?_, hX⟩
 all_goals (rfl)

theorem rerr_ok (v0 : Value) (D : Nat → Prop) (s : RSt) (w : World) (hr0 : Rdr 194 D w v0 s) : Ok Tryz.prog 74 #[v0] w fun v w' => v = .int .i64 s.2 ∧ Ext False w w' := by
 obtain ⟨b, u, rfl, hDb, hb, hx⟩ := hr0
 obtain ⟨ax, cx, rfl, hx⟩ := hx
 refine ZQ 9 func74 rfl rfl rfl ?_
 have hX := xRf w
 refine QH (Qc ?_)
 refine Rr Zi ?_
 refine Qg (QH (QH (Qc ?_)))
 refine Rr (Zt (v := .pointer _) rfl) ?_
 refine Rr (o_peq underlying149 rfl rfl) ?_
 refine Qg ?_
 refine ZY rfl ?_
 refine ZH (QH (Qc ?_))
 refine Rr (Zt (v := .pointer _) rfl) ?_
 refine Rr (JI rfl) ?_
 refine Rr (ZN underlying194 rfl sizeOf46 rfl) ?_
 refine Rr (ZB isAgg46 rfl (hb.at.get 1 rfl)) ?_
 refine Rr (asI rfl) ?_
 refine Qg (ZJ ?_)
 refine ⟨_, ZF rfl rfl, ?_⟩
 refine ⟨congrArg (Value.int .i64) ?_, hX⟩
 all_goals (rfl)

theorem rfail_ok (v0 : Value) (D : Nat → Prop) (s : RSt) (e : Int) (w : World) (hr0 : Rdr 194 D w v0 s) : Ok Tryz.prog 158 #[v0, .int .i64 e] w fun v w' => v = .tuple #[] ∧ Rdr 194 D w' v0 (failS s e) ∧ Bel False (PtB v0) w w' := by
 have hr1 := hr0
 obtain ⟨b, u, rfl, hDb, hb, hx⟩ := hr0
 obtain ⟨ax, cx, rfl, hx⟩ := hx
 refine ZQ 10 func158 rfl rfl rfl ?_
 have hX : Bel False ((PtB (.pointer (some ⟨b, 0, none⟩)))) w w := Bel.refl _ _
 refine QH (Qc ?_)
 refine Rr (Zt (v := .pointer _) rfl) ?_
 refine ZC rfl (ZK call116 rfl) (Ok.mono (rok_ok _ _ _ _ hr1) ?_)
 rintro _ w1 ⟨rfl, x2⟩
 have z3 := x2.size
 replace hX := hX.ex x2
 replace hb := hb.ext x2
 replace hx := hx.ext x2
 refine Qg ?_
 refine ZG rfl (fun hc1 => ?_) (fun hc1 => ?_)
 ·skip
  refine Qc ?_
  refine Rr (Zt (v := .pointer _) rfl) ?_
  refine Rr (mvI rfl) ?_
  refine Rr (JI rfl) ?_
  refine Rr (ZN underlying194 rfl sizeOf46 rfl) ?_
  refine Jb (v := .int _ _) rfl sizeOf46 rfl rfl hb rfl rfl rfl ?_
  intro w4 c5 hb
  change Box _ _ _ ([_, .int _ _]) at hb
  have z6 := Bel.size c5
  replace hX := Bel.out hX c5 (fun g h1 h2 => by first | exact h2 | (cases h2; rfl))
  replace hx := hx.keep c5 (fun g h1 h2 h3 => h2.2 h3)
  refine Qg ?_
  refine ⟨_, res_none rfl, ?_⟩
  rw [failS, if_pos hc1]; exact ⟨rfl, ⟨b, _, rfl, hDb, hb, _, _, rfl, hx⟩, hX⟩
 skip
 refine ZH ?_
 refine ⟨_, res_none rfl, ?_⟩
 rw [failS, if_neg (by rw [hc1]; simp)]; exact ⟨rfl, ⟨b, _, rfl, hDb, hb, _, _, rfl, hx⟩, hX⟩

theorem JZ (v0 : Value) (D : Nat → Prop) (s : RSt) (bad : Bool) (e : Int) (w : World) (hr0 : Rdr 194 D w v0 s) : Ok Tryz.prog 117 #[v0, .bool bad, .int .i64 e] w fun v w' => v = .bool (!bad) ∧ Rdr 194 D w' v0 (refS s bad e) ∧ Bel False (PtB v0) w w' := by
 refine ZQ 13 func117 rfl rfl rfl ?_
 have hX : Bel False ((PtB v0)) w w := Bel.refl _ _
 refine QH (Qc ?_)
 refine Rr Zi ?_
 refine Qg (QH (QH (Qc ?_)))
 refine Rr (mvB rfl) ?_
 refine Qg ?_
 refine ZG rfl (fun hc1 => ?_) (fun hc1 => ?_)
 ·skip
  refine Qc ?_
  refine Rr (Zt (v := v0) rfl) ?_
  refine Rr (mvI rfl) ?_
  refine ZC rfl (ZW call158 rfl rfl) (Ok.mono (rfail_ok v0 _ _ _ _ hr0) ?_)
  rintro _ w1 ⟨rfl, hr0, x2⟩
  have z3 := x2.size
  replace hX := Bel.out hX x2 om2
  refine Qg (QH (Qc ?_))
  refine Rr (mvB rfl) ?_
  refine Rr (Jf rfl) ?_
  refine Rr (asB rfl) ?_
  refine Qg (ZJ ?_)
  refine ⟨_, ZF rfl rfl, ?_⟩
  rw [refS, if_pos hc1]; exact ⟨rfl, hr0, hX⟩
 skip
 refine ZH (QH (Qc ?_))
 refine Rr (mvB rfl) ?_
 refine Rr (Jf rfl) ?_
 refine Rr (asB rfl) ?_
 refine Qg (ZJ ?_)
 refine ⟨_, ZF rfl rfl, ?_⟩
 rw [refS, if_neg (by rw [hc1]; simp)]; exact ⟨rfl, hr0, hX⟩

theorem rnum_ok (v0 : Value) (D : Nat → Prop) (l : List UInt8) (e0 : Int) (w : World) (hr0 : Rdr 194 D w v0 (l, e0)) : Ok Tryz.prog 118 #[v0] w fun v w' => v = .tuple #[u64 (numR l).1, .int .i64 ((numR l).2 : Int)] ∧ Ext False w w' := by
 obtain ⟨b, u, rfl, hDb, hb, hx⟩ := hr0
 replace hx : Rd encB 1 (fun g => D g ∧ g ≠ b) w u l := hx
 replace hb : Box w b 194 [u, .int .i64 e0] := hb
 obtain ⟨ax, cx, rfl, hx⟩ := hx
 have hbl := hb.lt
 have hlx := hx.len
 refine ZQ 39 func118 rfl rfl rfl ?_
 have hX := xRf w
 refine QH (Qc ?_)
 refine Rr Zi ?_
 refine Rr Zi ?_
 refine Qg (QH (Qc ?_))
 refine Rr Zi ?_
 refine Qg (QH (QH (Qc ?_)))
 refine Rr (Zt (v := .pointer _) rfl) ?_
 refine Rr (JI rfl) ?_
 refine Rr (ZN underlying194 rfl sizeOf22 rfl) ?_
 refine Rr (ZB isAgg22 rfl (hb.at.get 0 rfl)) ?_
 refine Rr (Z0 underlying22 rfl) ?_
 refine Rr Jj ?_
 refine Qg (ZM ?_)
 refine Jk (α := Nat × W64) [(2, 6), (12, 38)] (fun q => [(12, .int .i64 (q.1 : Int)), (4, u64 q.2)]) (fun q w' => (q.1 ≤ l.length ∧ numR l = numGo q.1 q.2 (l.drop q.1)) ∧ Ext False w w') (fun q => l.length - q.1) (0, 0) ⟨rfl, rfl, trivial⟩ ⟨⟨Nat.zero_le _, rfl⟩, Bel.refl _ _⟩ ?_
 rintro ⟨k, y⟩ fb3 w2 ⟨⟨hk, hnr⟩, hXL1⟩
 dsimp only at *
 replace hX := hX.ex hXL1
 replace hx := hx.ext hXL1
 refine QH (Qc ?_)
 refine Rr (Z5 rfl rfl) ?_
 refine Qg (QH ?_)
 refine ZG rfl (fun hc1 => ?_) (fun hc1 => ?_)
 ·replace hc1 := dcT hc1
  have hkl : k < l.length := by omega
  refine ZH (QH (ZM (QH (Qc ?_))))
  refine Rr (mvI rfl) ?_
  refine Rr (Js underlying22 sizeOf5 hx rfl rfl omg) ?_
  refine Rr (Yf isAgg5 hx rfl rfl (Jw 0 (by omega)) rfl) ?_
  refine Rr (asI rfl) ?_
  refine Rr (asI rfl) ?_
  refine Qg (QH (QH (Qc ?_)))
  refine Rr (mvI rfl) ?_
  refine Rr (ZZ rfl rfl) ?_
  refine Rr (mvB rfl) ?_
  refine ZI 2 19 rfl rfl rfl (fun hg => (mvI rfl)) ?_
  refine ZI 2 19 rfl rfl rfl (fun hg => (ZZ (ZU (u := undef) hg) rfl)) ?_
  refine Rr (Jq (u := undef) rfl rfl) ?_
  refine Rr (mvB rfl) ?_
  refine ZI 6 23 rfl rfl rfl (fun hg => (mvI rfl)) ?_
  refine ZI 6 23 rfl rfl rfl (fun hg => (JY (ZU (u := undef) hg) rfl)) ?_
  refine Rr (JP (u := undef) rfl rfl) ?_
  refine Qg ?_
  refine ZG rfl (fun hc2 => ?_) (fun hc2 => ?_)
  ·rw [numC] at hc2
   refine QH (Qc ?_)
   refine Rr Zi ?_
   refine Rr Zi ?_
   refine Qg (ZJ ?_)
   refine ⟨_, Je rfl rfl rfl, ?_⟩
   rw [hnr, numGo_bad hkl hc2]; exact ⟨rfl, hX⟩
  rw [numC] at hc2
  refine ZH (QH (Qc ?_))
  refine Rr (mvI rfl) ?_
  refine Rr (o_shlU (a := y) (n := 7) rfl rfl (by decide)) ?_
  refine Rr (mvI rfl) ?_
  refine Rr (o_bandB (a := l.getD k 0) (b := 127) rfl rfl) ?_
  refine Rr (o_convB8 underlying5 underlying30 rfl) ?_
  refine Rr (o_bor (a := y <<< 7) (b := BitVec.ofNat 64 ((l.getD k 0) &&& 127).toNat) rfl rfl) ?_
  refine Rr (asI rfl) ?_
  refine Qg (QH (Qc ?_))
  refine Rr (mvI rfl) ?_
  refine Rr (Z5 rfl rfl) ?_
  refine Qg ?_
  refine ZG rfl (fun hc3 => ?_) (fun hc3 => ?_)
  ·have hs3 : (l.getD k 0).toNat < 128 := by have := dcT hc3; omega
   refine QH (Qc ?_)
   refine Rr (mvI rfl) ?_
   refine Rr (mvI rfl) ?_
   refine Rr (Z1 rfl rfl omg) ?_
   refine Rr (asI rfl) ?_
   refine Rr (asI rfl) ?_
   refine Qg (ZJ ?_)
   refine ⟨_, Je rfl rfl rfl, ?_⟩
   rw [hnr, numGo_stop hkl (by rw [hc2]; decide) hs3]; exact ⟨rfl, hX⟩
  have hs3 : ¬ (l.getD k 0).toNat < 128 := by have := dcF hc3; omega
  refine ZH (Qc ?_)
  refine Rr (Z1 rfl rfl omg) ?_
  refine Rr (mvI rfl) ?_
  refine Qg ?_
  refine ⟨(k + 1, grp y (l.getD k 0)), ⟨sT, sT, trivial⟩, oT, ⟨?_, hXL1⟩, ?_⟩
  ·exact ⟨by omega, hnr.trans (numGo_on hkl (by rw [hc2]; decide) hs3)⟩
  ·show l.length - (k + 1) < l.length - k; omega
 replace hc1 := dcF hc1
 refine Z4 (ZX (QH (Qc ?_)))
 refine Rr Zi ?_
 refine Rr Zi ?_
 refine Qg (ZJ ?_)
 refine ⟨_, Je rfl rfl rfl, ?_⟩
 rw [hnr, List.drop_of_length_le (by omega)]; exact ⟨rfl, hX⟩

theorem rtake_ok (v0 : Value) (D : Nat → Prop) (l : List UInt8) (e0 : Int) (n : Nat) (w : World) (hr0 : Rdr 194 D w v0 (l, e0)) (hn : n ≤ l.length) (hl9 : l.length ≤ 100000000) : Ok Tryz.prog 119 #[v0, .int .i64 (n : Int)] w fun v w' => Own encB 1 5 (Fsh w w') w' v (l.take n) ∧ Rdr 194 D w' v0 (l.drop n, e0) ∧ Bel False (PtB v0) w w' := by
 obtain ⟨b, u, rfl, hDb, hb, hx⟩ := hr0
 replace hx : Rd encB 1 (fun g => D g ∧ g ≠ b) w u l := hx
 replace hb : Box w b 194 [u, .int .i64 e0] := hb
 obtain ⟨ax, cx, rfl, hx⟩ := hx
 have hbl := hb.lt
 refine ZQ 23 func119 rfl rfl rfl ?_
 have hX : Bel False ((PtB (.pointer (some ⟨b, 0, none⟩)))) w w := Bel.refl _ _
 refine QH (Qc ?_)
 refine Rr Zi ?_
 refine Qg (QH (Qc ?_))
 refine Rr (Zt (v := .pointer _) rfl) ?_
 refine Rr (JI rfl) ?_
 refine Rr (ZN underlying194 rfl sizeOf22 rfl) ?_
 refine Rr (ZB isAgg22 rfl (hb.at.get 0 rfl)) ?_
 refine Rr (mvI rfl) ?_
 refine Rr (o_slto (j := n) underlying22 sizeOf5 rfl rfl (by have := hx.le; omega)) ?_
 refine ZC rfl (ZK call115 rfl) (Ok.mono (bclone_ok (.slice ax n cx) _ (l.take n) _ ⟨ax, cx, (by rw [List.length_take, Nat.min_eq_left hn]), hx.take n⟩ (by rw [List.length_take]; omega)) ?_)
 rintro v12 w1 ⟨hown12, x2⟩
 have z3 := x2.size
 replace hX := hX.ex x2
 replace hb := hb.ext x2
 replace hx := hx.ext x2
 refine Rr (ZD (v := v12) rfl) ?_
 refine Qg (QH (Qc ?_))
 refine Rr (Zt (v := .pointer _) rfl) ?_
 refine Rr (Zt (v := .pointer _) rfl) ?_
 refine Rr (JI rfl) ?_
 refine Rr (ZN underlying194 rfl sizeOf22 rfl) ?_
 refine Rr (ZB isAgg22 rfl (hb.at.get 0 rfl)) ?_
 refine Rr (mvI rfl) ?_
 refine Rr (o_slfrom2 (j := n) underlying22 sizeOf5 rfl rfl hn hx.le) ?_
 refine Rr (JI rfl) ?_
 refine Rr (ZN underlying194 rfl sizeOf22 rfl) ?_
 refine Jb (v := .slice _ _ _) rfl sizeOf22 rfl rfl hb rfl rfl rfl ?_
 intro w4 c5 hb
 change Box _ _ _ ([_, .int _ _]) at hb
 have z6 := Bel.size c5
 replace hX := Bel.out hX c5 (fun g h1 h2 => by first | exact h2 | (cases h2; rfl))
 replace hx := hx.keep c5 (fun g h1 h2 h3 => h2.2 h3)
 replace hown12 := hown12.keepD c5 om3
 refine Qg (QH (Qc ?_))
 refine Rr (Zt (v := v12) rfl) ?_
 refine Rr (ZD (v := v12) rfl) ?_
 refine Qg (ZJ ?_)
 refine ⟨_, ZF rfl rfl, ?_⟩
 exact ⟨hown12.mono (fun g h1 h2 => by omega), ⟨b, _, rfl, hDb, hb, _, _, by rw [List.length_drop], hx.drop hn⟩, hX⟩

theorem ruint_ok (v0 : Value) (D : Nat → Prop) (s : RSt) (most : W64) (w : World) (hr0 : Rdr 194 D w v0 s) (hl9 : s.1.length ≤ 100000000) : Ok Tryz.prog 120 #[v0, u64 most] w fun v w' => v = u64 (uintS s most).2 ∧ Rdr 194 D w' v0 (uintS s most).1 ∧ Bel False (PtB v0) w w' := by
 obtain ⟨b, rfl⟩ := hr0.ptr
 refine ZQ 32 func120 rfl rfl rfl ?_
 have hX : Bel False ((PtB (.pointer (some ⟨b, 0, none⟩)))) w w := Bel.refl _ _
 refine QH (Qc ?_)
 refine Rr Zi ?_
 refine Qg (QH (QH (Qc ?_)))
 refine Rr (Zt (v := .pointer (some ⟨b, 0, none⟩)) rfl) ?_
 refine ZC rfl (ZK call116 rfl) (Ok.mono (rok_ok (.pointer (some ⟨b, 0, none⟩)) _ s _ hr0) ?_)
 rintro _ w1 ⟨rfl, x2⟩
 have z3 := x2.size
 replace hX := hX.ex x2
 replace hr0 := hr0.ext x2
 refine Rr (Jf rfl) ?_
 refine Qg ?_
 refine ZG rfl (fun hc1 => ?_) (fun hc1 => ?_)
 ·have hok : ¬ (s.2 == 0) = true := by simpa using hc1
  refine QH (Qc ?_)
  refine Rr Zi ?_
  refine Qg (ZJ ?_)
  refine ⟨_, ZF rfl rfl, ?_⟩
  have e9 : uintS s most = (s, 0) := by rw [uintS, if_neg hok]
  rw [e9]; exact ⟨rfl, hr0, hX⟩
 have hok : (s.2 == 0) = true := by simpa using hc1
 refine ZH (QH (Qc ?_))
 refine Rr (Zt (v := .pointer (some ⟨b, 0, none⟩)) rfl) ?_
 refine ZC rfl (ZK call118 rfl) (Ok.mono (rnum_ok (.pointer (some ⟨b, 0, none⟩)) _ s.1 s.2 _ hr0) ?_)
 rintro _ w4 ⟨rfl, x5⟩
 have z6 := x5.size
 replace hX := hX.ex x5
 replace hr0 := hr0.ext x5
 refine Rr (Zt (v := .tuple _) rfl) ?_
 refine Rr (ZS rfl rfl) ?_
 refine Rr (ZS rfl rfl) ?_
 refine Rr (asI rfl) ?_
 refine Rr (asI rfl) ?_
 refine Qg (QH (QH (Qc ?_)))
 refine Rr (Zt (v := .pointer (some ⟨b, 0, none⟩)) rfl) ?_
 refine Rr (mvI rfl) ?_
 refine Rr (ZZ rfl rfl) ?_
 refine (Decidable.em ((numR s.1).2 = 0)).elim (fun hn0 => ?_) (fun hn0 => ?_)
 ·refine ZC rfl (JH call117 rfl rfl rfl) (Ok.mono (JZ (.pointer (some ⟨b, 0, none⟩)) _ s ((((numR s.1).2 : Nat) : Int) == 0) 6 _ hr0) ?_)
  rintro _ w7 ⟨rfl, hr0, x8⟩
  have z9 := x8.size
  replace hX := Bel.out hX x8 om2
  refine Rr (Jf rfl) ?_
  refine Rr (mvB rfl) ?_
  refine ZR 5 20 rfl rfl (cvB (show (!(!((((numR s.1).2 : Nat) : Int) == 0))) = true by rw [hn0]; rfl)) rfl rfl ?_
  refine ZR 5 20 rfl rfl (cvB (show (!(!((((numR s.1).2 : Nat) : Int) == 0))) = true by rw [hn0]; rfl)) rfl rfl ?_
  refine ZR 5 20 rfl rfl (cvB (show (!(!((((numR s.1).2 : Nat) : Int) == 0))) = true by rw [hn0]; rfl)) rfl rfl ?_
  refine ZR 5 20 rfl rfl (cvB (show (!(!((((numR s.1).2 : Nat) : Int) == 0))) = true by rw [hn0]; rfl)) rfl rfl ?_
  refine ZR 5 20 rfl rfl (cvB (show (!(!((((numR s.1).2 : Nat) : Int) == 0))) = true by rw [hn0]; rfl)) rfl rfl ?_
  refine ZR 5 20 rfl rfl (cvB (show (!(!((((numR s.1).2 : Nat) : Int) == 0))) = true by rw [hn0]; rfl)) rfl rfl ?_
  refine Rr (Jt (v := .bool _) (cvB (show (!(!((((numR s.1).2 : Nat) : Int) == 0))) = true by rw [hn0]; rfl)) rfl) ?_
  refine Qg ?_
  refine Jc rfl ?_
  refine QH (Qc ?_)
  refine Rr Zi ?_
  refine Qg (ZJ ?_)
  refine ⟨_, ZF rfl rfl, ?_⟩
  rw [JV (show ((((numR s.1).2 : Nat) : Int) == 0) = true by rw [hn0]; rfl) hok] at hr0
  have e9 : uintS s most = ((s.1, 6), 0) := by rw [uintS, if_pos hok, if_pos hn0]
  rw [e9]; exact ⟨rfl, hr0, hX⟩
 refine ZC rfl (JH call117 rfl rfl rfl) (Ok.mono (JZ (.pointer (some ⟨b, 0, none⟩)) _ s ((((numR s.1).2 : Nat) : Int) == 0) 6 _ hr0) ?_)
 rintro _ w10 ⟨rfl, hr0, x11⟩
 have z12 := x11.size
 replace hX := Bel.out hX x11 om2
 refine Rr (Jf rfl) ?_
 refine Rr (mvB rfl) ?_
 rw [JS (show ((((numR s.1).2 : Nat) : Int) == 0) = false from neF (by omega))] at hr0
 refine ZP 5 20 rfl (cvB (show (!(!((((numR s.1).2 : Nat) : Int) == 0))) = false by rw [Bool.not_not]; exact neF (by omega))) ?_
 refine Rr (Zt (v := .pointer (some ⟨b, 0, none⟩)) rfl) ?_
 refine ZP 5 20 rfl (cvB (show (!(!((((numR s.1).2 : Nat) : Int) == 0))) = false by rw [Bool.not_not]; exact neF (by omega))) ?_
 refine Rr (mvI rfl) ?_
 refine ZP 5 20 rfl (cvB (show (!(!((((numR s.1).2 : Nat) : Int) == 0))) = false by rw [Bool.not_not]; exact neF (by omega))) ?_
 refine Rr (mvI rfl) ?_
 refine ZP 5 20 rfl (cvB (show (!(!((((numR s.1).2 : Nat) : Int) == 0))) = false by rw [Bool.not_not]; exact neF (by omega))) ?_
 refine Rr (JY rfl rfl) ?_
 refine (Decidable.em ((decide ((most.toNat : Int) < (((numR s.1).1.toNat : Nat) : Int))) = true)).elim (fun hvm => ?_) (fun hvm => ?_)
 ·refine ZP 5 20 rfl (cvB (show (!(!((((numR s.1).2 : Nat) : Int) == 0))) = false by rw [Bool.not_not]; exact neF (by omega))) ?_
  refine ZC rfl (JH call117 rfl rfl rfl) (Ok.mono (JZ (.pointer (some ⟨b, 0, none⟩)) _ s (decide ((most.toNat : Int) < (((numR s.1).1.toNat : Nat) : Int))) 2 _ hr0) ?_)
  rintro _ w13 ⟨rfl, hr0, x14⟩
  have z15 := x14.size
  replace hX := Bel.out hX x14 om2
  refine ZP 5 20 rfl (cvB (show (!(!((((numR s.1).2 : Nat) : Int) == 0))) = false by rw [Bool.not_not]; exact neF (by omega))) ?_
  refine Rr (Jf rfl) ?_
  refine Rr (Jo (v := .bool _) (cvB (show (!(!((((numR s.1).2 : Nat) : Int) == 0))) = false by rw [Bool.not_not]; exact neF (by omega))) rfl) ?_
  refine Qg ?_
  refine Jc (cvB (show (!(!(decide ((most.toNat : Int) < (((numR s.1).1.toNat : Nat) : Int))))) = true by rw [hvm]; rfl)) ?_
  refine QH (Qc ?_)
  refine Rr Zi ?_
  refine Qg (ZJ ?_)
  refine ⟨_, ZF rfl rfl, ?_⟩
  rw [JV (show (decide ((most.toNat : Int) < (((numR s.1).1.toNat : Nat) : Int))) = true from hvm) hok] at hr0
  have e9 : uintS s most = ((s.1, 2), 0) := by rw [uintS, if_pos hok, if_neg hn0, if_pos (by have := dcT hvm; omega)]
  rw [e9]; exact ⟨rfl, hr0, hX⟩
 refine ZP 5 20 rfl (cvB (show (!(!((((numR s.1).2 : Nat) : Int) == 0))) = false by rw [Bool.not_not]; exact neF (by omega))) ?_
 refine ZC rfl (JH call117 rfl rfl rfl) (Ok.mono (JZ (.pointer (some ⟨b, 0, none⟩)) _ s (decide ((most.toNat : Int) < (((numR s.1).1.toNat : Nat) : Int))) 2 _ hr0) ?_)
 rintro _ w16 ⟨rfl, hr0, x17⟩
 have z18 := x17.size
 replace hX := Bel.out hX x17 om2
 refine ZP 5 20 rfl (cvB (show (!(!((((numR s.1).2 : Nat) : Int) == 0))) = false by rw [Bool.not_not]; exact neF (by omega))) ?_
 refine Rr (Jf rfl) ?_
 refine Rr (Jo (v := .bool _) (cvB (show (!(!((((numR s.1).2 : Nat) : Int) == 0))) = false by rw [Bool.not_not]; exact neF (by omega))) rfl) ?_
 refine Qg ?_
 refine ZY (cvB (show (!(!(decide ((most.toNat : Int) < (((numR s.1).1.toNat : Nat) : Int))))) = false by rw [Bool.not_not]; simpa using hvm)) ?_
 refine ZH (QH (Qc ?_))
 rw [JS (show (decide ((most.toNat : Int) < (((numR s.1).1.toNat : Nat) : Int))) = false by simpa using hvm)] at hr0
 refine Rr (Zt (v := .pointer (some ⟨b, 0, none⟩)) rfl) ?_
 refine Rr (mvI rfl) ?_
 refine ZC rfl (ZW call119 rfl rfl) (Ok.mono (rtake_ok (.pointer (some ⟨b, 0, none⟩)) _ s.1 s.2 (numR s.1).2 _ hr0 (numR_le _) hl9) ?_)
 rintro _ w19 ⟨_, hr0, x20⟩
 have z21 := x20.size
 replace hX := Bel.out hX x20 om2
 refine Qg (QH (Qc ?_))
 refine Rr (mvI rfl) ?_
 refine Rr (asI rfl) ?_
 refine Qg (ZJ ?_)
 refine ⟨_, ZF rfl rfl, ?_⟩
 have e9 : uintS s most = ((s.1.drop (numR s.1).2, s.2), (numR s.1).1) := by rw [uintS, if_pos hok, if_neg hn0, if_neg (by intro h; exact hvm (decide_eq_true (by omega)))]
 rw [e9]; exact ⟨rfl, hr0, hX⟩

theorem rcount_ok (v0 : Value) (D : Nat → Prop) (s : RSt) (most : Nat) (hmost : most ≤ 100000000) (w : World) (hr0 : Rdr 194 D w v0 s) (hl9 : s.1.length ≤ 100000000) : Ok Tryz.prog 73 #[v0, .int .i64 (most : Int)] w fun v w' => v = .int .i64 ((countS s most).2 : Int) ∧ Rdr 194 D w' v0 (countS s most).1 ∧ Bel False (PtB v0) w w' := by
 obtain ⟨b, rfl⟩ := hr0.ptr
 have hm0 : decide ((most : Int) < 0) = false := decide_eq_false (by omega)
 have hm64 : (BitVec.ofNat 64 most).toNat = most := by rw [BitVec.toNat_ofNat]; exact Nat.mod_eq_of_lt (by omega)
 refine ZQ 41 func73 rfl rfl rfl ?_
 have hX : Bel False ((PtB (.pointer (some ⟨b, 0, none⟩)))) w w := Bel.refl _ _
 refine QH (Qc ?_)
 refine Rr Zi ?_
 refine Qg (QH (QH (Qc ?_)))
 refine Rr (Zt (v := .pointer (some ⟨b, 0, none⟩)) rfl) ?_
 refine ZC rfl (ZK call116 rfl) (Ok.mono (rok_ok (.pointer (some ⟨b, 0, none⟩)) _ s _ hr0) ?_)
 rintro _ w1 ⟨rfl, x2⟩
 have z3 := x2.size
 replace hX := hX.ex x2
 replace hr0 := hr0.ext x2
 refine Rr (Jf rfl) ?_
 refine (Decidable.em ((s.2 == 0) = true)).elim (fun hok => ?_) (fun hok => ?_)
 ·refine Rr (mvB rfl) ?_
  refine ZP 3 10 rfl (cvB (show (!(s.2 == 0)) = false by rw [hok]; rfl)) ?_
  refine Rr (Zt (v := .pointer (some ⟨b, 0, none⟩)) rfl) ?_
  refine ZP 3 10 rfl (cvB (show (!(s.2 == 0)) = false by rw [hok]; rfl)) ?_
  refine Rr (mvI rfl) ?_
  refine ZP 3 10 rfl (cvB (show (!(s.2 == 0)) = false by rw [hok]; rfl)) ?_
  refine Rr (Z5 rfl rfl) ?_
  refine ZP 3 10 rfl (cvB (show (!(s.2 == 0)) = false by rw [hok]; rfl)) ?_
  refine ZC rfl (JH call117 rfl rfl rfl) (Ok.mono (JZ (.pointer (some ⟨b, 0, none⟩)) _ s (decide ((most : Int) < 0)) 1 _ hr0) ?_)
  rintro _ w4 ⟨rfl, hr0, x5⟩
  have z6 := x5.size
  replace hX := Bel.out hX x5 om2
  refine ZP 3 10 rfl (cvB (show (!(s.2 == 0)) = false by rw [hok]; rfl)) ?_
  refine Rr (Jf rfl) ?_
  refine Rr (Jo (v := .bool _) (cvB (show (!(s.2 == 0)) = false by rw [hok]; rfl)) rfl) ?_
  refine Qg ?_
  refine ZY (cvB (show (!(!(decide ((most : Int) < 0)))) = false by rw [hm0]; rfl)) ?_
  refine ZH (QH (Qc ?_))
  rw [JS hm0] at hr0
  refine Rr (Zt (v := .pointer (some ⟨b, 0, none⟩)) rfl) ?_
  refine ZC rfl (ZK call118 rfl) (Ok.mono (rnum_ok (.pointer (some ⟨b, 0, none⟩)) _ s.1 s.2 _ hr0) ?_)
  rintro _ w7 ⟨rfl, x8⟩
  have z9 := x8.size
  replace hX := hX.ex x8
  replace hr0 := hr0.ext x8
  refine Rr (Zt (v := .tuple _) rfl) ?_
  refine Rr (ZS rfl rfl) ?_
  refine Rr (ZS rfl rfl) ?_
  refine Rr (asI rfl) ?_
  refine Rr (asI rfl) ?_
  refine Qg (QH (QH (Qc ?_)))
  refine Rr (Zt (v := .pointer (some ⟨b, 0, none⟩)) rfl) ?_
  refine Rr (mvI rfl) ?_
  refine Rr (ZZ rfl rfl) ?_
  refine (Decidable.em ((numR s.1).2 = 0)).elim (fun hn0 => ?_) (fun hn0 => ?_)
  ·refine ZC rfl (JH call117 rfl rfl rfl) (Ok.mono (JZ (.pointer (some ⟨b, 0, none⟩)) _ s ((((numR s.1).2 : Nat) : Int) == 0) 6 _ hr0) ?_)
   rintro _ w10 ⟨rfl, hr0, x11⟩
   have z12 := x11.size
   replace hX := Bel.out hX x11 om2
   refine Rr (Jf rfl) ?_
   refine Rr (mvB rfl) ?_
   refine ZR 5 27 rfl rfl (cvB (show (!(!((((numR s.1).2 : Nat) : Int) == 0))) = true by rw [hn0]; rfl)) rfl rfl ?_
   refine ZR 5 27 rfl rfl (cvB (show (!(!((((numR s.1).2 : Nat) : Int) == 0))) = true by rw [hn0]; rfl)) rfl rfl ?_
   refine ZR 5 27 rfl rfl (cvB (show (!(!((((numR s.1).2 : Nat) : Int) == 0))) = true by rw [hn0]; rfl)) rfl rfl ?_
   refine ZR 5 27 rfl rfl (cvB (show (!(!((((numR s.1).2 : Nat) : Int) == 0))) = true by rw [hn0]; rfl)) rfl rfl ?_
   refine ZR 5 27 rfl rfl (cvB (show (!(!((((numR s.1).2 : Nat) : Int) == 0))) = true by rw [hn0]; rfl)) rfl rfl ?_
   refine ZR 5 27 rfl rfl (cvB (show (!(!((((numR s.1).2 : Nat) : Int) == 0))) = true by rw [hn0]; rfl)) rfl rfl ?_
   refine ZR 5 27 rfl rfl (cvB (show (!(!((((numR s.1).2 : Nat) : Int) == 0))) = true by rw [hn0]; rfl)) rfl rfl ?_
   refine Rr (Jt (v := .bool _) (cvB (show (!(!((((numR s.1).2 : Nat) : Int) == 0))) = true by rw [hn0]; rfl)) rfl) ?_
   refine Qg ?_
   refine Jc rfl ?_
   refine QH (Qc ?_)
   refine Rr Zi ?_
   refine Qg (ZJ ?_)
   refine ⟨_, ZF rfl rfl, ?_⟩
   rw [JV (show ((((numR s.1).2 : Nat) : Int) == 0) = true by rw [hn0]; rfl) hok] at hr0
   have e9 : countS s most = ((s.1, 6), 0) := by rw [countS, if_pos hok, if_pos hn0]
   rw [e9]; exact ⟨rfl, hr0, hX⟩
  refine ZC rfl (JH call117 rfl rfl rfl) (Ok.mono (JZ (.pointer (some ⟨b, 0, none⟩)) _ s ((((numR s.1).2 : Nat) : Int) == 0) 6 _ hr0) ?_)
  rintro _ w13 ⟨rfl, hr0, x14⟩
  have z15 := x14.size
  replace hX := Bel.out hX x14 om2
  refine Rr (Jf rfl) ?_
  refine Rr (mvB rfl) ?_
  rw [JS (show ((((numR s.1).2 : Nat) : Int) == 0) = false from neF (by omega))] at hr0
  refine ZP 5 27 rfl (cvB (show (!(!((((numR s.1).2 : Nat) : Int) == 0))) = false by rw [Bool.not_not]; exact neF (by omega))) ?_
  refine Rr (Zt (v := .pointer (some ⟨b, 0, none⟩)) rfl) ?_
  refine ZP 5 27 rfl (cvB (show (!(!((((numR s.1).2 : Nat) : Int) == 0))) = false by rw [Bool.not_not]; exact neF (by omega))) ?_
  refine Rr (mvI rfl) ?_
  refine ZP 5 27 rfl (cvB (show (!(!((((numR s.1).2 : Nat) : Int) == 0))) = false by rw [Bool.not_not]; exact neF (by omega))) ?_
  refine Rr (mvI rfl) ?_
  refine ZP 5 27 rfl (cvB (show (!(!((((numR s.1).2 : Nat) : Int) == 0))) = false by rw [Bool.not_not]; exact neF (by omega))) ?_
  refine Rr (o_convV (n := most) underlying3 underlying30 rfl (by omega)) ?_
  refine ZP 5 27 rfl (cvB (show (!(!((((numR s.1).2 : Nat) : Int) == 0))) = false by rw [Bool.not_not]; exact neF (by omega))) ?_
  refine Rr (JY rfl rfl) ?_
  refine (Decidable.em ((decide ((((BitVec.ofNat 64 most).toNat : Nat) : Int) < (((numR s.1).1.toNat : Nat) : Int))) = true)).elim (fun hvm => ?_) (fun hvm => ?_)
  ·refine ZP 5 27 rfl (cvB (show (!(!((((numR s.1).2 : Nat) : Int) == 0))) = false by rw [Bool.not_not]; exact neF (by omega))) ?_
   refine ZC rfl (JH call117 rfl rfl rfl) (Ok.mono (JZ (.pointer (some ⟨b, 0, none⟩)) _ s (decide ((((BitVec.ofNat 64 most).toNat : Nat) : Int) < (((numR s.1).1.toNat : Nat) : Int))) 3 _ hr0) ?_)
   rintro _ w16 ⟨rfl, hr0, x17⟩
   have z18 := x17.size
   replace hX := Bel.out hX x17 om2
   refine ZP 5 27 rfl (cvB (show (!(!((((numR s.1).2 : Nat) : Int) == 0))) = false by rw [Bool.not_not]; exact neF (by omega))) ?_
   refine Rr (Jf rfl) ?_
   refine Rr (Jo (v := .bool _) (cvB (show (!(!((((numR s.1).2 : Nat) : Int) == 0))) = false by rw [Bool.not_not]; exact neF (by omega))) rfl) ?_
   refine Qg ?_
   refine Jc (cvB (show (!(!(decide ((((BitVec.ofNat 64 most).toNat : Nat) : Int) < (((numR s.1).1.toNat : Nat) : Int))))) = true by rw [hvm]; rfl)) ?_
   refine QH (Qc ?_)
   refine Rr Zi ?_
   refine Qg (ZJ ?_)
   refine ⟨_, ZF rfl rfl, ?_⟩
   rw [JV (show (decide ((((BitVec.ofNat 64 most).toNat : Nat) : Int) < (((numR s.1).1.toNat : Nat) : Int))) = true from hvm) hok] at hr0
   have e9 : countS s most = ((s.1, 3), 0) := by rw [countS, if_pos hok, if_neg hn0, if_pos (by have := dcT hvm; omega)]
   rw [e9]; exact ⟨rfl, hr0, hX⟩
  refine ZP 5 27 rfl (cvB (show (!(!((((numR s.1).2 : Nat) : Int) == 0))) = false by rw [Bool.not_not]; exact neF (by omega))) ?_
  refine ZC rfl (JH call117 rfl rfl rfl) (Ok.mono (JZ (.pointer (some ⟨b, 0, none⟩)) _ s (decide ((((BitVec.ofNat 64 most).toNat : Nat) : Int) < (((numR s.1).1.toNat : Nat) : Int))) 3 _ hr0) ?_)
  rintro _ w19 ⟨rfl, hr0, x20⟩
  have z21 := x20.size
  replace hX := Bel.out hX x20 om2
  refine ZP 5 27 rfl (cvB (show (!(!((((numR s.1).2 : Nat) : Int) == 0))) = false by rw [Bool.not_not]; exact neF (by omega))) ?_
  refine Rr (Jf rfl) ?_
  refine Rr (Jo (v := .bool _) (cvB (show (!(!((((numR s.1).2 : Nat) : Int) == 0))) = false by rw [Bool.not_not]; exact neF (by omega))) rfl) ?_
  refine Qg ?_
  refine ZY (cvB (show (!(!(decide ((((BitVec.ofNat 64 most).toNat : Nat) : Int) < (((numR s.1).1.toNat : Nat) : Int))))) = false by rw [Bool.not_not]; simpa using hvm)) ?_
  refine ZH (QH (Qc ?_))
  rw [JS (show (decide ((((BitVec.ofNat 64 most).toNat : Nat) : Int) < (((numR s.1).1.toNat : Nat) : Int))) = false by simpa using hvm)] at hr0
  refine Rr (Zt (v := .pointer (some ⟨b, 0, none⟩)) rfl) ?_
  refine Rr (mvI rfl) ?_
  refine ZC rfl (ZW call119 rfl rfl) (Ok.mono (rtake_ok (.pointer (some ⟨b, 0, none⟩)) _ s.1 s.2 (numR s.1).2 _ hr0 (numR_le _) hl9) ?_)
  rintro _ w22 ⟨_, hr0, x23⟩
  have z24 := x23.size
  replace hX := Bel.out hX x23 om2
  refine Qg (QH (Qc ?_))
  refine Rr (mvI rfl) ?_
  refine Rr (o_convU (n := (numR s.1).1.toNat) underlying30 underlying3 rfl rfl (by have := hvm; simp only [decide_eq_true_eq] at this; omega)) ?_
  refine Rr (asI rfl) ?_
  refine Qg (ZJ ?_)
  refine ⟨_, ZF rfl rfl, ?_⟩
  have e9 : countS s most = ((s.1.drop (numR s.1).2, s.2), (numR s.1).1.toNat) := by rw [countS, if_pos hok, if_neg hn0, if_neg (by intro h; exact hvm (decide_eq_true (by omega)))]
  rw [e9]; exact ⟨rfl, hr0, hX⟩
 refine Rr (mvB rfl) ?_
 refine ZR 3 10 rfl rfl (cvB (show (!(s.2 == 0)) = true by simp only [Bool.not_eq_true] at hok; rw [hok]; rfl)) rfl rfl ?_
 refine ZR 3 10 rfl rfl (cvB (show (!(s.2 == 0)) = true by simp only [Bool.not_eq_true] at hok; rw [hok]; rfl)) rfl rfl ?_
 refine ZR 3 10 rfl rfl (cvB (show (!(s.2 == 0)) = true by simp only [Bool.not_eq_true] at hok; rw [hok]; rfl)) rfl rfl ?_
 refine ZR 3 10 rfl rfl (cvB (show (!(s.2 == 0)) = true by simp only [Bool.not_eq_true] at hok; rw [hok]; rfl)) rfl rfl ?_
 refine ZR 3 10 rfl rfl (cvB (show (!(s.2 == 0)) = true by simp only [Bool.not_eq_true] at hok; rw [hok]; rfl)) rfl rfl ?_
 refine Rr (Jt (v := .bool _) (cvB (show (!(s.2 == 0)) = true by simp only [Bool.not_eq_true] at hok; rw [hok]; rfl)) rfl) ?_
 refine Qg ?_
 refine Jc rfl ?_
 refine QH (Qc ?_)
 refine Rr Zi ?_
 refine Qg (ZJ ?_)
 refine ⟨_, ZF rfl rfl, ?_⟩
 have e9 : countS s most = (s, 0) := by rw [countS, if_neg hok]
 rw [e9]; exact ⟨rfl, hr0, hX⟩

theorem rend_ok (v0 : Value) (D : Nat → Prop) (s : RSt) (w : World) (hr0 : Rdr 194 D w v0 s) : Ok Tryz.prog 78 #[v0] w fun v w' => v = .int .i64 (endS s) ∧ Ext False w w' := by
 have hr1 := hr0
 obtain ⟨b, u, rfl, hDb, hb, hx⟩ := hr0
 obtain ⟨ax, cx, rfl, hx⟩ := hx
 refine ZQ 15 func78 rfl rfl rfl ?_
 have hX := xRf w
 refine QH (Qc ?_)
 refine Rr Zi ?_
 refine Qg (QH (QH (Qc ?_)))
 refine Rr (Zt (v := .pointer _) rfl) ?_
 refine ZC rfl (ZK call116 rfl) (Ok.mono (rok_ok _ _ _ _ hr1) ?_)
 rintro _ w1 ⟨rfl, x2⟩
 replace hX := hX.ex x2
 replace hb := hb.ext x2
 replace hr1 := hr1.ext x2
 refine (Decidable.em ((s.2 == 0) = true)).elim (fun hok => ?_) (fun hok => ?_)
 ·refine Rr (mvB rfl) ?_
  refine ZP 2 5 rfl (cvB hok) ?_
  refine Rr (Zt (v := .pointer _) rfl) ?_
  refine ZP 2 5 rfl (cvB hok) ?_
  refine Rr (JI rfl) ?_
  refine ZP 2 5 rfl (cvB hok) ?_
  refine Rr (ZN underlying194 rfl sizeOf22 rfl) ?_
  refine ZP 2 5 rfl (cvB hok) ?_
  refine Rr (ZB isAgg22 rfl (hb.at.get 0 rfl)) ?_
  refine ZP 2 5 rfl (cvB hok) ?_
  refine Rr (Z0 underlying22 rfl) ?_
  refine ZP 2 5 rfl (cvB hok) ?_
  refine Rr (JY rfl rfl) ?_
  refine Rr (Jt (v := .bool _) (cvB hok) rfl) ?_
  refine Qg ?_
  refine ZG rfl (fun hc1 => ?_) (fun hc1 => ?_)
  ·have hne : s.1 ≠ [] := by intro e; rw [e] at hc1; simp at hc1
   refine QH (Qc ?_)
   refine Rr Zi ?_
   refine Qg (ZJ ?_)
   refine ⟨_, ZF rfl rfl, ?_⟩
   refine ⟨congrArg (Value.int .i64) ?_, hX⟩
   all_goals (rw [endS, if_pos ⟨hok, hne⟩])
  have hne : s.1 = [] := List.eq_nil_of_length_eq_zero (by have := dcF hc1; omega)
  refine ZH (QH (Qc ?_))
  refine Rr (Zt (v := .pointer _) rfl) ?_
  refine ZC rfl (ZK call74 rfl) (Ok.mono (rerr_ok _ _ _ _ hr1) ?_)
  rintro _ w3 ⟨rfl, x4⟩
  replace hX := hX.ex x4
  refine Rr (asI rfl) ?_
  refine Qg (ZJ ?_)
  refine ⟨_, ZF rfl rfl, ?_⟩
  refine ⟨congrArg (Value.int .i64) ?_, hX⟩
  all_goals (rw [endS, if_neg (fun h => h.2 hne)])
 refine Rr (mvB rfl) ?_
 refine ZR 2 5 rfl rfl (cvB (show (s.2 == 0) = false by simpa using hok)) rfl rfl ?_
 refine ZR 2 5 rfl rfl (cvB (show (s.2 == 0) = false by simpa using hok)) rfl rfl ?_
 refine ZR 2 5 rfl rfl (cvB (show (s.2 == 0) = false by simpa using hok)) rfl rfl ?_
 refine ZR 2 5 rfl rfl (cvB (show (s.2 == 0) = false by simpa using hok)) rfl rfl ?_
 refine ZR 2 5 rfl rfl (cvB (show (s.2 == 0) = false by simpa using hok)) rfl rfl ?_
 refine ZR 2 5 rfl rfl (cvB (show (s.2 == 0) = false by simpa using hok)) rfl rfl ?_
 refine Rr (Jo (v := .bool _) (cvB (show (s.2 == 0) = false by simpa using hok)) rfl) ?_
 refine Qg ?_
 refine ZY rfl ?_
 refine ZH (QH (Qc ?_))
 refine Rr (Zt (v := .pointer _) rfl) ?_
 refine ZC rfl (ZK call74 rfl) (Ok.mono (rerr_ok _ _ _ _ hr1) ?_)
 rintro _ w5 ⟨rfl, x6⟩
 replace hX := hX.ex x6
 refine Rr (asI rfl) ?_
 refine Qg (ZJ ?_)
 refine ⟨_, ZF rfl rfl, ?_⟩
 refine ⟨congrArg (Value.int .i64) ?_, hX⟩
 all_goals (rw [endS, if_neg (fun h => hok h.1)])

theorem rnumber_ok (v0 : Value) (D : Nat → Prop) (s : RSt) (most : Nat) (hmost : most ≤ 100000000) (w : World) (hr0 : Rdr 194 D w v0 s) (hl9 : s.1.length ≤ 100000000) : Ok Tryz.prog 76 #[v0, .int .i64 (most : Int)] w fun v w' => v = .int .i64 ((uintS s (BitVec.ofNat 64 most)).2.toNat : Int) ∧ Rdr 194 D w' v0 (uintS s (BitVec.ofNat 64 most)).1 ∧ Bel False (PtB v0) w w' := by
 have hm0 : decide ((most : Int) < 0) = false := decide_eq_false (by omega)
 have hum := uintS_le s (BitVec.ofNat 64 most)
 have hm64 : (BitVec.ofNat 64 most).toNat = most := by rw [BitVec.toNat_ofNat]; exact Nat.mod_eq_of_lt (by omega)
 refine ZQ 20 func76 rfl rfl rfl ?_
 have hX : Bel False ((PtB v0)) w w := Bel.refl _ _
 refine QH (Qc ?_)
 refine Rr Zi ?_
 refine Qg (QH (QH (Qc ?_)))
 refine Rr (Zt (v := v0) rfl) ?_
 refine ZC rfl (ZK call116 rfl) (Ok.mono (rok_ok v0 _ s _ hr0) ?_)
 rintro _ w1 ⟨rfl, x2⟩
 have z3 := x2.size
 replace hX := hX.ex x2
 replace hr0 := hr0.ext x2
 refine Rr (Jf rfl) ?_
 refine (Decidable.em ((s.2 == 0) = true)).elim (fun hok => ?_) (fun hok => ?_)
 ·refine Rr (mvB rfl) ?_
  refine ZP 3 8 rfl (cvB (show (!(s.2 == 0)) = false by rw [hok]; rfl)) ?_
  refine Rr (Zt (v := v0) rfl) ?_
  refine ZP 3 8 rfl (cvB (show (!(s.2 == 0)) = false by rw [hok]; rfl)) ?_
  refine Rr (mvI rfl) ?_
  refine ZP 3 8 rfl (cvB (show (!(s.2 == 0)) = false by rw [hok]; rfl)) ?_
  refine Rr (Z5 rfl rfl) ?_
  refine ZP 3 8 rfl (cvB (show (!(s.2 == 0)) = false by rw [hok]; rfl)) ?_
  refine ZC rfl (JH call117 rfl rfl rfl) (Ok.mono (JZ v0 _ s (decide ((most : Int) < 0)) 1 _ hr0) ?_)
  rintro _ w4 ⟨rfl, hr0, x5⟩
  have z6 := x5.size
  replace hX := Bel.out hX x5 om2
  refine ZP 3 8 rfl (cvB (show (!(s.2 == 0)) = false by rw [hok]; rfl)) ?_
  refine Rr (Jf rfl) ?_
  refine Rr (Jo (v := .bool _) (cvB (show (!(s.2 == 0)) = false by rw [hok]; rfl)) rfl) ?_
  refine Qg ?_
  refine ZY (cvB (show (!(!(decide ((most : Int) < 0)))) = false by rw [hm0]; rfl)) ?_
  refine ZH (QH (Qc ?_))
  rw [JS hm0] at hr0
  refine Rr (Zt (v := v0) rfl) ?_
  refine Rr (mvI rfl) ?_
  refine Rr (o_convV (n := most) underlying3 underlying30 rfl (by omega)) ?_
  refine ZC rfl (ZW call120 rfl rfl) (Ok.mono (ruint_ok v0 _ s (BitVec.ofNat 64 most) _ hr0 hl9) ?_)
  rintro _ w7 ⟨rfl, hr0, x8⟩
  have z9 := x8.size
  replace hX := Bel.out hX x8 om2
  refine Rr (o_convU (n := (uintS s (BitVec.ofNat 64 most)).2.toNat) underlying30 underlying3 rfl rfl (by omega)) ?_
  refine Rr (asI rfl) ?_
  refine Qg (ZJ ?_)
  refine ⟨_, ZF rfl rfl, ?_⟩
  exact ⟨rfl, hr0, hX⟩
 refine Rr (mvB rfl) ?_
 refine ZR 3 8 rfl rfl (cvB (show (!(s.2 == 0)) = true by simp only [Bool.not_eq_true] at hok; rw [hok]; rfl)) rfl rfl ?_
 refine ZR 3 8 rfl rfl (cvB (show (!(s.2 == 0)) = true by simp only [Bool.not_eq_true] at hok; rw [hok]; rfl)) rfl rfl ?_
 refine ZR 3 8 rfl rfl (cvB (show (!(s.2 == 0)) = true by simp only [Bool.not_eq_true] at hok; rw [hok]; rfl)) rfl rfl ?_
 refine ZR 3 8 rfl rfl (cvB (show (!(s.2 == 0)) = true by simp only [Bool.not_eq_true] at hok; rw [hok]; rfl)) rfl rfl ?_
 refine ZR 3 8 rfl rfl (cvB (show (!(s.2 == 0)) = true by simp only [Bool.not_eq_true] at hok; rw [hok]; rfl)) rfl rfl ?_
 refine Rr (Jt (v := .bool _) (cvB (show (!(s.2 == 0)) = true by simp only [Bool.not_eq_true] at hok; rw [hok]; rfl)) rfl) ?_
 refine Qg ?_
 refine Jc rfl ?_
 refine QH (Qc ?_)
 refine Rr Zi ?_
 refine Qg (ZJ ?_)
 refine ⟨_, ZF rfl rfl, ?_⟩
 have e9 : uintS s (BitVec.ofNat 64 most) = (s, 0) := by rw [uintS, if_neg hok]
 rw [e9]; exact ⟨rfl, hr0, hX⟩

theorem rbytes_ok (v0 : Value) (D : Nat → Prop) (s : RSt) (most : Nat) (hmost : most ≤ 100000000) (w : World) (hr0 : Rdr 194 D w v0 s) (hl9 : s.1.length ≤ 100000000) : Ok Tryz.prog 121 #[v0, .int .i64 (most : Int)] w fun v w' => Own encB 1 5 (Fsh w w') w' v (bytesS s most).2 ∧ Rdr 194 D w' v0 (bytesS s most).1 ∧ Bel False (PtB v0) w w' := by
 obtain ⟨b, rfl⟩ := hr0.ptr
 have hm0 : decide ((most : Int) < 0) = false := decide_eq_false (by omega)
 have hm64 : (BitVec.ofNat 64 most).toNat = most := by rw [BitVec.toNat_ofNat]; exact Nat.mod_eq_of_lt (by omega)
 have hnl := numR_le s.1
 have hm65 : (BitVec.ofNat 64 (s.1.length - (numR s.1).2)).toNat = s.1.length - (numR s.1).2 := by rw [BitVec.toNat_ofNat]; exact Nat.mod_eq_of_lt (by omega)
 refine ZQ 58 func121 rfl rfl rfl ?_
 have hX : Bel False ((PtB (.pointer (some ⟨b, 0, none⟩)))) w w := Bel.refl _ _
 refine QH (Qc ?_)
 refine Rr Zi ?_
 refine Qg (QH (QH (Qc ?_)))
 refine Rr (Zt (v := .pointer (some ⟨b, 0, none⟩)) rfl) ?_
 refine ZC rfl (ZK call116 rfl) (Ok.mono (rok_ok (.pointer (some ⟨b, 0, none⟩)) _ s _ hr0) ?_)
 rintro _ w1 ⟨rfl, x2⟩
 have z3 := x2.size
 replace hX := hX.ex x2
 replace hr0 := hr0.ext x2
 refine Rr (Jf rfl) ?_
 refine (Decidable.em ((s.2 == 0) = true)).elim (fun hok => ?_) (fun hok => ?_)
 ·refine Rr (mvB rfl) ?_
  refine ZP 3 10 rfl (cvB (show (!(s.2 == 0)) = false by rw [hok]; rfl)) ?_
  refine Rr (Zt (v := .pointer (some ⟨b, 0, none⟩)) rfl) ?_
  refine ZP 3 10 rfl (cvB (show (!(s.2 == 0)) = false by rw [hok]; rfl)) ?_
  refine Rr (mvI rfl) ?_
  refine ZP 3 10 rfl (cvB (show (!(s.2 == 0)) = false by rw [hok]; rfl)) ?_
  refine Rr (Z5 rfl rfl) ?_
  refine ZP 3 10 rfl (cvB (show (!(s.2 == 0)) = false by rw [hok]; rfl)) ?_
  refine ZC rfl (JH call117 rfl rfl rfl) (Ok.mono (JZ (.pointer (some ⟨b, 0, none⟩)) _ s (decide ((most : Int) < 0)) 1 _ hr0) ?_)
  rintro _ w4 ⟨rfl, hr0, x5⟩
  have z6 := x5.size
  replace hX := Bel.out hX x5 om2
  refine ZP 3 10 rfl (cvB (show (!(s.2 == 0)) = false by rw [hok]; rfl)) ?_
  refine Rr (Jf rfl) ?_
  refine Rr (Jo (v := .bool _) (cvB (show (!(s.2 == 0)) = false by rw [hok]; rfl)) rfl) ?_
  refine Qg ?_
  refine ZY (cvB (show (!(!(decide ((most : Int) < 0)))) = false by rw [hm0]; rfl)) ?_
  refine ZH (QH (Qc ?_))
  rw [JS hm0] at hr0
  refine Rr (Zt (v := .pointer (some ⟨b, 0, none⟩)) rfl) ?_
  refine ZC rfl (ZK call118 rfl) (Ok.mono (rnum_ok (.pointer (some ⟨b, 0, none⟩)) _ s.1 s.2 _ hr0) ?_)
  rintro _ w7 ⟨rfl, x8⟩
  have z9 := x8.size
  replace hX := hX.ex x8
  replace hr0 := hr0.ext x8
  refine Rr (Zt (v := .tuple _) rfl) ?_
  refine Rr (ZS rfl rfl) ?_
  refine Rr (ZS rfl rfl) ?_
  refine Rr (asI rfl) ?_
  refine Rr (asI rfl) ?_
  refine Qg (QH (QH (Qc ?_)))
  refine Rr (Zt (v := .pointer (some ⟨b, 0, none⟩)) rfl) ?_
  refine Rr (mvI rfl) ?_
  refine Rr (ZZ rfl rfl) ?_
  refine (Decidable.em ((numR s.1).2 = 0)).elim (fun hn0 => ?_) (fun hn0 => ?_)
  ·refine ZC rfl (JH call117 rfl rfl rfl) (Ok.mono (JZ (.pointer (some ⟨b, 0, none⟩)) _ s ((((numR s.1).2 : Nat) : Int) == 0) 6 _ hr0) ?_)
   rintro _ w10 ⟨rfl, hr0, x11⟩
   have z12 := x11.size
   replace hX := Bel.out hX x11 om2
   refine Rr (Jf rfl) ?_
   refine Rr (mvB rfl) ?_
   refine ZR 5 27 rfl rfl (cvB (show (!(!((((numR s.1).2 : Nat) : Int) == 0))) = true by rw [hn0]; rfl)) rfl rfl ?_
   refine ZR 5 27 rfl rfl (cvB (show (!(!((((numR s.1).2 : Nat) : Int) == 0))) = true by rw [hn0]; rfl)) rfl rfl ?_
   refine ZR 5 27 rfl rfl (cvB (show (!(!((((numR s.1).2 : Nat) : Int) == 0))) = true by rw [hn0]; rfl)) rfl rfl ?_
   refine ZR 5 27 rfl rfl (cvB (show (!(!((((numR s.1).2 : Nat) : Int) == 0))) = true by rw [hn0]; rfl)) rfl rfl ?_
   refine ZR 5 27 rfl rfl (cvB (show (!(!((((numR s.1).2 : Nat) : Int) == 0))) = true by rw [hn0]; rfl)) rfl rfl ?_
   refine ZR 5 27 rfl rfl (cvB (show (!(!((((numR s.1).2 : Nat) : Int) == 0))) = true by rw [hn0]; rfl)) rfl rfl ?_
   refine ZR 5 27 rfl rfl (cvB (show (!(!((((numR s.1).2 : Nat) : Int) == 0))) = true by rw [hn0]; rfl)) rfl rfl ?_
   refine Rr (Jt (v := .bool _) (cvB (show (!(!((((numR s.1).2 : Nat) : Int) == 0))) = true by rw [hn0]; rfl)) rfl) ?_
   refine Rr (mvB rfl) ?_
   refine ZR 14 36 rfl rfl rfl rfl rfl ?_
   refine ZR 14 36 rfl rfl rfl rfl rfl ?_
   refine ZR 14 36 rfl rfl rfl rfl rfl ?_
   refine ZR 14 36 rfl rfl rfl rfl rfl ?_
   refine ZR 14 36 rfl rfl rfl rfl rfl ?_
   refine ZR 14 36 rfl rfl rfl rfl rfl ?_
   refine ZR 14 36 rfl rfl rfl rfl rfl ?_
   refine ZR 14 36 rfl rfl rfl rfl rfl ?_
   refine ZR 14 36 rfl rfl rfl rfl rfl ?_
   refine ZR 14 36 rfl rfl rfl rfl rfl ?_
   refine ZR 14 36 rfl rfl rfl rfl rfl ?_
   refine ZR 14 36 rfl rfl rfl rfl rfl ?_
   refine ZR 14 36 rfl rfl rfl rfl rfl ?_
   refine Rr (Jt (v := .bool _) rfl rfl) ?_
   refine Qg ?_
   refine Jc rfl ?_
   refine QH (Qc ?_)
   refine Rr Zi ?_
   refine Qg (ZJ ?_)
   refine ⟨_, ZF rfl rfl, ?_⟩
   rw [JV (show ((((numR s.1).2 : Nat) : Int) == 0) = true by rw [hn0]; rfl) hok] at hr0
   have e9 : bytesS s most = ((s.1, 6), []) := by rw [bytesS, if_pos hok, if_pos hn0]
   rw [e9]; exact ⟨Own.nil _ _, hr0, hX⟩
  refine ZC rfl (JH call117 rfl rfl rfl) (Ok.mono (JZ (.pointer (some ⟨b, 0, none⟩)) _ s ((((numR s.1).2 : Nat) : Int) == 0) 6 _ hr0) ?_)
  rintro _ w13 ⟨rfl, hr0, x14⟩
  have z15 := x14.size
  replace hX := Bel.out hX x14 om2
  refine Rr (Jf rfl) ?_
  refine Rr (mvB rfl) ?_
  rw [JS (show ((((numR s.1).2 : Nat) : Int) == 0) = false from neF (by omega))] at hr0
  refine ZP 5 27 rfl (cvB (show (!(!((((numR s.1).2 : Nat) : Int) == 0))) = false by rw [Bool.not_not]; exact neF (by omega))) ?_
  refine Rr (Zt (v := .pointer (some ⟨b, 0, none⟩)) rfl) ?_
  refine ZP 5 27 rfl (cvB (show (!(!((((numR s.1).2 : Nat) : Int) == 0))) = false by rw [Bool.not_not]; exact neF (by omega))) ?_
  refine Rr (mvI rfl) ?_
  refine ZP 5 27 rfl (cvB (show (!(!((((numR s.1).2 : Nat) : Int) == 0))) = false by rw [Bool.not_not]; exact neF (by omega))) ?_
  refine Rr (mvI rfl) ?_
  refine ZP 5 27 rfl (cvB (show (!(!((((numR s.1).2 : Nat) : Int) == 0))) = false by rw [Bool.not_not]; exact neF (by omega))) ?_
  refine Rr (o_convV (n := most) underlying3 underlying30 rfl (by omega)) ?_
  refine ZP 5 27 rfl (cvB (show (!(!((((numR s.1).2 : Nat) : Int) == 0))) = false by rw [Bool.not_not]; exact neF (by omega))) ?_
  refine Rr (JY rfl rfl) ?_
  refine (Decidable.em ((decide ((((BitVec.ofNat 64 most).toNat : Nat) : Int) < (((numR s.1).1.toNat : Nat) : Int))) = true)).elim (fun hvm => ?_) (fun hvm => ?_)
  ·refine ZP 5 27 rfl (cvB (show (!(!((((numR s.1).2 : Nat) : Int) == 0))) = false by rw [Bool.not_not]; exact neF (by omega))) ?_
   refine ZC rfl (JH call117 rfl rfl rfl) (Ok.mono (JZ (.pointer (some ⟨b, 0, none⟩)) _ s (decide ((((BitVec.ofNat 64 most).toNat : Nat) : Int) < (((numR s.1).1.toNat : Nat) : Int))) 3 _ hr0) ?_)
   rintro _ w16 ⟨rfl, hr0, x17⟩
   have z18 := x17.size
   replace hX := Bel.out hX x17 om2
   refine ZP 5 27 rfl (cvB (show (!(!((((numR s.1).2 : Nat) : Int) == 0))) = false by rw [Bool.not_not]; exact neF (by omega))) ?_
   refine Rr (Jf rfl) ?_
   refine Rr (Jo (v := .bool _) (cvB (show (!(!((((numR s.1).2 : Nat) : Int) == 0))) = false by rw [Bool.not_not]; exact neF (by omega))) rfl) ?_
   refine Rr (mvB rfl) ?_
   refine ZR 14 36 rfl rfl (cvB (show (!(!(decide ((((BitVec.ofNat 64 most).toNat : Nat) : Int) < (((numR s.1).1.toNat : Nat) : Int))))) = true by rw [hvm]; rfl)) rfl rfl ?_
   refine ZR 14 36 rfl rfl (cvB (show (!(!(decide ((((BitVec.ofNat 64 most).toNat : Nat) : Int) < (((numR s.1).1.toNat : Nat) : Int))))) = true by rw [hvm]; rfl)) rfl rfl ?_
   refine ZR 14 36 rfl rfl (cvB (show (!(!(decide ((((BitVec.ofNat 64 most).toNat : Nat) : Int) < (((numR s.1).1.toNat : Nat) : Int))))) = true by rw [hvm]; rfl)) rfl rfl ?_
   refine ZR 14 36 rfl rfl (cvB (show (!(!(decide ((((BitVec.ofNat 64 most).toNat : Nat) : Int) < (((numR s.1).1.toNat : Nat) : Int))))) = true by rw [hvm]; rfl)) rfl rfl ?_
   refine ZR 14 36 rfl rfl (cvB (show (!(!(decide ((((BitVec.ofNat 64 most).toNat : Nat) : Int) < (((numR s.1).1.toNat : Nat) : Int))))) = true by rw [hvm]; rfl)) rfl rfl ?_
   refine ZR 14 36 rfl rfl (cvB (show (!(!(decide ((((BitVec.ofNat 64 most).toNat : Nat) : Int) < (((numR s.1).1.toNat : Nat) : Int))))) = true by rw [hvm]; rfl)) rfl rfl ?_
   refine ZR 14 36 rfl rfl (cvB (show (!(!(decide ((((BitVec.ofNat 64 most).toNat : Nat) : Int) < (((numR s.1).1.toNat : Nat) : Int))))) = true by rw [hvm]; rfl)) rfl rfl ?_
   refine ZR 14 36 rfl rfl (cvB (show (!(!(decide ((((BitVec.ofNat 64 most).toNat : Nat) : Int) < (((numR s.1).1.toNat : Nat) : Int))))) = true by rw [hvm]; rfl)) rfl rfl ?_
   refine ZR 14 36 rfl rfl (cvB (show (!(!(decide ((((BitVec.ofNat 64 most).toNat : Nat) : Int) < (((numR s.1).1.toNat : Nat) : Int))))) = true by rw [hvm]; rfl)) rfl rfl ?_
   refine ZR 14 36 rfl rfl (cvB (show (!(!(decide ((((BitVec.ofNat 64 most).toNat : Nat) : Int) < (((numR s.1).1.toNat : Nat) : Int))))) = true by rw [hvm]; rfl)) rfl rfl ?_
   refine ZR 14 36 rfl rfl (cvB (show (!(!(decide ((((BitVec.ofNat 64 most).toNat : Nat) : Int) < (((numR s.1).1.toNat : Nat) : Int))))) = true by rw [hvm]; rfl)) rfl rfl ?_
   refine ZR 14 36 rfl rfl (cvB (show (!(!(decide ((((BitVec.ofNat 64 most).toNat : Nat) : Int) < (((numR s.1).1.toNat : Nat) : Int))))) = true by rw [hvm]; rfl)) rfl rfl ?_
   refine ZR 14 36 rfl rfl (cvB (show (!(!(decide ((((BitVec.ofNat 64 most).toNat : Nat) : Int) < (((numR s.1).1.toNat : Nat) : Int))))) = true by rw [hvm]; rfl)) rfl rfl ?_
   refine Rr (Jt (v := .bool _) (cvB (show (!(!(decide ((((BitVec.ofNat 64 most).toNat : Nat) : Int) < (((numR s.1).1.toNat : Nat) : Int))))) = true by rw [hvm]; rfl)) rfl) ?_
   refine Qg ?_
   refine Jc rfl ?_
   refine QH (Qc ?_)
   refine Rr Zi ?_
   refine Qg (ZJ ?_)
   refine ⟨_, ZF rfl rfl, ?_⟩
   rw [JV (show (decide ((((BitVec.ofNat 64 most).toNat : Nat) : Int) < (((numR s.1).1.toNat : Nat) : Int))) = true from hvm) hok] at hr0
   have e9 : bytesS s most = ((s.1, 3), []) := by rw [bytesS, if_pos hok, if_neg hn0, if_pos (by have := dcT hvm; omega)]
   rw [e9]; exact ⟨Own.nil _ _, hr0, hX⟩
  refine ZP 5 27 rfl (cvB (show (!(!((((numR s.1).2 : Nat) : Int) == 0))) = false by rw [Bool.not_not]; exact neF (by omega))) ?_
  refine ZC rfl (JH call117 rfl rfl rfl) (Ok.mono (JZ (.pointer (some ⟨b, 0, none⟩)) _ s (decide ((((BitVec.ofNat 64 most).toNat : Nat) : Int) < (((numR s.1).1.toNat : Nat) : Int))) 3 _ hr0) ?_)
  rintro _ w19 ⟨rfl, hr0, x20⟩
  have z21 := x20.size
  replace hX := Bel.out hX x20 om2
  refine ZP 5 27 rfl (cvB (show (!(!((((numR s.1).2 : Nat) : Int) == 0))) = false by rw [Bool.not_not]; exact neF (by omega))) ?_
  refine Rr (Jf rfl) ?_
  refine Rr (Jo (v := .bool _) (cvB (show (!(!((((numR s.1).2 : Nat) : Int) == 0))) = false by rw [Bool.not_not]; exact neF (by omega))) rfl) ?_
  refine Rr (mvB rfl) ?_
  rw [JS (show (decide ((((BitVec.ofNat 64 most).toNat : Nat) : Int) < (((numR s.1).1.toNat : Nat) : Int))) = false by simpa using hvm)] at hr0
  obtain ⟨ax, cx, hb, hx⟩ := hr0.open
  refine ZP 14 36 rfl (cvB (show (!(!(decide ((((BitVec.ofNat 64 most).toNat : Nat) : Int) < (((numR s.1).1.toNat : Nat) : Int))))) = false by rw [Bool.not_not]; simpa using hvm)) ?_
  refine Rr (Zt (v := .pointer (some ⟨b, 0, none⟩)) rfl) ?_
  refine ZP 14 36 rfl (cvB (show (!(!(decide ((((BitVec.ofNat 64 most).toNat : Nat) : Int) < (((numR s.1).1.toNat : Nat) : Int))))) = false by rw [Bool.not_not]; simpa using hvm)) ?_
  refine Rr (mvI rfl) ?_
  refine ZP 14 36 rfl (cvB (show (!(!(decide ((((BitVec.ofNat 64 most).toNat : Nat) : Int) < (((numR s.1).1.toNat : Nat) : Int))))) = false by rw [Bool.not_not]; simpa using hvm)) ?_
  refine Rr (Zt (v := .pointer (some ⟨b, 0, none⟩)) rfl) ?_
  refine ZP 14 36 rfl (cvB (show (!(!(decide ((((BitVec.ofNat 64 most).toNat : Nat) : Int) < (((numR s.1).1.toNat : Nat) : Int))))) = false by rw [Bool.not_not]; simpa using hvm)) ?_
  refine Rr (JI rfl) ?_
  refine ZP 14 36 rfl (cvB (show (!(!(decide ((((BitVec.ofNat 64 most).toNat : Nat) : Int) < (((numR s.1).1.toNat : Nat) : Int))))) = false by rw [Bool.not_not]; simpa using hvm)) ?_
  refine Rr (ZN underlying194 rfl sizeOf22 rfl) ?_
  refine ZP 14 36 rfl (cvB (show (!(!(decide ((((BitVec.ofNat 64 most).toNat : Nat) : Int) < (((numR s.1).1.toNat : Nat) : Int))))) = false by rw [Bool.not_not]; simpa using hvm)) ?_
  refine Rr (ZB isAgg22 rfl (hb.at.get 0 rfl)) ?_
  refine ZP 14 36 rfl (cvB (show (!(!(decide ((((BitVec.ofNat 64 most).toNat : Nat) : Int) < (((numR s.1).1.toNat : Nat) : Int))))) = false by rw [Bool.not_not]; simpa using hvm)) ?_
  refine Rr (Z0 underlying22 rfl) ?_
  refine ZP 14 36 rfl (cvB (show (!(!(decide ((((BitVec.ofNat 64 most).toNat : Nat) : Int) < (((numR s.1).1.toNat : Nat) : Int))))) = false by rw [Bool.not_not]; simpa using hvm)) ?_
  refine Rr (mvI rfl) ?_
  refine ZP 14 36 rfl (cvB (show (!(!(decide ((((BitVec.ofNat 64 most).toNat : Nat) : Int) < (((numR s.1).1.toNat : Nat) : Int))))) = false by rw [Bool.not_not]; simpa using hvm)) ?_
  refine Rr (o_subN (p := s.1.length) (b := (numR s.1).2) rfl rfl hnl (by omega)) ?_
  refine ZP 14 36 rfl (cvB (show (!(!(decide ((((BitVec.ofNat 64 most).toNat : Nat) : Int) < (((numR s.1).1.toNat : Nat) : Int))))) = false by rw [Bool.not_not]; simpa using hvm)) ?_
  refine Rr (o_convV (n := s.1.length - (numR s.1).2) underlying3 underlying30 rfl (by omega)) ?_
  refine ZP 14 36 rfl (cvB (show (!(!(decide ((((BitVec.ofNat 64 most).toNat : Nat) : Int) < (((numR s.1).1.toNat : Nat) : Int))))) = false by rw [Bool.not_not]; simpa using hvm)) ?_
  refine Rr (JY rfl rfl) ?_
  refine (Decidable.em ((decide ((((BitVec.ofNat 64 (s.1.length - (numR s.1).2)).toNat : Nat) : Int) < (((numR s.1).1.toNat : Nat) : Int))) = true)).elim (fun hlen => ?_) (fun hlen => ?_)
  ·refine ZP 14 36 rfl (cvB (show (!(!(decide ((((BitVec.ofNat 64 most).toNat : Nat) : Int) < (((numR s.1).1.toNat : Nat) : Int))))) = false by rw [Bool.not_not]; simpa using hvm)) ?_
   refine ZC rfl (JH call117 rfl rfl rfl) (Ok.mono (JZ (.pointer (some ⟨b, 0, none⟩)) _ s (decide ((((BitVec.ofNat 64 (s.1.length - (numR s.1).2)).toNat : Nat) : Int) < (((numR s.1).1.toNat : Nat) : Int))) 6 _ hr0) ?_)
   rintro _ w22 ⟨rfl, hr0, x23⟩
   have z24 := x23.size
   replace hX := Bel.out hX x23 om2
   refine ZP 14 36 rfl (cvB (show (!(!(decide ((((BitVec.ofNat 64 most).toNat : Nat) : Int) < (((numR s.1).1.toNat : Nat) : Int))))) = false by rw [Bool.not_not]; simpa using hvm)) ?_
   refine Rr (Jf rfl) ?_
   refine Rr (Jo (v := .bool _) (cvB (show (!(!(decide ((((BitVec.ofNat 64 most).toNat : Nat) : Int) < (((numR s.1).1.toNat : Nat) : Int))))) = false by rw [Bool.not_not]; simpa using hvm)) rfl) ?_
   refine Qg ?_
   refine Jc (cvB (show (!(!(decide ((((BitVec.ofNat 64 (s.1.length - (numR s.1).2)).toNat : Nat) : Int) < (((numR s.1).1.toNat : Nat) : Int))))) = true by rw [hlen]; rfl)) ?_
   refine QH (Qc ?_)
   refine Rr Zi ?_
   refine Qg (ZJ ?_)
   refine ⟨_, ZF rfl rfl, ?_⟩
   rw [JV (show (decide ((((BitVec.ofNat 64 (s.1.length - (numR s.1).2)).toNat : Nat) : Int) < (((numR s.1).1.toNat : Nat) : Int))) = true from hlen) hok] at hr0
   have e9 : bytesS s most = ((s.1, 6), []) := by rw [bytesS, if_pos hok, if_neg hn0, if_neg (by intro h; exact hvm (decide_eq_true (by omega))), if_pos (by have := dcT hlen; omega)]
   rw [e9]; exact ⟨Own.nil _ _, hr0, hX⟩
  refine ZP 14 36 rfl (cvB (show (!(!(decide ((((BitVec.ofNat 64 most).toNat : Nat) : Int) < (((numR s.1).1.toNat : Nat) : Int))))) = false by rw [Bool.not_not]; simpa using hvm)) ?_
  refine ZC rfl (JH call117 rfl rfl rfl) (Ok.mono (JZ (.pointer (some ⟨b, 0, none⟩)) _ s (decide ((((BitVec.ofNat 64 (s.1.length - (numR s.1).2)).toNat : Nat) : Int) < (((numR s.1).1.toNat : Nat) : Int))) 6 _ hr0) ?_)
  rintro _ w25 ⟨rfl, hr0, x26⟩
  have z27 := x26.size
  replace hX := Bel.out hX x26 om2
  refine ZP 14 36 rfl (cvB (show (!(!(decide ((((BitVec.ofNat 64 most).toNat : Nat) : Int) < (((numR s.1).1.toNat : Nat) : Int))))) = false by rw [Bool.not_not]; simpa using hvm)) ?_
  refine Rr (Jf rfl) ?_
  refine Rr (Jo (v := .bool _) (cvB (show (!(!(decide ((((BitVec.ofNat 64 most).toNat : Nat) : Int) < (((numR s.1).1.toNat : Nat) : Int))))) = false by rw [Bool.not_not]; simpa using hvm)) rfl) ?_
  refine Qg ?_
  refine ZY (cvB (show (!(!(decide ((((BitVec.ofNat 64 (s.1.length - (numR s.1).2)).toNat : Nat) : Int) < (((numR s.1).1.toNat : Nat) : Int))))) = false by rw [Bool.not_not]; simpa using hlen)) ?_
  refine ZH (QH (Qc ?_))
  rw [JS (show (decide ((((BitVec.ofNat 64 (s.1.length - (numR s.1).2)).toNat : Nat) : Int) < (((numR s.1).1.toNat : Nat) : Int))) = false by simpa using hlen)] at hr0
  refine Rr (Zt (v := .pointer (some ⟨b, 0, none⟩)) rfl) ?_
  refine Rr (mvI rfl) ?_
  refine ZC rfl (ZW call119 rfl rfl) (Ok.mono (rtake_ok (.pointer (some ⟨b, 0, none⟩)) _ s.1 s.2 (numR s.1).2 _ hr0 (numR_le _) hl9) ?_)
  rintro _ w28 ⟨_, hr0, x29⟩
  have z30 := x29.size
  replace hX := Bel.out hX x29 om2
  refine Qg (QH (Qc ?_))
  refine Rr (Zt (v := .pointer (some ⟨b, 0, none⟩)) rfl) ?_
  refine Rr (mvI rfl) ?_
  refine Rr (o_convU (n := (numR s.1).1.toNat) underlying30 underlying3 rfl rfl (by have := hvm; simp only [decide_eq_true_eq] at this; omega)) ?_
  refine ZC rfl (ZW call119 rfl rfl) (Ok.mono (rtake_ok (.pointer (some ⟨b, 0, none⟩)) _ (s.1.drop (numR s.1).2) s.2 (numR s.1).1.toNat _ hr0 (by rw [List.length_drop]; have h8 := hlen; simp only [decide_eq_true_eq] at h8; omega) (by rw [List.length_drop]; omega)) ?_)
  rintro v57 w31 ⟨hown57, hr0, x32⟩
  have z33 := x32.size
  replace hX := Bel.out hX x32 om2
  refine Rr (ZD (v := v57) rfl) ?_
  refine Qg (ZJ ?_)
  refine ⟨_, ZF rfl rfl, ?_⟩
  have e9 : bytesS s most = ((s.1.drop ((numR s.1).2 + (numR s.1).1.toNat), s.2), (s.1.drop (numR s.1).2).take (numR s.1).1.toNat) := by rw [bytesS, if_pos hok, if_neg hn0, if_neg (by intro h; exact hvm (decide_eq_true (by omega))), if_neg (by intro h; exact hlen (decide_eq_true (by omega)))]
  rw [e9]; rw [List.drop_drop] at hr0; exact ⟨hown57.mono (fun g h1 h2 => by omega), hr0, hX⟩
 refine Rr (mvB rfl) ?_
 refine ZR 3 10 rfl rfl (cvB (show (!(s.2 == 0)) = true by simp only [Bool.not_eq_true] at hok; rw [hok]; rfl)) rfl rfl ?_
 refine ZR 3 10 rfl rfl (cvB (show (!(s.2 == 0)) = true by simp only [Bool.not_eq_true] at hok; rw [hok]; rfl)) rfl rfl ?_
 refine ZR 3 10 rfl rfl (cvB (show (!(s.2 == 0)) = true by simp only [Bool.not_eq_true] at hok; rw [hok]; rfl)) rfl rfl ?_
 refine ZR 3 10 rfl rfl (cvB (show (!(s.2 == 0)) = true by simp only [Bool.not_eq_true] at hok; rw [hok]; rfl)) rfl rfl ?_
 refine ZR 3 10 rfl rfl (cvB (show (!(s.2 == 0)) = true by simp only [Bool.not_eq_true] at hok; rw [hok]; rfl)) rfl rfl ?_
 refine Rr (Jt (v := .bool _) (cvB (show (!(s.2 == 0)) = true by simp only [Bool.not_eq_true] at hok; rw [hok]; rfl)) rfl) ?_
 refine Qg ?_
 refine Jc rfl ?_
 refine QH (Qc ?_)
 refine Rr Zi ?_
 refine Qg (ZJ ?_)
 refine ⟨_, ZF rfl rfl, ?_⟩
 have e9 : bytesS s most = (s, []) := by rw [bytesS, if_neg hok]
 rw [e9]; exact ⟨Own.nil _ _, hr0, hX⟩

theorem rstr_ok (v0 : Value) (D : Nat → Prop) (s : RSt) (most : Nat) (hmost : most ≤ 100000000) (w : World) (hr0 : Rdr 194 D w v0 s) (hl9 : s.1.length ≤ 100000000) : Ok Tryz.prog 77 #[v0, .int .i64 (most : Int)] w fun v w' => v = str (bytesS s most).2 ∧ Rdr 194 D w' v0 (bytesS s most).1 ∧ Bel False (PtB v0) w w' := by
 refine ZQ 9 func77 rfl rfl rfl ?_
 have hX : Bel False ((PtB v0)) w w := Bel.refl _ _
 refine QH (Qc ?_)
 refine Rr Zi ?_
 refine Qg (QH (Qc ?_))
 refine Rr (Zt (v := v0) rfl) ?_
 refine Rr (mvI rfl) ?_
 refine ZC rfl (ZW call121 rfl rfl) (Ok.mono (rbytes_ok v0 _ s most hmost _ hr0 hl9) ?_)
 rintro v7 w1 ⟨hown7, hr0, x2⟩
 have z3 := x2.size
 replace hX := Bel.out hX x2 om2
 obtain ⟨a7, c7, hv7, -⟩ := hown7.sl Z6
 subst hv7
 refine Rr (o_bs underlying22 underlying5 underlying9 rfl (hown7.slA Z6)) ?_
 refine Rr (ZD (v := str _) rfl) ?_
 refine Qg (ZJ ?_)
 refine ⟨_, ZF rfl rfl, ?_⟩
 exact ⟨rfl, hr0, hX⟩

theorem rflag_ok (v0 : Value) (D : Nat → Prop) (s : RSt) (w : World) (hr0 : Rdr 194 D w v0 s) (hl9 : s.1.length ≤ 100000000) : Ok Tryz.prog 75 #[v0] w fun v w' => v = .bool (flagS s).2 ∧ Rdr 194 D w' v0 (flagS s).1 ∧ Bel False (PtB v0) w w' := by
 obtain ⟨b, rfl⟩ := hr0.ptr
 refine ZQ 31 func75 rfl rfl rfl ?_
 have hX : Bel False ((PtB (.pointer (some ⟨b, 0, none⟩)))) w w := Bel.refl _ _
 refine QH (Qc ?_)
 refine Rr Zi ?_
 refine Qg (QH (QH (Qc ?_)))
 refine Rr (Zt (v := .pointer (some ⟨b, 0, none⟩)) rfl) ?_
 refine ZC rfl (ZK call116 rfl) (Ok.mono (rok_ok (.pointer (some ⟨b, 0, none⟩)) _ s _ hr0) ?_)
 rintro _ w1 ⟨rfl, x2⟩
 have z3 := x2.size
 replace hX := hX.ex x2
 replace hr0 := hr0.ext x2
 refine Rr (Jf rfl) ?_
 refine (Decidable.em ((s.2 == 0) = true)).elim (fun hok => ?_) (fun hok => ?_)
 ·refine Rr (mvB rfl) ?_
  obtain ⟨ax, cx, hb, hx⟩ := hr0.open
  refine ZP 3 6 rfl (cvB (show (!(s.2 == 0)) = false by rw [hok]; rfl)) ?_
  refine Rr (Zt (v := .pointer (some ⟨b, 0, none⟩)) rfl) ?_
  refine ZP 3 6 rfl (cvB (show (!(s.2 == 0)) = false by rw [hok]; rfl)) ?_
  refine Rr (Zt (v := .pointer (some ⟨b, 0, none⟩)) rfl) ?_
  refine ZP 3 6 rfl (cvB (show (!(s.2 == 0)) = false by rw [hok]; rfl)) ?_
  refine Rr (JI rfl) ?_
  refine ZP 3 6 rfl (cvB (show (!(s.2 == 0)) = false by rw [hok]; rfl)) ?_
  refine Rr (ZN underlying194 rfl sizeOf22 rfl) ?_
  refine ZP 3 6 rfl (cvB (show (!(s.2 == 0)) = false by rw [hok]; rfl)) ?_
  refine Rr (ZB isAgg22 rfl (hb.at.get 0 rfl)) ?_
  refine ZP 3 6 rfl (cvB (show (!(s.2 == 0)) = false by rw [hok]; rfl)) ?_
  refine Rr (Z0 underlying22 rfl) ?_
  refine ZP 3 6 rfl (cvB (show (!(s.2 == 0)) = false by rw [hok]; rfl)) ?_
  refine Rr (ZZ rfl rfl) ?_
  refine (Decidable.em (s.1 = [])).elim (fun hnil => ?_) (fun hnil => ?_)
  ·refine ZP 3 6 rfl (cvB (show (!(s.2 == 0)) = false by rw [hok]; rfl)) ?_
   refine Rr (mvB rfl) ?_
   refine ZR 11 14 rfl rfl (cvB (show ((s.1.length : Int) == 0) = true by rw [hnil]; rfl)) rfl rfl ?_
   refine ZR 11 14 rfl rfl (cvB (show ((s.1.length : Int) == 0) = true by rw [hnil]; rfl)) rfl rfl ?_
   refine ZR 11 14 rfl rfl (cvB (show ((s.1.length : Int) == 0) = true by rw [hnil]; rfl)) rfl rfl ?_
   refine ZR 11 14 rfl rfl (cvB (show ((s.1.length : Int) == 0) = true by rw [hnil]; rfl)) rfl rfl ?_
   refine ZR 11 14 rfl rfl (cvB (show ((s.1.length : Int) == 0) = true by rw [hnil]; rfl)) rfl rfl ?_
   refine ZR 11 14 rfl rfl (cvB (show ((s.1.length : Int) == 0) = true by rw [hnil]; rfl)) rfl rfl ?_
   refine ZR 11 14 rfl rfl (cvB (show ((s.1.length : Int) == 0) = true by rw [hnil]; rfl)) rfl rfl ?_
   refine ZP 3 6 rfl (cvB (show (!(s.2 == 0)) = false by rw [hok]; rfl)) ?_
   refine Rr (Jt (v := .bool _) (cvB (show ((s.1.length : Int) == 0) = true by rw [hnil]; rfl)) rfl) ?_
   refine ZP 3 6 rfl (cvB (show (!(s.2 == 0)) = false by rw [hok]; rfl)) ?_
   refine ZC rfl (JH call117 rfl rfl rfl) (Ok.mono (JZ (.pointer (some ⟨b, 0, none⟩)) _ s true 6 _ hr0) ?_)
   rintro _ w4 ⟨rfl, hr0, x5⟩
   have z6 := x5.size
   replace hX := Bel.out hX x5 om2
   refine ZP 3 6 rfl (cvB (show (!(s.2 == 0)) = false by rw [hok]; rfl)) ?_
   refine Rr (Jf rfl) ?_
   refine Rr (Jo (v := .bool _) (cvB (show (!(s.2 == 0)) = false by rw [hok]; rfl)) rfl) ?_
   refine Qg ?_
   refine Jc rfl ?_
   refine QH (Qc ?_)
   refine Rr Zi ?_
   refine Qg (ZJ ?_)
   refine ⟨_, ZF rfl rfl, ?_⟩
   rw [JV (show (true : Bool) = true from rfl) hok] at hr0
   have e9 : flagS s = ((s.1, 6), false) := by rw [flagS, if_pos hok, if_pos (.inl hnil)]
   rw [e9]; exact ⟨rfl, hr0, hX⟩
  refine ZP 3 6 rfl (cvB (show (!(s.2 == 0)) = false by rw [hok]; rfl)) ?_
  refine Rr (mvB rfl) ?_
  have hpos : 1 ≤ s.1.length := Nat.pos_of_ne_zero (fun h => hnil (List.eq_nil_of_length_eq_zero h))
  refine ZP 11 14 rfl (cvB (show ((s.1.length : Int) == 0) = false from neF (fun h => hnil (List.eq_nil_of_length_eq_zero (by omega))))) ?_
  refine Rr (Zt (v := .pointer (some ⟨b, 0, none⟩)) rfl) ?_
  refine ZP 11 14 rfl (cvB (show ((s.1.length : Int) == 0) = false from neF (fun h => hnil (List.eq_nil_of_length_eq_zero (by omega))))) ?_
  refine Rr (JI rfl) ?_
  refine ZP 11 14 rfl (cvB (show ((s.1.length : Int) == 0) = false from neF (fun h => hnil (List.eq_nil_of_length_eq_zero (by omega))))) ?_
  refine Rr (ZN underlying194 rfl sizeOf22 rfl) ?_
  refine ZP 11 14 rfl (cvB (show ((s.1.length : Int) == 0) = false from neF (fun h => hnil (List.eq_nil_of_length_eq_zero (by omega))))) ?_
  refine Rr (ZB isAgg22 rfl (hb.at.get 0 rfl)) ?_
  refine ZP 11 14 rfl (cvB (show ((s.1.length : Int) == 0) = false from neF (fun h => hnil (List.eq_nil_of_length_eq_zero (by omega))))) ?_
  refine Rr (Js (i := 0) underlying22 sizeOf5 hx rfl rfl omg) ?_
  refine ZP 11 14 rfl (cvB (show ((s.1.length : Int) == 0) = false from neF (fun h => hnil (List.eq_nil_of_length_eq_zero (by omega))))) ?_
  refine Rr (Yf isAgg5 hx rfl rfl (Jw 0 (by omega)) rfl) ?_
  refine ZP 11 14 rfl (cvB (show ((s.1.length : Int) == 0) = false from neF (fun h => hnil (List.eq_nil_of_length_eq_zero (by omega))))) ?_
  refine Rr (JY rfl rfl) ?_
  refine ZP 3 6 rfl (cvB (show (!(s.2 == 0)) = false by rw [hok]; rfl)) ?_
  refine Rr (Jo (v := .bool _) (cvB (show ((s.1.length : Int) == 0) = false from neF (fun h => hnil (List.eq_nil_of_length_eq_zero (by omega))))) rfl) ?_
  refine (Decidable.em ((decide ((1 : Int) < ((s.1.getD 0 0).toNat : Int))) = true)).elim (fun hgt => ?_) (fun hgt => ?_)
  ·refine ZP 3 6 rfl (cvB (show (!(s.2 == 0)) = false by rw [hok]; rfl)) ?_
   refine ZC rfl (JH call117 rfl rfl rfl) (Ok.mono (JZ (.pointer (some ⟨b, 0, none⟩)) _ s (decide ((1 : Int) < ((s.1.getD 0 0).toNat : Int))) 6 _ hr0) ?_)
   rintro _ w7 ⟨rfl, hr0, x8⟩
   have z9 := x8.size
   replace hX := Bel.out hX x8 om2
   refine ZP 3 6 rfl (cvB (show (!(s.2 == 0)) = false by rw [hok]; rfl)) ?_
   refine Rr (Jf rfl) ?_
   refine Rr (Jo (v := .bool _) (cvB (show (!(s.2 == 0)) = false by rw [hok]; rfl)) rfl) ?_
   refine Qg ?_
   refine Jc (cvB (show (!(!(decide ((1 : Int) < ((s.1.getD 0 0).toNat : Int))))) = true by rw [hgt]; rfl)) ?_
   refine QH (Qc ?_)
   refine Rr Zi ?_
   refine Qg (ZJ ?_)
   refine ⟨_, ZF rfl rfl, ?_⟩
   rw [JV hgt hok] at hr0
   have e9 : flagS s = ((s.1, 6), false) := by rw [flagS, if_pos hok, if_pos (.inr (by have := dcT hgt; omega))]
   rw [e9]; exact ⟨rfl, hr0, hX⟩
  refine ZP 3 6 rfl (cvB (show (!(s.2 == 0)) = false by rw [hok]; rfl)) ?_
  refine ZC rfl (JH call117 rfl rfl rfl) (Ok.mono (JZ (.pointer (some ⟨b, 0, none⟩)) _ s (decide ((1 : Int) < ((s.1.getD 0 0).toNat : Int))) 6 _ hr0) ?_)
  rintro _ w10 ⟨rfl, hr0, x11⟩
  have z12 := x11.size
  replace hX := Bel.out hX x11 om2
  refine ZP 3 6 rfl (cvB (show (!(s.2 == 0)) = false by rw [hok]; rfl)) ?_
  refine Rr (Jf rfl) ?_
  refine Rr (Jo (v := .bool _) (cvB (show (!(s.2 == 0)) = false by rw [hok]; rfl)) rfl) ?_
  refine Qg ?_
  refine ZY (cvB (show (!(!(decide ((1 : Int) < ((s.1.getD 0 0).toNat : Int))))) = false by rw [Bool.not_not]; simpa using hgt)) ?_
  refine ZH (QH (Qc ?_))
  rw [JS (show (decide ((1 : Int) < ((s.1.getD 0 0).toNat : Int))) = false by simpa using hgt)] at hr0
  refine Rr (Zt (v := .pointer (some ⟨b, 0, none⟩)) rfl) ?_
  refine ZC rfl (ZW call119 rfl rfl) (Ok.mono (rtake_ok (.pointer (some ⟨b, 0, none⟩)) _ s.1 s.2 1 _ hr0 hpos hl9) ?_)
  rintro v27 w13 ⟨hown27, hr0, x14⟩
  have z15 := x14.size
  replace hX := Bel.out hX x14 om2
  obtain ⟨a27, c27, hv27, -⟩ := hown27.sl Z6
  have hl27 : (s.1.take 1).length = 1 := by rw [List.length_take]; omega
  have hg27 : (s.1.take 1).getD 0 0 = s.1.getD 0 0 := by simp only [List.getD]; rw [List.getElem?_take]; rfl
  subst hv27
  refine Rr (o_iaO (i := 0) underlying22 sizeOf5 hown27 rfl rfl (by omega)) ?_
  refine Rr (Yf isAgg5 (hown27.slA Z6) rfl rfl (Jw 0 (by omega)) rfl) ?_
  refine Rr (ZZ rfl rfl) ?_
  refine Rr (asB rfl) ?_
  refine Qg (ZJ ?_)
  refine ⟨_, ZF rfl rfl, ?_⟩
  have e9 : flagS s = ((s.1.drop 1, s.2), s.1.getD 0 0 == 1) := by rw [flagS, if_pos hok, if_neg (fun h => h.elim hnil (fun h => hgt (decide_eq_true (by omega))))]
  rw [e9]; refine ⟨?_, hr0, hX⟩
  rw [hg27]; exact cvB (flag_eq _)
 refine Rr (mvB rfl) ?_
 refine ZR 3 6 rfl rfl (cvB (show (!(s.2 == 0)) = true by simp only [Bool.not_eq_true] at hok; rw [hok]; rfl)) rfl rfl ?_
 refine ZR 3 6 rfl rfl (cvB (show (!(s.2 == 0)) = true by simp only [Bool.not_eq_true] at hok; rw [hok]; rfl)) rfl rfl ?_
 refine ZR 3 6 rfl rfl (cvB (show (!(s.2 == 0)) = true by simp only [Bool.not_eq_true] at hok; rw [hok]; rfl)) rfl rfl ?_
 refine ZR 3 6 rfl rfl (cvB (show (!(s.2 == 0)) = true by simp only [Bool.not_eq_true] at hok; rw [hok]; rfl)) rfl rfl ?_
 refine ZR 3 6 rfl rfl (cvB (show (!(s.2 == 0)) = true by simp only [Bool.not_eq_true] at hok; rw [hok]; rfl)) rfl rfl ?_
 refine ZR 3 6 rfl rfl (cvB (show (!(s.2 == 0)) = true by simp only [Bool.not_eq_true] at hok; rw [hok]; rfl)) rfl rfl ?_
 refine ZR 3 6 rfl rfl (cvB (show (!(s.2 == 0)) = true by simp only [Bool.not_eq_true] at hok; rw [hok]; rfl)) rfl rfl ?_
 refine ZR 3 6 rfl rfl (cvB (show (!(s.2 == 0)) = true by simp only [Bool.not_eq_true] at hok; rw [hok]; rfl)) rfl rfl ?_
 refine JC 11 14 rfl rfl rfl rfl ?_
 refine JC 11 14 rfl rfl rfl rfl ?_
 refine JC 11 14 rfl rfl rfl rfl ?_
 refine JC 11 14 rfl rfl rfl rfl ?_
 refine JC 11 14 rfl rfl rfl rfl ?_
 refine JC 11 14 rfl rfl rfl rfl ?_
 refine JC 11 14 rfl rfl rfl rfl ?_
 refine ZR 3 6 rfl rfl (cvB (show (!(s.2 == 0)) = true by simp only [Bool.not_eq_true] at hok; rw [hok]; rfl)) rfl rfl ?_
 refine ZR 3 6 rfl rfl (cvB (show (!(s.2 == 0)) = true by simp only [Bool.not_eq_true] at hok; rw [hok]; rfl)) rfl rfl ?_
 refine ZR 3 6 rfl rfl (cvB (show (!(s.2 == 0)) = true by simp only [Bool.not_eq_true] at hok; rw [hok]; rfl)) rfl rfl ?_
 refine Rr (Jt (v := .bool _) (cvB (show (!(s.2 == 0)) = true by simp only [Bool.not_eq_true] at hok; rw [hok]; rfl)) rfl) ?_
 refine Qg ?_
 refine Jc rfl ?_
 refine QH (Qc ?_)
 refine Rr Zi ?_
 refine Qg (ZJ ?_)
 refine ⟨_, ZF rfl rfl, ?_⟩
 have e9 : flagS s = (s, false) := by rw [flagS, if_neg hok]
 rw [e9]; exact ⟨rfl, hr0, hX⟩

