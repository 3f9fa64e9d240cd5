/- Walks: what functions return. -/
import Derived.Test.YtjnjalalkbamkaaGreatDoorWbits
import Derived.Test.YtjnjalalkbamkaaGreatDoorGi
import Derived.Test.YtjnjalalkbamkaaGreatDoorPure11f
import Derived.Test.YtjnjalalkbamkaaGreatDoorDrawC
import Derived.Test.YtjnjalalkbamkaaGreatDoorRng
import Derived.Test.YtjnjalalkbamkaaGreatDoorLk
set_option linter.unusedVariables false
set_option linter.unusedSimpArgs false
set_option linter.unnecessarySimpa false
namespace Go.Proofs.YtjnjalalkbamkaaGreatDoor
open Go Go.Lx Go.RowKit Tryz
set_option maxRecDepth 100000
theorem el_b8 : ElT Tryz.prog 30 5 1 1 (.int .u8 0) := ⟨underlying30, ⟨Tryz.t5, by kernel_rfl, rfl, rfl, rfl⟩, rfl, by decide, by decide⟩
theorem bclone_ok (v0 : Value) (G : Nat → Prop) (l : List UInt8) (w : World) (hl : Rd encB 1 G w v0 l) (hn : l.length ≤ 100000000) : Ok Tryz.prog 59 #[v0] w fun v w' => Own encB 1 5 (Fsh w w') w' v l ∧ Ext False w w' := by
 obtain ⟨a, c, rfl, hl⟩ := hl
 replace hl := hl.mono (F' := fun g => G g ∧ g < w.heap.size) (fun g h1 h2 => ⟨h2, h1⟩)
 refine Qz 8 func59 rfl rfl rfl ?_
 have hX := xRf w
 refine Qe (Qc ?_)
 refine Rr Qm ?_
 refine Qd (Qe (Qe (Qc ?_)))
 refine Rr (mvS rfl) ?_
 refine Rr (o_lnil underlying30 rfl) ?_
 refine Qd ?_
 refine QD rfl (fun hc1 => ?_) (fun hc1 => ?_)
 ·have hnl := sl_none hl hc1; subst hnl
  refine Qe (Qc ?_)
  refine Rr Qm ?_
  refine Qd (Qy ?_)
  refine ⟨_, Qp rfl rfl, ?_⟩
  exact ⟨Own.nil _ _, hX⟩
 refine Qu (Qe (Qc ?_))
 refine Rg_bs (vs := []) (([] : List UInt8)) rfl QI el_b8 rfl rfl trivial rfl rfl rfl rfl ?_
 intro a5 w1 x2 hown5
 have z3 := x2.size
 replace hX := hX.ex x2
 replace hl := hl.ext x2
 replace hown5 := hown5.mono (D' := fun g => w.heap.size ≤ g) (fun g h1 h2 => by omega)
 refine Rr (mvS rfl) ?_
 refine Rg_app rfl QI el_b8 rfl rfl hown5 hl rfl (by simp; omega) omU ?_
 intro v7 w4 x5 hown5
 have z6 := x5.size
 replace hX := Bel.out hX x5 om2
 refine Rr (Qv (v := v7) rfl) ?_
 refine Qd (Qy ?_)
 refine ⟨_, Qp rfl rfl, ?_⟩
 rw [List.nil_append] at hown5; exact ⟨hown5.mono (fun g h1 h2 => by omega), hX⟩

theorem brev_ok (v0 : Value) (D : Nat → Prop) (l : List UInt8) (w : World) (ho : Own encB 1 5 D w v0 l) (hl : l.length ≤ 1000000) : Ok Tryz.prog 97 #[v0] w fun v w' => v = .tuple #[] ∧ Own encB 1 5 D w' v0 l.reverse ∧ Bel True D w w' := by
 obtain ⟨a, c, rfl, -⟩ := ho.sl QI
 refine Qz 28 func97 rfl rfl rfl ?_
 have hX : Bel True (D) w w := Bel.refl _ _
 refine Qe (Qc ?_)
 refine Rr (mvS rfl) ?_
 refine Rr (QK underlying30 rfl) ?_
 refine Rr (o_sub rfl rfl omg) ?_
 refine Rr Qm ?_
 refine Rr (asI rfl) ?_
 refine Qd (QB ?_)
 refine Za (α := Nat × Nat × List UInt8) [(2, 3), (7, 27)] (fun q => [(2, .int .i64 (q.1 : Int)), (3, .int .i64 ((q.2.1 : Int) - 1))]) (fun q w' => (q.1 + q.2.1 = l.length ∧ RevI l q.2.2 q.1) ∧ Bel True (fun g => D g) w w' ∧ (Own encB 1 5 (fun g => D g) w' (.slice a l.length c) q.2.2)) (fun q => q.2.1) (0, l.length, l) ⟨rfl, rfl, trivial⟩ ⟨⟨by simp, RevI.start l⟩, Bel.refl _ _, ho⟩ ?_
 rintro ⟨i, j1, m⟩ fb3 w2 ⟨⟨hij0, hI⟩, hXL1, ho⟩
 dsimp only at *
 have z4 := Bel.size hXL1
 replace hX := Bel.out hX hXL1 (fun g h1 h2 => by first | exact h2 | (subst h2; exact hDg0) | omega)
 refine Qe (Qe (Qc ?_))
 refine Rr (mvI rfl) ?_
 refine Rr (mvI rfl) ?_
 refine Rr (QQ rfl rfl) ?_
 refine Qd ?_
 refine QD rfl (fun hc1 => ?_) (fun hc1 => ?_)
 ·replace hc1 := dcT hc1
  obtain ⟨j, rfl⟩ : ∃ j, j1 = j + 1 := ⟨j1 - 1, by omega⟩
  have hij : i < j := by omega
  have hml := hI.len
  rw [show (((j + 1 : Nat) : Int) - 1) = (j : Int) by omega]
  refine Qu (Qe (QB ?_))
  obtain ⟨g0, hg0, hDg0, hq⟩ := ho.blk0 (by intro e; rw [e] at hml; simp at hml; omega)
  apply Ze (β := True) (fun b => if b = g0 then 1 else 0) [peqC _, peqC _, peqC _, peqC _, peqC _, peqC _, peqC _, peqC _, peqC _, peqC _, peqC _, peqC _, peqC _, (postOwnAt encB 1 5 1 (.slice a l.length c) (m.set i (m.getD j 0)))] [0, 0, 0, 0, 0, 0, 0, 0, 0, 0, 0, 0, 0, 1] 14 Q9 (by kernel_rfl) (by kernel_rfl) rfl ⟨Qi _ _, Qi _ _, Qi _ _, Qi _ _, Qi _ _, Qi _ _, Qi _ _, Qi _ _, Qi _ _, Qi _ _, Qi _ _, Qi _ _, Qi _ _, (postOwnAt_stable), trivial⟩ ?ob3 ?fin3
  case ob3 =>
   refine Qk (fun w5 c7 x6 hc08 hk9 => ?_) ?_
   ·replace x6 := Bel.mono x6 (D' := fun g => g = g0) omC
    have z10 := x6.size
    refine Qj ?_
    exact Qs rfl (mvS rfl)
   refine Qk (fun w11 c13 x12 hc014 hk15 => ?_) ?_
   ·replace x12 := Bel.mono x12 (D' := fun g => g = g0) omC
    have z16 := x12.size
    refine Qj ?_
    exact Qs rfl (mvI rfl)
   refine Qk (fun w17 c19 x18 hc020 hk21 => ?_) ?_
   ·replace x18 := Bel.mono x18 (D' := fun g => g = g0) omC
    have z22 := x18.size
    refine Qj ?_
    exact Qs rfl (mvS rfl)
   refine Qk (fun w23 c25 x24 hc026 hk27 => ?_) ?_
   ·replace x24 := Bel.mono x24 (D' := fun g => g = g0) omC
    have z28 := x24.size
    refine Qj ?_
    exact Qs rfl (mvI rfl)
   refine Qk (fun w29 c31 x30 hc032 hk33 => ?_) ?_
   ·replace x30 := Bel.mono x30 (D' := fun g => g = g0) omC
    have z34 := x30.size
    refine Qj ?_
    exact Qs rfl (mvS rfl)
   refine Qk (fun w35 c37 x36 hc038 hk39 => ?_) ?_
   ·replace x36 := Bel.mono x36 (D' := fun g => g = g0) omC
    have z40 := x36.size
    refine Qj ?_
    exact Qs rfl (mvI rfl)
   refine Qk (fun w41 c43 x42 hc044 hk45 => ?_) ?_
   ·replace x42 := Bel.mono x42 (D' := fun g => g = g0) omC
    have z46 := x42.size
    have hq := hq.blk (hk45 1 (by decide) (by kernel_rfl) _ hq.lt (by first | (simp [colAt]; done) | (simp [colAt]; omega)))
    refine Qb (Qb (Qj ?_))
    exact Qs rfl (Zf (i := j) underlying30 sizeOf5 hq.1 rfl rfl (by omega))
   refine Qk (fun w47 c49 x48 hc050 hk51 => ?_) ?_
   ·replace x48 := Bel.mono x48 (D' := fun g => g = g0) omC
    have z52 := x48.size
    have hq := hq.blk (hk51 1 (by decide) (by kernel_rfl) _ hq.lt (by first | (simp [colAt]; done) | (simp [colAt]; omega)))
    refine Qb (Qj ?_)
    exact Qs rfl (o_ldR isAgg5 ((show Own encB 1 5 (fun b => b = g0) _ (.slice a m.length c) m by rw [hml]; exact hq.1).slA QI) rfl rfl (getE 0 (by omega)) rfl)
   refine Qk (fun w53 c55 x54 hc056 hk57 => ?_) ?_
   ·replace x54 := Bel.mono x54 (D' := fun g => g = g0) omC
    have z58 := x54.size
    refine Qj ?_
    exact Qs rfl (mvS rfl)
   refine Qk (fun w59 c61 x60 hc062 hk63 => ?_) ?_
   ·replace x60 := Bel.mono x60 (D' := fun g => g = g0) omC
    have z64 := x60.size
    refine Qj ?_
    exact Qs rfl (mvI rfl)
   refine Qk (fun w65 c67 x66 hc068 hk69 => ?_) ?_
   ·replace x66 := Bel.mono x66 (D' := fun g => g = g0) omC
    have z70 := x66.size
    have hq := hq.blk (hk69 1 (by decide) (by kernel_rfl) _ hq.lt (by first | (simp [colAt]; done) | (simp [colAt]; omega)))
    refine Qb (Qb (Qj ?_))
    exact Qs rfl (Zf (i := i) underlying30 sizeOf5 hq.1 rfl rfl (by omega))
   refine Qk (fun w71 c73 x72 hc074 hk75 => ?_) ?_
   ·replace x72 := Bel.mono x72 (D' := fun g => g = g0) omC
    have z76 := x72.size
    have hq := hq.blk (hk75 1 (by decide) (by kernel_rfl) _ hq.lt (by first | (simp [colAt]; done) | (simp [colAt]; omega)))
    refine Qb (Qj ?_)
    exact Qs rfl (o_ldR isAgg5 ((show Own encB 1 5 (fun b => b = g0) _ (.slice a m.length c) m by rw [hml]; exact hq.1).slA QI) rfl rfl (getE 0 (by omega)) rfl)
   refine Qk (fun w77 c79 x78 hc080 hk81 => ?_) ?_
   ·replace x78 := Bel.mono x78 (D' := fun g => g = g0) omC
    have z82 := x78.size
    have hq := hq.blk (hk81 1 (by decide) (by kernel_rfl) _ hq.lt (by first | (simp [colAt]; done) | (simp [colAt]; omega)))
    refine Qb (Qb (Qb (Qb (Qb (Qb (Qb (Qb (Qb ?_))))))))
    refine Qj ?_
    exact Qs rfl (Zf (i := i) underlying30 sizeOf5 hq.1 rfl rfl (by omega))
   refine Qk (fun w83 c85 x84 hc086 hk87 => ?_) ?_
   ·replace x84 := Bel.mono x84 (D' := fun g => g = g0) omC
    have z88 := x84.size
    refine Qb (Qb (Qb (Qb (Qb (Qb (Qb (Qb (Qb ?_))))))))
    refine Qj ?_
    exact OpC_elst (kc := 1) (i := i) (u := m.getD j 0) (by decide) QI sizeOf5 rfl rfl rfl ((hq.blk (hk87 1 (by decide) (by kernel_rfl) _ hq.lt (by first | (simp [colAt]; done) | (simp [colAt]; omega)))).col ((hc086 g0 hq.lt).trans (by first | (simp [colAt]; done) | (simp [colAt]; omega)))) (by omega)
   exact Q8
  case fin3 =>
   intro w89 c91 x90 hc092
   replace x90 := Bel.mono x90 (D' := fun g => g = g0) omC
   have z93 := x90.size
   replace hX := Bel.out hX x90 (fun g h1 h2 => by first | exact h2 | (subst h2; exact hDg0) | omega)
   replace hXL1 := Bel.out hXL1 x90 (fun g h1 h2 => by first | exact h2 | (subst h2; exact hDg0) | omega)
   refine Qb (Qb (Qb (Qb (Qb (Qb (Qb (Qb (Qb ?_))))))))
   refine Qb (Qb (Qb (Qb ?_)))
   refine bindC_lk rfl (fun hst13 => ?_)
   refine Qj ?_
   change Own _ _ _ _ _ _ _ at hst13
   have ho := hst13.at (D' := D) (fun g h1 h2 => by rw [hg0] at h2; cases h2; exact hDg0)
   refine Rr (Zf (i := j) underlying30 sizeOf5 ho rfl rfl (by omega)) ?_
   refine Rg_elst (u := (m.getD i 0)) rfl QI sizeOf5 rfl rfl rfl ho (by rw [List.length_set]; omega) ?_
   intro w94 x95 ho
   have z96 := x95.size
   replace hX := Bel.out hX x95 (fun g h1 h2 => by first | exact h2 | (subst h2; exact hDg0) | omega)
   replace hXL1 := Bel.out hXL1 x95 (fun g h1 h2 => by first | exact h2 | (subst h2; exact hDg0) | omega)
   refine Qd (Qc ?_)
   refine Rr (mvI rfl) ?_
   refine Rr (Q6 rfl rfl omg) ?_
   refine Rr (mvI rfl) ?_
   refine Rr (o_sub rfl rfl omg) ?_
   refine Rr (asI rfl) ?_
   refine Rr (asI rfl) ?_
   refine Qd ?_
   refine ⟨(i + 1, j, (m.set i (m.getD j 0)).set j (m.getD i 0)), ⟨sT, ?_, trivial⟩, oT, ⟨?_, hXL1, ?_⟩, ?_⟩
   ·first | rfl | (exact congrArg _ (by omega)) | (show Value.int .i64 ((j : Int) - 1) = .int .i64 ((j : Int) - 1); rfl)
   ·exact ⟨by show i + 1 + j = l.length; omega, hI.step (by omega) hij⟩
   ·exact ho
   ·show j < j + 1; omega
 replace hc1 := dcF hc1
 refine QS (QL ?_)
 refine ⟨_, res_none rfl, ?_⟩
 have e := hI.fin (by omega)
 rw [← e]; exact ⟨rfl, ho, hX⟩

theorem wgrp_ok (x : W64) (w : World) : Ok Tryz.prog 67 #[u64 x] w fun v w' => Own encB 1 5 (Fsh w w') w' v (putU x) ∧ Ext False w w' := by
 have hgl := gT_len (x >>> 7) 10 (by have := (x >>> 7).isLt; omega)
 refine Qz 24 func67 rfl rfl rfl ?_
 have hX := xRf w
 refine Qe (Qc ?_)
 refine Rr Qm ?_
 refine Qd (Qe (Qc ?_))
 refine Rr (mvI rfl) ?_
 refine Rr (o_band (b := BitVec.ofNat 64 127) rfl rfl) ?_
 refine Rr (o_convUB underlying67 underlying5 rfl) ?_
 refine Rg_bs (vs := [.int _ _]) ([b7 x]) rfl QI el_b8 rfl rfl ⟨rfl, trivial⟩ rfl rfl rfl rfl ?_
 intro a7 w1 x2 hown7
 have z3 := x2.size
 replace hX := hX.ex x2
 replace hown7 := hown7.mono (D' := fun g => w.heap.size ≤ g) (fun g h1 h2 => by omega)
 refine Rr (asS rfl) ?_
 refine Qd (Qe (Qe (Qc ?_)))
 refine Rr (mvI rfl) ?_
 refine Rr (o_shrU (n := 7) rfl rfl omg) ?_
 refine Rr (asI rfl) ?_
 refine Qd (QB ?_)
 refine Za (α := W64 × List UInt8 × Value) [(0, 0), (3, 3), (10, 20)] (fun q => [(0, u64 q.1), (3, q.2.2)]) (fun q w' => (q.2.1 ++ gT q.1 = gT (x >>> 7)) ∧ Bel False (fun g => w.heap.size ≤ g) w1 w' ∧ (Own encB 1 5 (fun g => w.heap.size ≤ g) w' q.2.2 (b7 x :: q.2.1))) (fun q => q.1.toNat) (x >>> 7, [], .slice a7 1 1) ⟨rfl, rfl, trivial⟩ ⟨rfl, Bel.refl _ _, hown7⟩ ?_
 rintro ⟨y, l, u⟩ fb6 w5 ⟨hI, hXL4, hown⟩
 dsimp only at *
 have z7 := Bel.size hXL4
 replace hX := Bel.out hX hXL4 om2
 refine Qe (Qe (Qc ?_))
 refine Rr (mvI rfl) ?_
 refine Rr (o_gtr rfl rfl) ?_
 refine Qd ?_
 refine QD rfl (fun hc1 => ?_) (fun hc1 => ?_)
 ·replace hc1 := dcT hc1
  have hy0 : y ≠ 0 := fun h => by subst h; simp at hc1
  refine Qu (Qe (QB (Qc ?_)))
  refine Rr (Ql (v := u) rfl) ?_
  refine Rr (mvI rfl) ?_
  refine Rr (o_band (b := BitVec.ofNat 64 127) rfl rfl) ?_
  refine Rr (o_convUB underlying67 underlying5 rfl) ?_
  refine Rr (o_borB (a := b7 y) (b := 128) rfl rfl) ?_
  refine Rg_bs (vs := [.int _ _]) ([b7 y ||| 128]) rfl QI el_b8 rfl rfl ⟨rfl, trivial⟩ rfl rfl rfl rfl ?_
  intro a19 w8 x9 hown19
  have z10 := x9.size
  replace hX := hX.ex x9
  replace hXL4 := Bel.ex hXL4 x9
  replace hown := hown.ext x9
  replace hown19 := hown19.mono (D' := fun g => w.heap.size ≤ g) (fun g h1 h2 => by omega)
  refine Rg_app rfl QI el_b8 rfl rfl hown (hown19.slA QI) rfl (by have := congrArg List.length hI; simp at *; omega) omU ?_
  intro v20 w11 x12 hown
  have z13 := x12.size
  replace hX := Bel.out hX x12 om2
  replace hXL4 := Bel.out hXL4 x12 om2
  refine Rr (Qv (v := v20) rfl) ?_
  refine Qd (Qc ?_)
  refine Rr (mvI rfl) ?_
  refine Rr (o_shrU (n := 7) rfl rfl omg) ?_
  refine Rr (asI rfl) ?_
  refine Qd ?_
  refine ⟨(y >>> 7, l ++ [b7 y ||| 128], v20), ⟨sT, sT, trivial⟩, oT, ⟨?_, hXL4, ?_⟩, ?_⟩
  ·show (l ++ [b7 y ||| 128]) ++ gT (y >>> 7) = _; rw [List.append_assoc, List.singleton_append, ← gT_some hy0]; exact hI
  ·exact hown
  ·exact shr7_lt hy0
 replace hc1 := dcF hc1
 have hy0 : y = 0 := BitVec.eq_of_toNat_eq (by simp; omega)
 refine QS (QL (Qe (Qc ?_)))
 refine Rr (Ql (v := u) rfl) ?_
 refine Qo rfl (QA call97 rfl) (Ok.mono (brev_ok _ _ _ _ hown (by have := congrArg List.length hI; simp at *; omega)) ?_)
 rintro _ w14 ⟨rfl, hown, x15⟩
 have z16 := x15.size
 replace hX := Bel.out hX x15 om2
 refine Qd (Qe (Qc ?_))
 refine Rr (Ql (v := u) rfl) ?_
 refine Rr (Qv (v := u) rfl) ?_
 refine Qd (Qy ?_)
 refine ⟨_, Qp rfl rfl, ?_⟩
 rw [hy0, gT_zero, List.append_nil] at hI
 rw [putU, ← hI]
 exact ⟨hown.mono (fun g h1 h2 => by omega), hX⟩

theorem wnew_ok (w : World) : Ok Tryz.prog 32 #[] w fun v w' => Wr 134 5 (Fsh w w') w' v [] ∧ Ext False w w' := by
 refine Qz 3 func32 rfl rfl rfl ?_
 have hX := xRf w
 refine Qe (Qc ?_)
 refine Rr Qm ?_
 refine Qd (Qe (Qc ?_))
 refine Rr (QZ (cells := [.slice none 0 0]) (vs := []) rfl (by kernel_rfl)) ?_
 refine QJ rfl (Q4 (v := .agg _) rfl) ?_
 intro b2 w1 x2 hge2 hb2
 have hlt2 := hb2.lt
 have z3 := x2.size
 replace hX := hX.ex x2
 refine Rr (Qv (v := .pointer _) rfl) ?_
 refine Qd (Qy ?_)
 refine ⟨_, Qp rfl rfl, ?_⟩
 change Box _ _ _ [.slice none 0 0] at hb2
 exact ⟨⟨b2, _, rfl, ⟨by omega, hb2.lt⟩, hb2, Own.nil _ _⟩, hX⟩

theorem wraw_ok (v0 : Value) (D : Nat → Prop) (l : List UInt8) (v1 : Value) (G : Nat → Prop) (y : List UInt8) (w : World) (hw0 : Wr 134 5 D w v0 l) (hU : ∀ g, w.heap.size ≤ g → D g) (hy : Rd encB 1 G w v1 y) (hn : l.length + y.length ≤ 100000000) : Ok Tryz.prog 66 #[v0, v1] w fun v w' => v = .tuple #[] ∧ Wr 134 5 D w' v0 (l ++ y) ∧ Bel False D w w' := by
 obtain ⟨b, u, rfl, hDb, hb, ho⟩ := hw0
 obtain ⟨ay, cy, rfl, hy⟩ := hy
 refine Qz 15 func66 rfl rfl rfl ?_
 have hX : Bel False (D) w w := Bel.refl _ _
 refine Qe (Qc ?_)
 refine Rr (Ql (v := .pointer _) rfl) ?_
 refine Rr (o_pne underlying78 rfl rfl) ?_
 refine Qd ?_
 refine Q2 rfl ?_
 refine Qc ?_
 refine Rr (Ql (v := .pointer _) rfl) ?_
 refine Rr (Ql (v := .pointer _) rfl) ?_
 refine Rr (QG rfl) ?_
 refine Rr (Qx underlying134 rfl sizeOf30 rfl) ?_
 refine Rr (Qn isAgg30 rfl (hb.at.get 0 rfl)) ?_
 refine Rr (mvS rfl) ?_
 refine Rg_app rfl QI el_b8 rfl rfl ho hy rfl (by omega) (fun g h => ⟨hU g h, fun e => by have := hb.lt; omega⟩) ?_
 intro v12 w1 x2 ho
 have z3 := x2.size
 replace hX := Bel.out hX x2 (fun g h1 h2 => by first | exact h2.1 | (cases h2; exact hDb))
 replace hb := hb.keep x2 om1
 obtain ⟨a12, c12, hv12, -⟩ := ho.sl QI
 subst hv12
 refine Rr (QG rfl) ?_
 refine Rr (Qx underlying134 rfl sizeOf30 rfl) ?_
 refine QY (v := .slice _ _ _) rfl sizeOf30 rfl rfl hb rfl rfl rfl ?_
 intro w4 c5 hb
 have z6 := Bel.size c5
 replace hX := Bel.out hX c5 (fun g h1 h2 => by first | exact h2.1 | (cases h2; exact hDb))
 replace ho := ho.keepD c5 om3
 refine Qd ?_
 refine ⟨_, res_none rfl, ?_⟩
 exact ⟨rfl, ⟨b, _, rfl, hDb, hb, ho⟩, hX⟩

theorem wuint_ok (v0 : Value) (D : Nat → Prop) (l : List UInt8) (x : W64) (w : World) (hw0 : Wr 134 5 D w v0 l) (hU : ∀ g, w.heap.size ≤ g → D g) (hn : l.length ≤ 90000000) : Ok Tryz.prog 33 #[v0, u64 x] w fun v w' => v = .tuple #[] ∧ Wr 134 5 D w' v0 (l ++ putU x) ∧ Bel False D w w' := by
 have hpl := QP x
 refine Qz 8 func33 rfl rfl rfl ?_
 have hX : Bel False (D) w w := Bel.refl _ _
 refine Qc ?_
 refine Rr (Ql (v := v0) rfl) ?_
 refine Rr (mvI rfl) ?_
 refine Qo rfl (QA call67 rfl) (Ok.mono (wgrp_ok _ _) ?_)
 rintro v6 w1 ⟨hown6, x2⟩
 have z3 := x2.size
 replace hX := hX.ex x2
 replace hw0 := hw0.ext x2
 replace hown6 := hown6.mono (D' := fun g => w.heap.size ≤ g) (fun g h1 h2 => by omega)
 refine Qo rfl (QM call66 rfl rfl) (Ok.mono (wraw_ok _ _ _ _ _ _ _ hw0 (fun g h => hU g (by omega)) (hown6.trd QI) (by omega)) ?_)
 rintro _ w4 ⟨rfl, hw0, x5⟩
 have z6 := x5.size
 replace hX := Bel.out hX x5 om2
 refine Qd ?_
 refine ⟨_, res_none rfl, ?_⟩
 exact ⟨rfl, hw0, hX⟩

theorem wout_ok (v0 : Value) (D : Nat → Prop) (l : List UInt8) (w : World) (hw0 : Wr 134 5 D w v0 l) (hn : l.length ≤ 100000000) : Ok Tryz.prog 35 #[v0] w fun v w' => Own encB 1 5 (Fsh w w') w' v l ∧ Ext False w w' := by
 obtain ⟨b, u, rfl, hDb, hb, ho⟩ := hw0
 refine Qz 10 func35 rfl rfl rfl ?_
 have hX := xRf w
 refine Qe (Qc ?_)
 refine Rr Qm ?_
 refine Qd (Qe (Qe (Qc ?_)))
 refine Rr (Ql (v := .pointer _) rfl) ?_
 refine Rr (o_peq underlying78 rfl rfl) ?_
 refine Qd ?_
 refine Qr rfl ?_
 refine Qu (Qe (Qc ?_))
 refine Rr (Ql (v := .pointer _) rfl) ?_
 refine Rr (QG rfl) ?_
 refine Rr (Qx underlying134 rfl sizeOf30 rfl) ?_
 refine Rr (Qn isAgg30 rfl (hb.at.get 0 rfl)) ?_
 refine Qo rfl (QA call59 rfl) (Ok.mono (bclone_ok _ _ _ _ (ho.trd QI) hn) ?_)
 rintro v9 w1 ⟨hown9, x2⟩
 have z3 := x2.size
 replace hX := hX.ex x2
 replace hown9 := hown9.mono (D' := fun g => w.heap.size ≤ g) (fun g h1 h2 => by omega)
 refine Rr (Qv (v := v9) rfl) ?_
 refine Qd (Qy ?_)
 refine ⟨_, Qp rfl rfl, ?_⟩
 exact ⟨hown9.mono (fun g h1 h2 => ⟨by omega, h1⟩), hX⟩

theorem wflag_ok (v0 : Value) (D : Nat → Prop) (l : List UInt8) (y : Bool) (w : World) (hw0 : Wr 134 5 D w v0 l) (hU : ∀ g, w.heap.size ≤ g → D g) (hn : l.length ≤ 90000000) : Ok Tryz.prog 34 #[v0, .bool y] w fun v w' => v = .tuple #[] ∧ Wr 134 5 D w' v0 (l ++ [putF y]) ∧ Bel False D w w' := by
 refine Qz 11 func34 rfl rfl rfl ?_
 have hX : Bel False (D) w w := Bel.refl _ _
 refine Qe (Qe (Qc ?_))
 refine Rr (mvB rfl) ?_
 refine Qd ?_
 refine QD rfl (fun hc1 => ?_) (fun hc1 => ?_)
 ·refine Qe (Qc ?_)
  refine Rr (Ql (v := v0) rfl) ?_
  refine Rg_bs (vs := [.int _ _]) (([1] : List UInt8)) rfl QI el_b8 rfl rfl ⟨rfl, trivial⟩ rfl rfl rfl rfl ?_
  intro a6 w1 x2 hown6
  have z3 := x2.size
  replace hX := hX.ex x2
  replace hw0 := hw0.ext x2
  replace hown6 := hown6.mono (D' := fun g => w.heap.size ≤ g) (fun g h1 h2 => by omega)
  refine Qo rfl (QM call66 rfl rfl) (Ok.mono (wraw_ok v0 _ _ _ _ _ _ hw0 (fun g h => hU g (by omega)) (hown6.trd QI) (by simp; omega)) ?_)
  rintro _ w4 ⟨rfl, hw0, x5⟩
  have z6 := x5.size
  replace hX := Bel.out hX x5 om2
  refine Qd (Qy ?_)
  refine ⟨_, res_none rfl, ?_⟩
  have e1 : putF y = 1 := by rw [hc1]; rfl
  rw [e1]; exact ⟨rfl, hw0, hX⟩
 refine Qu (Qc ?_)
 refine Rr (Ql (v := v0) rfl) ?_
 refine Rg_bs (vs := [.int _ _]) (([0] : List UInt8)) rfl QI el_b8 rfl rfl ⟨rfl, trivial⟩ rfl rfl rfl rfl ?_
 intro a9 w7 x8 hown9
 have z9 := x8.size
 replace hX := hX.ex x8
 replace hw0 := hw0.ext x8
 replace hown9 := hown9.mono (D' := fun g => w.heap.size ≤ g) (fun g h1 h2 => by omega)
 refine Qo rfl (QM call66 rfl rfl) (Ok.mono (wraw_ok v0 _ _ _ _ _ _ hw0 (fun g h => hU g (by omega)) (hown9.trd QI) (by simp; omega)) ?_)
 rintro _ w10 ⟨rfl, hw0, x11⟩
 have z12 := x11.size
 replace hX := Bel.out hX x11 om2
 refine Qd ?_
 refine ⟨_, res_none rfl, ?_⟩
 have e1 : putF y = 0 := by rw [hc1]; rfl
 rw [e1]; exact ⟨rfl, hw0, hX⟩

theorem rnew_ok (v0 : Value) (G : Nat → Prop) (l : List UInt8) (w : World) (hl : Rd encB 1 G w v0 l) (hn : l.length ≤ 100000000) : Ok Tryz.prog 22 #[v0] w fun v w' => Rdr 126 (Fsh w w') w' v (l, 0) ∧ Ext False w w' := by
 refine Qz 7 func22 rfl rfl rfl ?_
 have hX := xRf w
 refine Qe (Qc ?_)
 refine Rr Qm ?_
 refine Qd (Qe (Qc ?_))
 refine Rr (Ql (v := v0) rfl) ?_
 refine Qo rfl (QA call59 rfl) (Ok.mono (bclone_ok _ _ _ _ hl hn) ?_)
 rintro v4 w1 ⟨hown4, x2⟩
 have z3 := x2.size
 replace hX := hX.ex x2
 replace hown4 := hown4.mono (D' := fun g => w.heap.size ≤ g) (fun g h1 h2 => by omega)
 obtain ⟨a4, c4, hv4, -⟩ := hown4.sl QI
 subst hv4
 obtain ⟨n5, hn5⟩ : ∃ n, n = w1.heap.size := ⟨_, rfl⟩
 replace hown4 := hown4.mono (D' := fun g => w.heap.size ≤ g ∧ g < n5) (fun g h1 h2 => ⟨h2, by omega⟩)
 refine Rr (QZ (cells := [.slice a4 l.length c4, .int .i64 0]) (vs := [(0, .slice _ _ _)]) rfl (by kernel_rfl)) ?_
 refine QJ rfl (Q4 (v := .agg _) rfl) ?_
 intro b6 w4 x5 hge6 hb6
 have hlt6 := hb6.lt
 change Box _ _ _ (rdC _ _) at hb6
 have z6 := x5.size
 replace hX := hX.ex x5
 replace hown4 := hown4.ext x5
 refine Rr (Qv (v := .pointer _) rfl) ?_
 refine Qd (Qy ?_)
 refine ⟨_, Qp rfl rfl, ?_⟩
 exact ⟨⟨b6, _, rfl, ⟨by omega, hb6.lt⟩, hb6, (hown4.rd QI).mono (fun g h1 h2 => ⟨⟨by omega, by omega⟩, by omega⟩)⟩, hX⟩

theorem rok_ok (v0 : Value) (D : Nat → Prop) (s : RSt) (w : World) (hr0 : Rdr 126 D w v0 s) : Ok Tryz.prog 60 #[v0] w fun v w' => v = .bool (s.2 == 0) ∧ Ext False w w' := by
 obtain ⟨b, u, rfl, hDb, hb, hx⟩ := hr0
 obtain ⟨ax, cx, rfl, hx⟩ := hx
 refine Qz 12 func60 rfl rfl rfl ?_
 have hX := xRf w
 refine Qe (Qc ?_)
 refine Rr Qm ?_
 refine Qd (Qe (Qc ?_))
 refine Rr (Ql (v := .pointer _) rfl) ?_
 refine Rr (o_pne underlying69 rfl rfl) ?_
 refine Rr (mvB rfl) ?_
 refine QF 2 5 rfl rfl ?_
 refine Rr (Ql (v := .pointer _) rfl) ?_
 refine QF 2 5 rfl rfl ?_
 refine Rr (QG rfl) ?_
 refine QF 2 5 rfl rfl ?_
 refine Rr (Qx underlying126 rfl sizeOf33 rfl) ?_
 refine QF 2 5 rfl rfl ?_
 refine Rr (Qn isAgg33 rfl (hb.at.get 1 rfl)) ?_
 refine QF 2 5 rfl rfl ?_
 refine Rr (Q0 rfl rfl) ?_
 refine Rr (Zb (v := .bool _) rfl rfl) ?_
 refine Rr (asB rfl) ?_
 refine Qd (Qy ?_)
 refine ⟨_, Qp rfl rfl, ?_⟩
 refine ⟨cvB ?_, hX⟩
 all_goals (rfl)

theorem rerr_ok (v0 : Value) (D : Nat → Prop) (s : RSt) (w : World) (hr0 : Rdr 126 D w v0 s) : Ok Tryz.prog 26 #[v0] w fun v w' => v = .int .i64 s.2 ∧ Ext False w w' := by
 obtain ⟨b, u, rfl, hDb, hb, hx⟩ := hr0
 obtain ⟨ax, cx, rfl, hx⟩ := hx
 refine Qz 9 func26 rfl rfl rfl ?_
 have hX := xRf w
 refine Qe (Qc ?_)
 refine Rr Qm ?_
 refine Qd (Qe (Qe (Qc ?_)))
 refine Rr (Ql (v := .pointer _) rfl) ?_
 refine Rr (o_peq underlying69 rfl rfl) ?_
 refine Qd ?_
 refine Qr rfl ?_
 refine Qu (Qe (Qc ?_))
 refine Rr (Ql (v := .pointer _) rfl) ?_
 refine Rr (QG rfl) ?_
 refine Rr (Qx underlying126 rfl sizeOf33 rfl) ?_
 refine Rr (Qn isAgg33 rfl (hb.at.get 1 rfl)) ?_
 refine Rr (asI rfl) ?_
 refine Qd (Qy ?_)
 refine ⟨_, Qp rfl rfl, ?_⟩
 refine ⟨congrArg (Value.int .i64) ?_, hX⟩
 all_goals (rfl)

theorem rfail_ok (v0 : Value) (D : Nat → Prop) (s : RSt) (e : Int) (w : World) (hr0 : Rdr 126 D w v0 s) : Ok Tryz.prog 96 #[v0, .int .i64 e] w fun v w' => v = .tuple #[] ∧ Rdr 126 D w' v0 (failS s e) ∧ Bel False (PtB v0) w w' := by
 have hr1 := hr0
 obtain ⟨b, u, rfl, hDb, hb, hx⟩ := hr0
 obtain ⟨ax, cx, rfl, hx⟩ := hx
 refine Qz 10 func96 rfl rfl rfl ?_
 have hX : Bel False ((PtB (.pointer (some ⟨b, 0, none⟩)))) w w := Bel.refl _ _
 refine Qe (Qc ?_)
 refine Rr (Ql (v := .pointer _) rfl) ?_
 refine Qo rfl (QA call60 rfl) (Ok.mono (rok_ok _ _ _ _ hr1) ?_)
 rintro _ w1 ⟨rfl, x2⟩
 have z3 := x2.size
 replace hX := hX.ex x2
 replace hb := hb.ext x2
 replace hx := hx.ext x2
 refine Qd ?_
 refine QD rfl (fun hc1 => ?_) (fun hc1 => ?_)
 ·skip
  refine Qc ?_
  refine Rr (Ql (v := .pointer _) rfl) ?_
  refine Rr (mvI rfl) ?_
  refine Rr (QG rfl) ?_
  refine Rr (Qx underlying126 rfl sizeOf33 rfl) ?_
  refine QY (v := .int _ _) rfl sizeOf33 rfl rfl hb rfl rfl rfl ?_
  intro w4 c5 hb
  change Box _ _ _ ([_, .int _ _]) at hb
  have z6 := Bel.size c5
  replace hX := Bel.out hX c5 (fun g h1 h2 => by first | exact h2 | (cases h2; rfl))
  replace hx := hx.keep c5 (fun g h1 h2 h3 => h2.2 h3)
  refine Qd ?_
  refine ⟨_, res_none rfl, ?_⟩
  rw [failS, if_pos hc1]; exact ⟨rfl, ⟨b, _, rfl, hDb, hb, _, _, rfl, hx⟩, hX⟩
 skip
 refine Qu ?_
 refine ⟨_, res_none rfl, ?_⟩
 rw [failS, if_neg (by rw [hc1]; simp)]; exact ⟨rfl, ⟨b, _, rfl, hDb, hb, _, _, rfl, hx⟩, hX⟩

theorem rref_ok (v0 : Value) (D : Nat → Prop) (s : RSt) (bad : Bool) (e : Int) (w : World) (hr0 : Rdr 126 D w v0 s) : Ok Tryz.prog 61 #[v0, .bool bad, .int .i64 e] w fun v w' => v = .bool (!bad) ∧ Rdr 126 D w' v0 (refS s bad e) ∧ Bel False (PtB v0) w w' := by
 refine Qz 13 func61 rfl rfl rfl ?_
 have hX : Bel False ((PtB v0)) w w := Bel.refl _ _
 refine Qe (Qc ?_)
 refine Rr Qm ?_
 refine Qd (Qe (Qe (Qc ?_)))
 refine Rr (mvB rfl) ?_
 refine Qd ?_
 refine QD rfl (fun hc1 => ?_) (fun hc1 => ?_)
 ·skip
  refine Qc ?_
  refine Rr (Ql (v := v0) rfl) ?_
  refine Rr (mvI rfl) ?_
  refine Qo rfl (QM call96 rfl rfl) (Ok.mono (rfail_ok v0 _ _ _ _ hr0) ?_)
  rintro _ w1 ⟨rfl, hr0, x2⟩
  have z3 := x2.size
  replace hX := Bel.out hX x2 om2
  refine Qd (Qe (Qc ?_))
  refine Rr (mvB rfl) ?_
  refine Rr (Q5 rfl) ?_
  refine Rr (asB rfl) ?_
  refine Qd (Qy ?_)
  refine ⟨_, Qp rfl rfl, ?_⟩
  rw [refS, if_pos hc1]; exact ⟨rfl, hr0, hX⟩
 skip
 refine Qu (Qe (Qc ?_))
 refine Rr (mvB rfl) ?_
 refine Rr (Q5 rfl) ?_
 refine Rr (asB rfl) ?_
 refine Qd (Qy ?_)
 refine ⟨_, Qp rfl rfl, ?_⟩
 rw [refS, if_neg (by rw [hc1]; simp)]; exact ⟨rfl, hr0, hX⟩

theorem rnum_ok (v0 : Value) (D : Nat → Prop) (l : List UInt8) (e0 : Int) (w : World) (hr0 : Rdr 126 D w v0 (l, e0)) : Ok Tryz.prog 64 #[v0] w fun v w' => v = .tuple #[u64 (numR l).1, .int .i64 ((numR l).2 : Int)] ∧ Ext False w w' := by
 obtain ⟨b, u, rfl, hDb, hb, hx⟩ := hr0
 replace hx : Rd encB 1 (fun g => D g ∧ g ≠ b) w u l := hx
 replace hb : Box w b 126 [u, .int .i64 e0] := hb
 obtain ⟨ax, cx, rfl, hx⟩ := hx
 have hbl := hb.lt
 have hlx := hx.len
 refine Qz 39 func64 rfl rfl rfl ?_
 have hX := xRf w
 refine Qe (Qc ?_)
 refine Rr Qm ?_
 refine Rr Qm ?_
 refine Qd (Qe (Qc ?_))
 refine Rr Qm ?_
 refine Qd (Qe (Qe (Qc ?_)))
 refine Rr (Ql (v := .pointer _) rfl) ?_
 refine Rr (QG rfl) ?_
 refine Rr (Qx underlying126 rfl sizeOf30 rfl) ?_
 refine Rr (Qn isAgg30 rfl (hb.at.get 0 rfl)) ?_
 refine Rr (QK underlying30 rfl) ?_
 refine Rr QT ?_
 refine Qd (QB ?_)
 refine Za (α := Nat × W64) [(2, 6), (12, 38)] (fun q => [(12, .int .i64 (q.1 : Int)), (4, u64 q.2)]) (fun q w' => (q.1 ≤ l.length ∧ numR l = numGo q.1 q.2 (l.drop q.1)) ∧ Ext False w w') (fun q => l.length - q.1) (0, 0) ⟨rfl, rfl, trivial⟩ ⟨⟨Nat.zero_le _, rfl⟩, Bel.refl _ _⟩ ?_
 rintro ⟨k, y⟩ fb3 w2 ⟨⟨hk, hnr⟩, hXL1⟩
 dsimp only at *
 replace hX := hX.ex hXL1
 replace hx := hx.ext hXL1
 refine Qe (Qc ?_)
 refine Rr (QQ rfl rfl) ?_
 refine Qd (Qe ?_)
 refine QD rfl (fun hc1 => ?_) (fun hc1 => ?_)
 ·replace hc1 := dcT hc1
  have hkl : k < l.length := by omega
  refine Qu (Qe (QB (Qe (Qc ?_))))
  refine Rr (mvI rfl) ?_
  refine Rr (Zg underlying30 sizeOf5 hx rfl rfl omg) ?_
  refine Rr (o_ldR isAgg5 hx rfl rfl (getE 0 (by omega)) rfl) ?_
  refine Rr (asI rfl) ?_
  refine Rr (asI rfl) ?_
  refine Qd (Qe (Qe (Qc ?_)))
  refine Rr (mvI rfl) ?_
  refine Rr (Q0 rfl rfl) ?_
  refine Rr (mvB rfl) ?_
  refine Qq 2 19 rfl rfl rfl (fun hg => (mvI rfl)) ?_
  refine Qq 2 19 rfl rfl rfl (fun hg => (Q0 (QE (u := undef) hg) rfl)) ?_
  refine Rr (o_and (u := undef) rfl rfl) ?_
  refine Rr (mvB rfl) ?_
  refine Qq 6 23 rfl rfl rfl (fun hg => (mvI rfl)) ?_
  refine Qq 6 23 rfl rfl rfl (fun hg => (o_gtr (QE (u := undef) hg) rfl)) ?_
  refine Rr (o_or (u := undef) rfl rfl) ?_
  refine Qd ?_
  refine QD rfl (fun hc2 => ?_) (fun hc2 => ?_)
  ·rw [numC] at hc2
   refine Qe (Qc ?_)
   refine Rr Qm ?_
   refine Rr Qm ?_
   refine Qd (Qy ?_)
   refine ⟨_, res_tmp2 rfl rfl rfl, ?_⟩
   rw [hnr, numGo_bad hkl hc2]; exact ⟨rfl, hX⟩
  rw [numC] at hc2
  refine Qu (Qe (Qc ?_))
  refine Rr (mvI rfl) ?_
  refine Rr (o_shlU (a := y) (n := 7) rfl rfl (by decide)) ?_
  refine Rr (mvI rfl) ?_
  refine Rr (o_bandB (a := l.getD k 0) (b := 127) rfl rfl) ?_
  refine Rr (o_convB8 underlying5 underlying67 rfl) ?_
  refine Rr (o_bor (a := y <<< 7) (b := BitVec.ofNat 64 ((l.getD k 0) &&& 127).toNat) rfl rfl) ?_
  refine Rr (asI rfl) ?_
  refine Qd (Qe (Qc ?_))
  refine Rr (mvI rfl) ?_
  refine Rr (QQ rfl rfl) ?_
  refine Qd ?_
  refine QD rfl (fun hc3 => ?_) (fun hc3 => ?_)
  ·have hs3 : (l.getD k 0).toNat < 128 := by have := dcT hc3; omega
   refine Qe (Qc ?_)
   refine Rr (mvI rfl) ?_
   refine Rr (mvI rfl) ?_
   refine Rr (Q6 rfl rfl omg) ?_
   refine Rr (asI rfl) ?_
   refine Rr (asI rfl) ?_
   refine Qd (Qy ?_)
   refine ⟨_, res_tmp2 rfl rfl rfl, ?_⟩
   rw [hnr, numGo_stop hkl (by rw [hc2]; decide) hs3]; exact ⟨rfl, hX⟩
  have hs3 : ¬ (l.getD k 0).toNat < 128 := by have := dcF hc3; omega
  refine Qu (Qc ?_)
  refine Rr (Q6 rfl rfl omg) ?_
  refine Rr (mvI rfl) ?_
  refine Qd ?_
  refine ⟨(k + 1, grp y (l.getD k 0)), ⟨sT, sT, trivial⟩, oT, ⟨?_, hXL1⟩, ?_⟩
  ·exact ⟨by omega, hnr.trans (numGo_on hkl (by rw [hc2]; decide) hs3)⟩
  ·show l.length - (k + 1) < l.length - k; omega
 replace hc1 := dcF hc1
 refine QS (QL (Qe (Qc ?_)))
 refine Rr Qm ?_
 refine Rr Qm ?_
 refine Qd (Qy ?_)
 refine ⟨_, res_tmp2 rfl rfl rfl, ?_⟩
 rw [hnr, List.drop_of_length_le (by omega)]; exact ⟨rfl, hX⟩

theorem rtake_ok (v0 : Value) (D : Nat → Prop) (l : List UInt8) (e0 : Int) (n : Nat) (w : World) (hr0 : Rdr 126 D w v0 (l, e0)) (hn : n ≤ l.length) (hl9 : l.length ≤ 100000000) : Ok Tryz.prog 63 #[v0, .int .i64 (n : Int)] w fun v w' => Own encB 1 5 (Fsh w w') w' v (l.take n) ∧ Rdr 126 D w' v0 (l.drop n, e0) ∧ Bel False (PtB v0) w w' := by
 obtain ⟨b, u, rfl, hDb, hb, hx⟩ := hr0
 replace hx : Rd encB 1 (fun g => D g ∧ g ≠ b) w u l := hx
 replace hb : Box w b 126 [u, .int .i64 e0] := hb
 obtain ⟨ax, cx, rfl, hx⟩ := hx
 have hbl := hb.lt
 refine Qz 23 func63 rfl rfl rfl ?_
 have hX : Bel False ((PtB (.pointer (some ⟨b, 0, none⟩)))) w w := Bel.refl _ _
 refine Qe (Qc ?_)
 refine Rr Qm ?_
 refine Qd (Qe (Qc ?_))
 refine Rr (Ql (v := .pointer _) rfl) ?_
 refine Rr (QG rfl) ?_
 refine Rr (Qx underlying126 rfl sizeOf30 rfl) ?_
 refine Rr (Qn isAgg30 rfl (hb.at.get 0 rfl)) ?_
 refine Rr (mvI rfl) ?_
 refine Rr (o_slto (j := n) underlying30 sizeOf5 rfl rfl (by have := hx.le; omega)) ?_
 refine Qo rfl (QA call59 rfl) (Ok.mono (bclone_ok (.slice ax n cx) _ (l.take n) _ ⟨ax, cx, (by rw [List.length_take, Nat.min_eq_left hn]), hx.take n⟩ (by rw [List.length_take]; omega)) ?_)
 rintro v12 w1 ⟨hown12, x2⟩
 have z3 := x2.size
 replace hX := hX.ex x2
 replace hb := hb.ext x2
 replace hx := hx.ext x2
 refine Rr (Qv (v := v12) rfl) ?_
 refine Qd (Qe (Qc ?_))
 refine Rr (Ql (v := .pointer _) rfl) ?_
 refine Rr (Ql (v := .pointer _) rfl) ?_
 refine Rr (QG rfl) ?_
 refine Rr (Qx underlying126 rfl sizeOf30 rfl) ?_
 refine Rr (Qn isAgg30 rfl (hb.at.get 0 rfl)) ?_
 refine Rr (mvI rfl) ?_
 refine Rr (o_slfrom2 (j := n) underlying30 sizeOf5 rfl rfl hn hx.le) ?_
 refine Rr (QG rfl) ?_
 refine Rr (Qx underlying126 rfl sizeOf30 rfl) ?_
 refine QY (v := .slice _ _ _) rfl sizeOf30 rfl rfl hb rfl rfl rfl ?_
 intro w4 c5 hb
 change Box _ _ _ ([_, .int _ _]) at hb
 have z6 := Bel.size c5
 replace hX := Bel.out hX c5 (fun g h1 h2 => by first | exact h2 | (cases h2; rfl))
 replace hx := hx.keep c5 (fun g h1 h2 h3 => h2.2 h3)
 replace hown12 := hown12.keepD c5 om3
 refine Qd (Qe (Qc ?_))
 refine Rr (Ql (v := v12) rfl) ?_
 refine Rr (Qv (v := v12) rfl) ?_
 refine Qd (Qy ?_)
 refine ⟨_, Qp rfl rfl, ?_⟩
 exact ⟨hown12.mono (fun g h1 h2 => by omega), ⟨b, _, rfl, hDb, hb, _, _, by rw [List.length_drop], hx.drop hn⟩, hX⟩

theorem ruint_ok (v0 : Value) (D : Nat → Prop) (s : RSt) (most : W64) (w : World) (hr0 : Rdr 126 D w v0 s) (hl9 : s.1.length ≤ 100000000) : Ok Tryz.prog 62 #[v0, u64 most] w fun v w' => v = u64 (uintS s most).2 ∧ Rdr 126 D w' v0 (uintS s most).1 ∧ Bel False (PtB v0) w w' := by
 obtain ⟨b, rfl⟩ := hr0.ptr
 refine Qz 32 func62 rfl rfl rfl ?_
 have hX : Bel False ((PtB (.pointer (some ⟨b, 0, none⟩)))) w w := Bel.refl _ _
 refine Qe (Qc ?_)
 refine Rr Qm ?_
 refine Qd (Qe (Qe (Qc ?_)))
 refine Rr (Ql (v := .pointer (some ⟨b, 0, none⟩)) rfl) ?_
 refine Qo rfl (QA call60 rfl) (Ok.mono (rok_ok (.pointer (some ⟨b, 0, none⟩)) _ s _ hr0) ?_)
 rintro _ w1 ⟨rfl, x2⟩
 have z3 := x2.size
 replace hX := hX.ex x2
 replace hr0 := hr0.ext x2
 refine Rr (Q5 rfl) ?_
 refine Qd ?_
 refine QD rfl (fun hc1 => ?_) (fun hc1 => ?_)
 ·have hok : ¬ (s.2 == 0) = true := by simpa using hc1
  refine Qe (Qc ?_)
  refine Rr Qm ?_
  refine Qd (Qy ?_)
  refine ⟨_, Qp rfl rfl, ?_⟩
  have e9 : uintS s most = (s, 0) := by rw [uintS, if_neg hok]
  rw [e9]; exact ⟨rfl, hr0, hX⟩
 have hok : (s.2 == 0) = true := by simpa using hc1
 refine Qu (Qe (Qc ?_))
 refine Rr (Ql (v := .pointer (some ⟨b, 0, none⟩)) rfl) ?_
 refine Qo rfl (QA call64 rfl) (Ok.mono (rnum_ok (.pointer (some ⟨b, 0, none⟩)) _ s.1 s.2 _ hr0) ?_)
 rintro _ w4 ⟨rfl, x5⟩
 have z6 := x5.size
 replace hX := hX.ex x5
 replace hr0 := hr0.ext x5
 refine Rr (Ql (v := .tuple _) rfl) ?_
 refine Rr (QH rfl rfl) ?_
 refine Rr (QH rfl rfl) ?_
 refine Rr (asI rfl) ?_
 refine Rr (asI rfl) ?_
 refine Qd (Qe (Qe (Qc ?_)))
 refine Rr (Ql (v := .pointer (some ⟨b, 0, none⟩)) rfl) ?_
 refine Rr (mvI rfl) ?_
 refine Rr (Q0 rfl rfl) ?_
 refine (Decidable.em ((numR s.1).2 = 0)).elim (fun hn0 => ?_) (fun hn0 => ?_)
 ·refine Qo rfl (o_call3 call61 rfl rfl rfl) (Ok.mono (rref_ok (.pointer (some ⟨b, 0, none⟩)) _ s ((((numR s.1).2 : Nat) : Int) == 0) 6 _ hr0) ?_)
  rintro _ w7 ⟨rfl, hr0, x8⟩
  have z9 := x8.size
  replace hX := Bel.out hX x8 om2
  refine Rr (Q5 rfl) ?_
  refine Rr (mvB rfl) ?_
  refine QW 5 20 rfl rfl (cvB (show (!(!((((numR s.1).2 : Nat) : Int) == 0))) = true by rw [hn0]; rfl)) rfl rfl ?_
  refine QW 5 20 rfl rfl (cvB (show (!(!((((numR s.1).2 : Nat) : Int) == 0))) = true by rw [hn0]; rfl)) rfl rfl ?_
  refine QW 5 20 rfl rfl (cvB (show (!(!((((numR s.1).2 : Nat) : Int) == 0))) = true by rw [hn0]; rfl)) rfl rfl ?_
  refine QW 5 20 rfl rfl (cvB (show (!(!((((numR s.1).2 : Nat) : Int) == 0))) = true by rw [hn0]; rfl)) rfl rfl ?_
  refine QW 5 20 rfl rfl (cvB (show (!(!((((numR s.1).2 : Nat) : Int) == 0))) = true by rw [hn0]; rfl)) rfl rfl ?_
  refine QW 5 20 rfl rfl (cvB (show (!(!((((numR s.1).2 : Nat) : Int) == 0))) = true by rw [hn0]; rfl)) rfl rfl ?_
  refine Rr (Zb (v := .bool _) (cvB (show (!(!((((numR s.1).2 : Nat) : Int) == 0))) = true by rw [hn0]; rfl)) rfl) ?_
  refine Qd ?_
  refine Q2 rfl ?_
  refine Qe (Qc ?_)
  refine Rr Qm ?_
  refine Qd (Qy ?_)
  refine ⟨_, Qp rfl rfl, ?_⟩
  rw [refS_yes (show ((((numR s.1).2 : Nat) : Int) == 0) = true by rw [hn0]; rfl) hok] at hr0
  have e9 : uintS s most = ((s.1, 6), 0) := by rw [uintS, if_pos hok, if_pos hn0]
  rw [e9]; exact ⟨rfl, hr0, hX⟩
 refine Qo rfl (o_call3 call61 rfl rfl rfl) (Ok.mono (rref_ok (.pointer (some ⟨b, 0, none⟩)) _ s ((((numR s.1).2 : Nat) : Int) == 0) 6 _ hr0) ?_)
 rintro _ w10 ⟨rfl, hr0, x11⟩
 have z12 := x11.size
 replace hX := Bel.out hX x11 om2
 refine Rr (Q5 rfl) ?_
 refine Rr (mvB rfl) ?_
 rw [refS_no (show ((((numR s.1).2 : Nat) : Int) == 0) = false from neF (by omega))] at hr0
 refine QF 5 20 rfl (cvB (show (!(!((((numR s.1).2 : Nat) : Int) == 0))) = false by rw [Bool.not_not]; exact neF (by omega))) ?_
 refine Rr (Ql (v := .pointer (some ⟨b, 0, none⟩)) rfl) ?_
 refine QF 5 20 rfl (cvB (show (!(!((((numR s.1).2 : Nat) : Int) == 0))) = false by rw [Bool.not_not]; exact neF (by omega))) ?_
 refine Rr (mvI rfl) ?_
 refine QF 5 20 rfl (cvB (show (!(!((((numR s.1).2 : Nat) : Int) == 0))) = false by rw [Bool.not_not]; exact neF (by omega))) ?_
 refine Rr (mvI rfl) ?_
 refine QF 5 20 rfl (cvB (show (!(!((((numR s.1).2 : Nat) : Int) == 0))) = false by rw [Bool.not_not]; exact neF (by omega))) ?_
 refine Rr (o_gtr rfl rfl) ?_
 refine (Decidable.em ((decide ((most.toNat : Int) < (((numR s.1).1.toNat : Nat) : Int))) = true)).elim (fun hvm => ?_) (fun hvm => ?_)
 ·refine QF 5 20 rfl (cvB (show (!(!((((numR s.1).2 : Nat) : Int) == 0))) = false by rw [Bool.not_not]; exact neF (by omega))) ?_
  refine Qo rfl (o_call3 call61 rfl rfl rfl) (Ok.mono (rref_ok (.pointer (some ⟨b, 0, none⟩)) _ s (decide ((most.toNat : Int) < (((numR s.1).1.toNat : Nat) : Int))) 2 _ hr0) ?_)
  rintro _ w13 ⟨rfl, hr0, x14⟩
  have z15 := x14.size
  replace hX := Bel.out hX x14 om2
  refine QF 5 20 rfl (cvB (show (!(!((((numR s.1).2 : Nat) : Int) == 0))) = false by rw [Bool.not_not]; exact neF (by omega))) ?_
  refine Rr (Q5 rfl) ?_
  refine Rr (Q3 (v := .bool _) (cvB (show (!(!((((numR s.1).2 : Nat) : Int) == 0))) = false by rw [Bool.not_not]; exact neF (by omega))) rfl) ?_
  refine Qd ?_
  refine Q2 (cvB (show (!(!(decide ((most.toNat : Int) < (((numR s.1).1.toNat : Nat) : Int))))) = true by rw [hvm]; rfl)) ?_
  refine Qe (Qc ?_)
  refine Rr Qm ?_
  refine Qd (Qy ?_)
  refine ⟨_, Qp rfl rfl, ?_⟩
  rw [refS_yes (show (decide ((most.toNat : Int) < (((numR s.1).1.toNat : Nat) : Int))) = true from hvm) hok] at hr0
  have e9 : uintS s most = ((s.1, 2), 0) := by rw [uintS, if_pos hok, if_neg hn0, if_pos (by have := dcT hvm; omega)]
  rw [e9]; exact ⟨rfl, hr0, hX⟩
 refine QF 5 20 rfl (cvB (show (!(!((((numR s.1).2 : Nat) : Int) == 0))) = false by rw [Bool.not_not]; exact neF (by omega))) ?_
 refine Qo rfl (o_call3 call61 rfl rfl rfl) (Ok.mono (rref_ok (.pointer (some ⟨b, 0, none⟩)) _ s (decide ((most.toNat : Int) < (((numR s.1).1.toNat : Nat) : Int))) 2 _ hr0) ?_)
 rintro _ w16 ⟨rfl, hr0, x17⟩
 have z18 := x17.size
 replace hX := Bel.out hX x17 om2
 refine QF 5 20 rfl (cvB (show (!(!((((numR s.1).2 : Nat) : Int) == 0))) = false by rw [Bool.not_not]; exact neF (by omega))) ?_
 refine Rr (Q5 rfl) ?_
 refine Rr (Q3 (v := .bool _) (cvB (show (!(!((((numR s.1).2 : Nat) : Int) == 0))) = false by rw [Bool.not_not]; exact neF (by omega))) rfl) ?_
 refine Qd ?_
 refine Qr (cvB (show (!(!(decide ((most.toNat : Int) < (((numR s.1).1.toNat : Nat) : Int))))) = false by rw [Bool.not_not]; simpa using hvm)) ?_
 refine Qu (Qe (Qc ?_))
 rw [refS_no (show (decide ((most.toNat : Int) < (((numR s.1).1.toNat : Nat) : Int))) = false by simpa using hvm)] at hr0
 refine Rr (Ql (v := .pointer (some ⟨b, 0, none⟩)) rfl) ?_
 refine Rr (mvI rfl) ?_
 refine Qo rfl (QM call63 rfl rfl) (Ok.mono (rtake_ok (.pointer (some ⟨b, 0, none⟩)) _ s.1 s.2 (numR s.1).2 _ hr0 (numR_le _) hl9) ?_)
 rintro _ w19 ⟨_, hr0, x20⟩
 have z21 := x20.size
 replace hX := Bel.out hX x20 om2
 refine Qd (Qe (Qc ?_))
 refine Rr (mvI rfl) ?_
 refine Rr (asI rfl) ?_
 refine Qd (Qy ?_)
 refine ⟨_, Qp rfl rfl, ?_⟩
 have e9 : uintS s most = ((s.1.drop (numR s.1).2, s.2), (numR s.1).1) := by rw [uintS, if_pos hok, if_neg hn0, if_neg (by intro h; exact hvm (decide_eq_true (by omega)))]
 rw [e9]; exact ⟨rfl, hr0, hX⟩

theorem rcount_ok (v0 : Value) (D : Nat → Prop) (s : RSt) (most : Nat) (hmost : most ≤ 100000000) (w : World) (hr0 : Rdr 126 D w v0 s) (hl9 : s.1.length ≤ 100000000) : Ok Tryz.prog 25 #[v0, .int .i64 (most : Int)] w fun v w' => v = .int .i64 ((countS s most).2 : Int) ∧ Rdr 126 D w' v0 (countS s most).1 ∧ Bel False (PtB v0) w w' := by
 obtain ⟨b, rfl⟩ := hr0.ptr
 have hm0 : decide ((most : Int) < 0) = false := decide_eq_false (by omega)
 have hm64 : (BitVec.ofNat 64 most).toNat = most := by rw [BitVec.toNat_ofNat]; exact Nat.mod_eq_of_lt (by omega)
 refine Qz 41 func25 rfl rfl rfl ?_
 have hX : Bel False ((PtB (.pointer (some ⟨b, 0, none⟩)))) w w := Bel.refl _ _
 refine Qe (Qc ?_)
 refine Rr Qm ?_
 refine Qd (Qe (Qe (Qc ?_)))
 refine Rr (Ql (v := .pointer (some ⟨b, 0, none⟩)) rfl) ?_
 refine Qo rfl (QA call60 rfl) (Ok.mono (rok_ok (.pointer (some ⟨b, 0, none⟩)) _ s _ hr0) ?_)
 rintro _ w1 ⟨rfl, x2⟩
 have z3 := x2.size
 replace hX := hX.ex x2
 replace hr0 := hr0.ext x2
 refine Rr (Q5 rfl) ?_
 refine (Decidable.em ((s.2 == 0) = true)).elim (fun hok => ?_) (fun hok => ?_)
 ·refine Rr (mvB rfl) ?_
  refine QF 3 10 rfl (cvB (show (!(s.2 == 0)) = false by rw [hok]; rfl)) ?_
  refine Rr (Ql (v := .pointer (some ⟨b, 0, none⟩)) rfl) ?_
  refine QF 3 10 rfl (cvB (show (!(s.2 == 0)) = false by rw [hok]; rfl)) ?_
  refine Rr (mvI rfl) ?_
  refine QF 3 10 rfl (cvB (show (!(s.2 == 0)) = false by rw [hok]; rfl)) ?_
  refine Rr (QQ rfl rfl) ?_
  refine QF 3 10 rfl (cvB (show (!(s.2 == 0)) = false by rw [hok]; rfl)) ?_
  refine Qo rfl (o_call3 call61 rfl rfl rfl) (Ok.mono (rref_ok (.pointer (some ⟨b, 0, none⟩)) _ s (decide ((most : Int) < 0)) 1 _ hr0) ?_)
  rintro _ w4 ⟨rfl, hr0, x5⟩
  have z6 := x5.size
  replace hX := Bel.out hX x5 om2
  refine QF 3 10 rfl (cvB (show (!(s.2 == 0)) = false by rw [hok]; rfl)) ?_
  refine Rr (Q5 rfl) ?_
  refine Rr (Q3 (v := .bool _) (cvB (show (!(s.2 == 0)) = false by rw [hok]; rfl)) rfl) ?_
  refine Qd ?_
  refine Qr (cvB (show (!(!(decide ((most : Int) < 0)))) = false by rw [hm0]; rfl)) ?_
  refine Qu (Qe (Qc ?_))
  rw [refS_no hm0] at hr0
  refine Rr (Ql (v := .pointer (some ⟨b, 0, none⟩)) rfl) ?_
  refine Qo rfl (QA call64 rfl) (Ok.mono (rnum_ok (.pointer (some ⟨b, 0, none⟩)) _ s.1 s.2 _ hr0) ?_)
  rintro _ w7 ⟨rfl, x8⟩
  have z9 := x8.size
  replace hX := hX.ex x8
  replace hr0 := hr0.ext x8
  refine Rr (Ql (v := .tuple _) rfl) ?_
  refine Rr (QH rfl rfl) ?_
  refine Rr (QH rfl rfl) ?_
  refine Rr (asI rfl) ?_
  refine Rr (asI rfl) ?_
  refine Qd (Qe (Qe (Qc ?_)))
  refine Rr (Ql (v := .pointer (some ⟨b, 0, none⟩)) rfl) ?_
  refine Rr (mvI rfl) ?_
  refine Rr (Q0 rfl rfl) ?_
  refine (Decidable.em ((numR s.1).2 = 0)).elim (fun hn0 => ?_) (fun hn0 => ?_)
  ·refine Qo rfl (o_call3 call61 rfl rfl rfl) (Ok.mono (rref_ok (.pointer (some ⟨b, 0, none⟩)) _ s ((((numR s.1).2 : Nat) : Int) == 0) 6 _ hr0) ?_)
   rintro _ w10 ⟨rfl, hr0, x11⟩
   have z12 := x11.size
   replace hX := Bel.out hX x11 om2
   refine Rr (Q5 rfl) ?_
   refine Rr (mvB rfl) ?_
   refine QW 5 27 rfl rfl (cvB (show (!(!((((numR s.1).2 : Nat) : Int) == 0))) = true by rw [hn0]; rfl)) rfl rfl ?_
   refine QW 5 27 rfl rfl (cvB (show (!(!((((numR s.1).2 : Nat) : Int) == 0))) = true by rw [hn0]; rfl)) rfl rfl ?_
   refine QW 5 27 rfl rfl (cvB (show (!(!((((numR s.1).2 : Nat) : Int) == 0))) = true by rw [hn0]; rfl)) rfl rfl ?_
   refine QW 5 27 rfl rfl (cvB (show (!(!((((numR s.1).2 : Nat) : Int) == 0))) = true by rw [hn0]; rfl)) rfl rfl ?_
   refine QW 5 27 rfl rfl (cvB (show (!(!((((numR s.1).2 : Nat) : Int) == 0))) = true by rw [hn0]; rfl)) rfl rfl ?_
   refine QW 5 27 rfl rfl (cvB (show (!(!((((numR s.1).2 : Nat) : Int) == 0))) = true by rw [hn0]; rfl)) rfl rfl ?_
   refine QW 5 27 rfl rfl (cvB (show (!(!((((numR s.1).2 : Nat) : Int) == 0))) = true by rw [hn0]; rfl)) rfl rfl ?_
   refine Rr (Zb (v := .bool _) (cvB (show (!(!((((numR s.1).2 : Nat) : Int) == 0))) = true by rw [hn0]; rfl)) rfl) ?_
   refine Qd ?_
   refine Q2 rfl ?_
   refine Qe (Qc ?_)
   refine Rr Qm ?_
   refine Qd (Qy ?_)
   refine ⟨_, Qp rfl rfl, ?_⟩
   rw [refS_yes (show ((((numR s.1).2 : Nat) : Int) == 0) = true by rw [hn0]; rfl) hok] at hr0
   have e9 : countS s most = ((s.1, 6), 0) := by rw [countS, if_pos hok, if_pos hn0]
   rw [e9]; exact ⟨rfl, hr0, hX⟩
  refine Qo rfl (o_call3 call61 rfl rfl rfl) (Ok.mono (rref_ok (.pointer (some ⟨b, 0, none⟩)) _ s ((((numR s.1).2 : Nat) : Int) == 0) 6 _ hr0) ?_)
  rintro _ w13 ⟨rfl, hr0, x14⟩
  have z15 := x14.size
  replace hX := Bel.out hX x14 om2
  refine Rr (Q5 rfl) ?_
  refine Rr (mvB rfl) ?_
  rw [refS_no (show ((((numR s.1).2 : Nat) : Int) == 0) = false from neF (by omega))] at hr0
  refine QF 5 27 rfl (cvB (show (!(!((((numR s.1).2 : Nat) : Int) == 0))) = false by rw [Bool.not_not]; exact neF (by omega))) ?_
  refine Rr (Ql (v := .pointer (some ⟨b, 0, none⟩)) rfl) ?_
  refine QF 5 27 rfl (cvB (show (!(!((((numR s.1).2 : Nat) : Int) == 0))) = false by rw [Bool.not_not]; exact neF (by omega))) ?_
  refine Rr (mvI rfl) ?_
  refine QF 5 27 rfl (cvB (show (!(!((((numR s.1).2 : Nat) : Int) == 0))) = false by rw [Bool.not_not]; exact neF (by omega))) ?_
  refine Rr (mvI rfl) ?_
  refine QF 5 27 rfl (cvB (show (!(!((((numR s.1).2 : Nat) : Int) == 0))) = false by rw [Bool.not_not]; exact neF (by omega))) ?_
  refine Rr (o_convV (n := most) underlying3 underlying67 rfl (by omega)) ?_
  refine QF 5 27 rfl (cvB (show (!(!((((numR s.1).2 : Nat) : Int) == 0))) = false by rw [Bool.not_not]; exact neF (by omega))) ?_
  refine Rr (o_gtr rfl rfl) ?_
  refine (Decidable.em ((decide ((((BitVec.ofNat 64 most).toNat : Nat) : Int) < (((numR s.1).1.toNat : Nat) : Int))) = true)).elim (fun hvm => ?_) (fun hvm => ?_)
  ·refine QF 5 27 rfl (cvB (show (!(!((((numR s.1).2 : Nat) : Int) == 0))) = false by rw [Bool.not_not]; exact neF (by omega))) ?_
   refine Qo rfl (o_call3 call61 rfl rfl rfl) (Ok.mono (rref_ok (.pointer (some ⟨b, 0, none⟩)) _ s (decide ((((BitVec.ofNat 64 most).toNat : Nat) : Int) < (((numR s.1).1.toNat : Nat) : Int))) 3 _ hr0) ?_)
   rintro _ w16 ⟨rfl, hr0, x17⟩
   have z18 := x17.size
   replace hX := Bel.out hX x17 om2
   refine QF 5 27 rfl (cvB (show (!(!((((numR s.1).2 : Nat) : Int) == 0))) = false by rw [Bool.not_not]; exact neF (by omega))) ?_
   refine Rr (Q5 rfl) ?_
   refine Rr (Q3 (v := .bool _) (cvB (show (!(!((((numR s.1).2 : Nat) : Int) == 0))) = false by rw [Bool.not_not]; exact neF (by omega))) rfl) ?_
   refine Qd ?_
   refine Q2 (cvB (show (!(!(decide ((((BitVec.ofNat 64 most).toNat : Nat) : Int) < (((numR s.1).1.toNat : Nat) : Int))))) = true by rw [hvm]; rfl)) ?_
   refine Qe (Qc ?_)
   refine Rr Qm ?_
   refine Qd (Qy ?_)
   refine ⟨_, Qp rfl rfl, ?_⟩
   rw [refS_yes (show (decide ((((BitVec.ofNat 64 most).toNat : Nat) : Int) < (((numR s.1).1.toNat : Nat) : Int))) = true from hvm) hok] at hr0
   have e9 : countS s most = ((s.1, 3), 0) := by rw [countS, if_pos hok, if_neg hn0, if_pos (by have := dcT hvm; omega)]
   rw [e9]; exact ⟨rfl, hr0, hX⟩
  refine QF 5 27 rfl (cvB (show (!(!((((numR s.1).2 : Nat) : Int) == 0))) = false by rw [Bool.not_not]; exact neF (by omega))) ?_
  refine Qo rfl (o_call3 call61 rfl rfl rfl) (Ok.mono (rref_ok (.pointer (some ⟨b, 0, none⟩)) _ s (decide ((((BitVec.ofNat 64 most).toNat : Nat) : Int) < (((numR s.1).1.toNat : Nat) : Int))) 3 _ hr0) ?_)
  rintro _ w19 ⟨rfl, hr0, x20⟩
  have z21 := x20.size
  replace hX := Bel.out hX x20 om2
  refine QF 5 27 rfl (cvB (show (!(!((((numR s.1).2 : Nat) : Int) == 0))) = false by rw [Bool.not_not]; exact neF (by omega))) ?_
  refine Rr (Q5 rfl) ?_
  refine Rr (Q3 (v := .bool _) (cvB (show (!(!((((numR s.1).2 : Nat) : Int) == 0))) = false by rw [Bool.not_not]; exact neF (by omega))) rfl) ?_
  refine Qd ?_
  refine Qr (cvB (show (!(!(decide ((((BitVec.ofNat 64 most).toNat : Nat) : Int) < (((numR s.1).1.toNat : Nat) : Int))))) = false by rw [Bool.not_not]; simpa using hvm)) ?_
  refine Qu (Qe (Qc ?_))
  rw [refS_no (show (decide ((((BitVec.ofNat 64 most).toNat : Nat) : Int) < (((numR s.1).1.toNat : Nat) : Int))) = false by simpa using hvm)] at hr0
  refine Rr (Ql (v := .pointer (some ⟨b, 0, none⟩)) rfl) ?_
  refine Rr (mvI rfl) ?_
  refine Qo rfl (QM call63 rfl rfl) (Ok.mono (rtake_ok (.pointer (some ⟨b, 0, none⟩)) _ s.1 s.2 (numR s.1).2 _ hr0 (numR_le _) hl9) ?_)
  rintro _ w22 ⟨_, hr0, x23⟩
  have z24 := x23.size
  replace hX := Bel.out hX x23 om2
  refine Qd (Qe (Qc ?_))
  refine Rr (mvI rfl) ?_
  refine Rr (o_convU (n := (numR s.1).1.toNat) underlying67 underlying3 rfl rfl (by have := hvm; simp only [decide_eq_true_eq] at this; omega)) ?_
  refine Rr (asI rfl) ?_
  refine Qd (Qy ?_)
  refine ⟨_, Qp rfl rfl, ?_⟩
  have e9 : countS s most = ((s.1.drop (numR s.1).2, s.2), (numR s.1).1.toNat) := by rw [countS, if_pos hok, if_neg hn0, if_neg (by intro h; exact hvm (decide_eq_true (by omega)))]
  rw [e9]; exact ⟨rfl, hr0, hX⟩
 refine Rr (mvB rfl) ?_
 refine QW 3 10 rfl rfl (cvB (show (!(s.2 == 0)) = true by simp only [Bool.not_eq_true] at hok; rw [hok]; rfl)) rfl rfl ?_
 refine QW 3 10 rfl rfl (cvB (show (!(s.2 == 0)) = true by simp only [Bool.not_eq_true] at hok; rw [hok]; rfl)) rfl rfl ?_
 refine QW 3 10 rfl rfl (cvB (show (!(s.2 == 0)) = true by simp only [Bool.not_eq_true] at hok; rw [hok]; rfl)) rfl rfl ?_
 refine QW 3 10 rfl rfl (cvB (show (!(s.2 == 0)) = true by simp only [Bool.not_eq_true] at hok; rw [hok]; rfl)) rfl rfl ?_
 refine QW 3 10 rfl rfl (cvB (show (!(s.2 == 0)) = true by simp only [Bool.not_eq_true] at hok; rw [hok]; rfl)) rfl rfl ?_
 refine Rr (Zb (v := .bool _) (cvB (show (!(s.2 == 0)) = true by simp only [Bool.not_eq_true] at hok; rw [hok]; rfl)) rfl) ?_
 refine Qd ?_
 refine Q2 rfl ?_
 refine Qe (Qc ?_)
 refine Rr Qm ?_
 refine Qd (Qy ?_)
 refine ⟨_, Qp rfl rfl, ?_⟩
 have e9 : countS s most = (s, 0) := by rw [countS, if_neg hok]
 rw [e9]; exact ⟨rfl, hr0, hX⟩

theorem rend_ok (v0 : Value) (D : Nat → Prop) (s : RSt) (w : World) (hr0 : Rdr 126 D w v0 s) : Ok Tryz.prog 28 #[v0] w fun v w' => v = .int .i64 (endS s) ∧ Ext False w w' := by
 have hr1 := hr0
 obtain ⟨b, u, rfl, hDb, hb, hx⟩ := hr0
 obtain ⟨ax, cx, rfl, hx⟩ := hx
 refine Qz 15 func28 rfl rfl rfl ?_
 have hX := xRf w
 refine Qe (Qc ?_)
 refine Rr Qm ?_
 refine Qd (Qe (Qe (Qc ?_)))
 refine Rr (Ql (v := .pointer _) rfl) ?_
 refine Qo rfl (QA call60 rfl) (Ok.mono (rok_ok _ _ _ _ hr1) ?_)
 rintro _ w1 ⟨rfl, x2⟩
 replace hX := hX.ex x2
 replace hb := hb.ext x2
 replace hr1 := hr1.ext x2
 refine (Decidable.em ((s.2 == 0) = true)).elim (fun hok => ?_) (fun hok => ?_)
 ·refine Rr (mvB rfl) ?_
  refine QF 2 5 rfl (cvB hok) ?_
  refine Rr (Ql (v := .pointer _) rfl) ?_
  refine QF 2 5 rfl (cvB hok) ?_
  refine Rr (QG rfl) ?_
  refine QF 2 5 rfl (cvB hok) ?_
  refine Rr (Qx underlying126 rfl sizeOf30 rfl) ?_
  refine QF 2 5 rfl (cvB hok) ?_
  refine Rr (Qn isAgg30 rfl (hb.at.get 0 rfl)) ?_
  refine QF 2 5 rfl (cvB hok) ?_
  refine Rr (QK underlying30 rfl) ?_
  refine QF 2 5 rfl (cvB hok) ?_
  refine Rr (o_gtr rfl rfl) ?_
  refine Rr (Zb (v := .bool _) (cvB hok) rfl) ?_
  refine Qd ?_
  refine QD rfl (fun hc1 => ?_) (fun hc1 => ?_)
  ·have hne : s.1 ≠ [] := by intro e; rw [e] at hc1; simp at hc1
   refine Qe (Qc ?_)
   refine Rr Qm ?_
   refine Qd (Qy ?_)
   refine ⟨_, Qp rfl rfl, ?_⟩
   refine ⟨congrArg (Value.int .i64) ?_, hX⟩
   all_goals (rw [endS, if_pos ⟨hok, hne⟩])
  have hne : s.1 = [] := List.eq_nil_of_length_eq_zero (by have := dcF hc1; omega)
  refine Qu (Qe (Qc ?_))
  refine Rr (Ql (v := .pointer _) rfl) ?_
  refine Qo rfl (QA call26 rfl) (Ok.mono (rerr_ok _ _ _ _ hr1) ?_)
  rintro _ w3 ⟨rfl, x4⟩
  replace hX := hX.ex x4
  refine Rr (asI rfl) ?_
  refine Qd (Qy ?_)
  refine ⟨_, Qp rfl rfl, ?_⟩
  refine ⟨congrArg (Value.int .i64) ?_, hX⟩
  all_goals (rw [endS, if_neg (fun h => h.2 hne)])
 refine Rr (mvB rfl) ?_
 refine QW 2 5 rfl rfl (cvB (show (s.2 == 0) = false by simpa using hok)) rfl rfl ?_
 refine QW 2 5 rfl rfl (cvB (show (s.2 == 0) = false by simpa using hok)) rfl rfl ?_
 refine QW 2 5 rfl rfl (cvB (show (s.2 == 0) = false by simpa using hok)) rfl rfl ?_
 refine QW 2 5 rfl rfl (cvB (show (s.2 == 0) = false by simpa using hok)) rfl rfl ?_
 refine QW 2 5 rfl rfl (cvB (show (s.2 == 0) = false by simpa using hok)) rfl rfl ?_
 refine QW 2 5 rfl rfl (cvB (show (s.2 == 0) = false by simpa using hok)) rfl rfl ?_
 refine Rr (Q3 (v := .bool _) (cvB (show (s.2 == 0) = false by simpa using hok)) rfl) ?_
 refine Qd ?_
 refine Qr rfl ?_
 refine Qu (Qe (Qc ?_))
 refine Rr (Ql (v := .pointer _) rfl) ?_
 refine Qo rfl (QA call26 rfl) (Ok.mono (rerr_ok _ _ _ _ hr1) ?_)
 rintro _ w5 ⟨rfl, x6⟩
 replace hX := hX.ex x6
 refine Rr (asI rfl) ?_
 refine Qd (Qy ?_)
 refine ⟨_, Qp rfl rfl, ?_⟩
 refine ⟨congrArg (Value.int .i64) ?_, hX⟩
 all_goals (rw [endS, if_neg (fun h => hok h.1)])

theorem rnumber_ok (v0 : Value) (D : Nat → Prop) (s : RSt) (most : Nat) (hmost : most ≤ 100000000) (w : World) (hr0 : Rdr 126 D w v0 s) (hl9 : s.1.length ≤ 100000000) : Ok Tryz.prog 23 #[v0, .int .i64 (most : Int)] w fun v w' => v = .int .i64 ((uintS s (BitVec.ofNat 64 most)).2.toNat : Int) ∧ Rdr 126 D w' v0 (uintS s (BitVec.ofNat 64 most)).1 ∧ Bel False (PtB v0) w w' := by
 have hm0 : decide ((most : Int) < 0) = false := decide_eq_false (by omega)
 have hum := uintS_le s (BitVec.ofNat 64 most)
 have hm64 : (BitVec.ofNat 64 most).toNat = most := by rw [BitVec.toNat_ofNat]; exact Nat.mod_eq_of_lt (by omega)
 refine Qz 20 func23 rfl rfl rfl ?_
 have hX : Bel False ((PtB v0)) w w := Bel.refl _ _
 refine Qe (Qc ?_)
 refine Rr Qm ?_
 refine Qd (Qe (Qe (Qc ?_)))
 refine Rr (Ql (v := v0) rfl) ?_
 refine Qo rfl (QA call60 rfl) (Ok.mono (rok_ok v0 _ s _ hr0) ?_)
 rintro _ w1 ⟨rfl, x2⟩
 have z3 := x2.size
 replace hX := hX.ex x2
 replace hr0 := hr0.ext x2
 refine Rr (Q5 rfl) ?_
 refine (Decidable.em ((s.2 == 0) = true)).elim (fun hok => ?_) (fun hok => ?_)
 ·refine Rr (mvB rfl) ?_
  refine QF 3 8 rfl (cvB (show (!(s.2 == 0)) = false by rw [hok]; rfl)) ?_
  refine Rr (Ql (v := v0) rfl) ?_
  refine QF 3 8 rfl (cvB (show (!(s.2 == 0)) = false by rw [hok]; rfl)) ?_
  refine Rr (mvI rfl) ?_
  refine QF 3 8 rfl (cvB (show (!(s.2 == 0)) = false by rw [hok]; rfl)) ?_
  refine Rr (QQ rfl rfl) ?_
  refine QF 3 8 rfl (cvB (show (!(s.2 == 0)) = false by rw [hok]; rfl)) ?_
  refine Qo rfl (o_call3 call61 rfl rfl rfl) (Ok.mono (rref_ok v0 _ s (decide ((most : Int) < 0)) 1 _ hr0) ?_)
  rintro _ w4 ⟨rfl, hr0, x5⟩
  have z6 := x5.size
  replace hX := Bel.out hX x5 om2
  refine QF 3 8 rfl (cvB (show (!(s.2 == 0)) = false by rw [hok]; rfl)) ?_
  refine Rr (Q5 rfl) ?_
  refine Rr (Q3 (v := .bool _) (cvB (show (!(s.2 == 0)) = false by rw [hok]; rfl)) rfl) ?_
  refine Qd ?_
  refine Qr (cvB (show (!(!(decide ((most : Int) < 0)))) = false by rw [hm0]; rfl)) ?_
  refine Qu (Qe (Qc ?_))
  rw [refS_no hm0] at hr0
  refine Rr (Ql (v := v0) rfl) ?_
  refine Rr (mvI rfl) ?_
  refine Rr (o_convV (n := most) underlying3 underlying67 rfl (by omega)) ?_
  refine Qo rfl (QM call62 rfl rfl) (Ok.mono (ruint_ok v0 _ s (BitVec.ofNat 64 most) _ hr0 hl9) ?_)
  rintro _ w7 ⟨rfl, hr0, x8⟩
  have z9 := x8.size
  replace hX := Bel.out hX x8 om2
  refine Rr (o_convU (n := (uintS s (BitVec.ofNat 64 most)).2.toNat) underlying67 underlying3 rfl rfl (by omega)) ?_
  refine Rr (asI rfl) ?_
  refine Qd (Qy ?_)
  refine ⟨_, Qp rfl rfl, ?_⟩
  exact ⟨rfl, hr0, hX⟩
 refine Rr (mvB rfl) ?_
 refine QW 3 8 rfl rfl (cvB (show (!(s.2 == 0)) = true by simp only [Bool.not_eq_true] at hok; rw [hok]; rfl)) rfl rfl ?_
 refine QW 3 8 rfl rfl (cvB (show (!(s.2 == 0)) = true by simp only [Bool.not_eq_true] at hok; rw [hok]; rfl)) rfl rfl ?_
 refine QW 3 8 rfl rfl (cvB (show (!(s.2 == 0)) = true by simp only [Bool.not_eq_true] at hok; rw [hok]; rfl)) rfl rfl ?_
 refine QW 3 8 rfl rfl (cvB (show (!(s.2 == 0)) = true by simp only [Bool.not_eq_true] at hok; rw [hok]; rfl)) rfl rfl ?_
 refine QW 3 8 rfl rfl (cvB (show (!(s.2 == 0)) = true by simp only [Bool.not_eq_true] at hok; rw [hok]; rfl)) rfl rfl ?_
 refine Rr (Zb (v := .bool _) (cvB (show (!(s.2 == 0)) = true by simp only [Bool.not_eq_true] at hok; rw [hok]; rfl)) rfl) ?_
 refine Qd ?_
 refine Q2 rfl ?_
 refine Qe (Qc ?_)
 refine Rr Qm ?_
 refine Qd (Qy ?_)
 refine ⟨_, Qp rfl rfl, ?_⟩
 have e9 : uintS s (BitVec.ofNat 64 most) = (s, 0) := by rw [uintS, if_neg hok]
 rw [e9]; exact ⟨rfl, hr0, hX⟩

theorem rflag_ok (v0 : Value) (D : Nat → Prop) (s : RSt) (w : World) (hr0 : Rdr 126 D w v0 s) (hl9 : s.1.length ≤ 100000000) : Ok Tryz.prog 24 #[v0] w fun v w' => v = .bool (flagS s).2 ∧ Rdr 126 D w' v0 (flagS s).1 ∧ Bel False (PtB v0) w w' := by
 obtain ⟨b, rfl⟩ := hr0.ptr
 refine Qz 31 func24 rfl rfl rfl ?_
 have hX : Bel False ((PtB (.pointer (some ⟨b, 0, none⟩)))) w w := Bel.refl _ _
 refine Qe (Qc ?_)
 refine Rr Qm ?_
 refine Qd (Qe (Qe (Qc ?_)))
 refine Rr (Ql (v := .pointer (some ⟨b, 0, none⟩)) rfl) ?_
 refine Qo rfl (QA call60 rfl) (Ok.mono (rok_ok (.pointer (some ⟨b, 0, none⟩)) _ s _ hr0) ?_)
 rintro _ w1 ⟨rfl, x2⟩
 have z3 := x2.size
 replace hX := hX.ex x2
 replace hr0 := hr0.ext x2
 refine Rr (Q5 rfl) ?_
 refine (Decidable.em ((s.2 == 0) = true)).elim (fun hok => ?_) (fun hok => ?_)
 ·refine Rr (mvB rfl) ?_
  obtain ⟨ax, cx, hb, hx⟩ := hr0.open
  refine QF 3 6 rfl (cvB (show (!(s.2 == 0)) = false by rw [hok]; rfl)) ?_
  refine Rr (Ql (v := .pointer (some ⟨b, 0, none⟩)) rfl) ?_
  refine QF 3 6 rfl (cvB (show (!(s.2 == 0)) = false by rw [hok]; rfl)) ?_
  refine Rr (Ql (v := .pointer (some ⟨b, 0, none⟩)) rfl) ?_
  refine QF 3 6 rfl (cvB (show (!(s.2 == 0)) = false by rw [hok]; rfl)) ?_
  refine Rr (QG rfl) ?_
  refine QF 3 6 rfl (cvB (show (!(s.2 == 0)) = false by rw [hok]; rfl)) ?_
  refine Rr (Qx underlying126 rfl sizeOf30 rfl) ?_
  refine QF 3 6 rfl (cvB (show (!(s.2 == 0)) = false by rw [hok]; rfl)) ?_
  refine Rr (Qn isAgg30 rfl (hb.at.get 0 rfl)) ?_
  refine QF 3 6 rfl (cvB (show (!(s.2 == 0)) = false by rw [hok]; rfl)) ?_
  refine Rr (QK underlying30 rfl) ?_
  refine QF 3 6 rfl (cvB (show (!(s.2 == 0)) = false by rw [hok]; rfl)) ?_
  refine Rr (Q0 rfl rfl) ?_
  refine (Decidable.em (s.1 = [])).elim (fun hnil => ?_) (fun hnil => ?_)
  ·refine QF 3 6 rfl (cvB (show (!(s.2 == 0)) = false by rw [hok]; rfl)) ?_
   refine Rr (mvB rfl) ?_
   refine QW 11 14 rfl rfl (cvB (show ((s.1.length : Int) == 0) = true by rw [hnil]; rfl)) rfl rfl ?_
   refine QW 11 14 rfl rfl (cvB (show ((s.1.length : Int) == 0) = true by rw [hnil]; rfl)) rfl rfl ?_
   refine QW 11 14 rfl rfl (cvB (show ((s.1.length : Int) == 0) = true by rw [hnil]; rfl)) rfl rfl ?_
   refine QW 11 14 rfl rfl (cvB (show ((s.1.length : Int) == 0) = true by rw [hnil]; rfl)) rfl rfl ?_
   refine QW 11 14 rfl rfl (cvB (show ((s.1.length : Int) == 0) = true by rw [hnil]; rfl)) rfl rfl ?_
   refine QW 11 14 rfl rfl (cvB (show ((s.1.length : Int) == 0) = true by rw [hnil]; rfl)) rfl rfl ?_
   refine QW 11 14 rfl rfl (cvB (show ((s.1.length : Int) == 0) = true by rw [hnil]; rfl)) rfl rfl ?_
   refine QF 3 6 rfl (cvB (show (!(s.2 == 0)) = false by rw [hok]; rfl)) ?_
   refine Rr (Zb (v := .bool _) (cvB (show ((s.1.length : Int) == 0) = true by rw [hnil]; rfl)) rfl) ?_
   refine QF 3 6 rfl (cvB (show (!(s.2 == 0)) = false by rw [hok]; rfl)) ?_
   refine Qo rfl (o_call3 call61 rfl rfl rfl) (Ok.mono (rref_ok (.pointer (some ⟨b, 0, none⟩)) _ s true 6 _ hr0) ?_)
   rintro _ w4 ⟨rfl, hr0, x5⟩
   have z6 := x5.size
   replace hX := Bel.out hX x5 om2
   refine QF 3 6 rfl (cvB (show (!(s.2 == 0)) = false by rw [hok]; rfl)) ?_
   refine Rr (Q5 rfl) ?_
   refine Rr (Q3 (v := .bool _) (cvB (show (!(s.2 == 0)) = false by rw [hok]; rfl)) rfl) ?_
   refine Qd ?_
   refine Q2 rfl ?_
   refine Qe (Qc ?_)
   refine Rr Qm ?_
   refine Qd (Qy ?_)
   refine ⟨_, Qp rfl rfl, ?_⟩
   rw [refS_yes (show (true : Bool) = true from rfl) hok] at hr0
   have e9 : flagS s = ((s.1, 6), false) := by rw [flagS, if_pos hok, if_pos (.inl hnil)]
   rw [e9]; exact ⟨rfl, hr0, hX⟩
  refine QF 3 6 rfl (cvB (show (!(s.2 == 0)) = false by rw [hok]; rfl)) ?_
  refine Rr (mvB rfl) ?_
  have hpos : 1 ≤ s.1.length := Nat.pos_of_ne_zero (fun h => hnil (List.eq_nil_of_length_eq_zero h))
  refine QF 11 14 rfl (cvB (show ((s.1.length : Int) == 0) = false from neF (fun h => hnil (List.eq_nil_of_length_eq_zero (by omega))))) ?_
  refine Rr (Ql (v := .pointer (some ⟨b, 0, none⟩)) rfl) ?_
  refine QF 11 14 rfl (cvB (show ((s.1.length : Int) == 0) = false from neF (fun h => hnil (List.eq_nil_of_length_eq_zero (by omega))))) ?_
  refine Rr (QG rfl) ?_
  refine QF 11 14 rfl (cvB (show ((s.1.length : Int) == 0) = false from neF (fun h => hnil (List.eq_nil_of_length_eq_zero (by omega))))) ?_
  refine Rr (Qx underlying126 rfl sizeOf30 rfl) ?_
  refine QF 11 14 rfl (cvB (show ((s.1.length : Int) == 0) = false from neF (fun h => hnil (List.eq_nil_of_length_eq_zero (by omega))))) ?_
  refine Rr (Qn isAgg30 rfl (hb.at.get 0 rfl)) ?_
  refine QF 11 14 rfl (cvB (show ((s.1.length : Int) == 0) = false from neF (fun h => hnil (List.eq_nil_of_length_eq_zero (by omega))))) ?_
  refine Rr (Zg (i := 0) underlying30 sizeOf5 hx rfl rfl omg) ?_
  refine QF 11 14 rfl (cvB (show ((s.1.length : Int) == 0) = false from neF (fun h => hnil (List.eq_nil_of_length_eq_zero (by omega))))) ?_
  refine Rr (o_ldR isAgg5 hx rfl rfl (getE 0 (by omega)) rfl) ?_
  refine QF 11 14 rfl (cvB (show ((s.1.length : Int) == 0) = false from neF (fun h => hnil (List.eq_nil_of_length_eq_zero (by omega))))) ?_
  refine Rr (o_gtr rfl rfl) ?_
  refine QF 3 6 rfl (cvB (show (!(s.2 == 0)) = false by rw [hok]; rfl)) ?_
  refine Rr (Q3 (v := .bool _) (cvB (show ((s.1.length : Int) == 0) = false from neF (fun h => hnil (List.eq_nil_of_length_eq_zero (by omega))))) rfl) ?_
  refine (Decidable.em ((decide ((1 : Int) < ((s.1.getD 0 0).toNat : Int))) = true)).elim (fun hgt => ?_) (fun hgt => ?_)
  ·refine QF 3 6 rfl (cvB (show (!(s.2 == 0)) = false by rw [hok]; rfl)) ?_
   refine Qo rfl (o_call3 call61 rfl rfl rfl) (Ok.mono (rref_ok (.pointer (some ⟨b, 0, none⟩)) _ s (decide ((1 : Int) < ((s.1.getD 0 0).toNat : Int))) 6 _ hr0) ?_)
   rintro _ w7 ⟨rfl, hr0, x8⟩
   have z9 := x8.size
   replace hX := Bel.out hX x8 om2
   refine QF 3 6 rfl (cvB (show (!(s.2 == 0)) = false by rw [hok]; rfl)) ?_
   refine Rr (Q5 rfl) ?_
   refine Rr (Q3 (v := .bool _) (cvB (show (!(s.2 == 0)) = false by rw [hok]; rfl)) rfl) ?_
   refine Qd ?_
   refine Q2 (cvB (show (!(!(decide ((1 : Int) < ((s.1.getD 0 0).toNat : Int))))) = true by rw [hgt]; rfl)) ?_
   refine Qe (Qc ?_)
   refine Rr Qm ?_
   refine Qd (Qy ?_)
   refine ⟨_, Qp rfl rfl, ?_⟩
   rw [refS_yes hgt hok] at hr0
   have e9 : flagS s = ((s.1, 6), false) := by rw [flagS, if_pos hok, if_pos (.inr (by have := dcT hgt; omega))]
   rw [e9]; exact ⟨rfl, hr0, hX⟩
  refine QF 3 6 rfl (cvB (show (!(s.2 == 0)) = false by rw [hok]; rfl)) ?_
  refine Qo rfl (o_call3 call61 rfl rfl rfl) (Ok.mono (rref_ok (.pointer (some ⟨b, 0, none⟩)) _ s (decide ((1 : Int) < ((s.1.getD 0 0).toNat : Int))) 6 _ hr0) ?_)
  rintro _ w10 ⟨rfl, hr0, x11⟩
  have z12 := x11.size
  replace hX := Bel.out hX x11 om2
  refine QF 3 6 rfl (cvB (show (!(s.2 == 0)) = false by rw [hok]; rfl)) ?_
  refine Rr (Q5 rfl) ?_
  refine Rr (Q3 (v := .bool _) (cvB (show (!(s.2 == 0)) = false by rw [hok]; rfl)) rfl) ?_
  refine Qd ?_
  refine Qr (cvB (show (!(!(decide ((1 : Int) < ((s.1.getD 0 0).toNat : Int))))) = false by rw [Bool.not_not]; simpa using hgt)) ?_
  refine Qu (Qe (Qc ?_))
  rw [refS_no (show (decide ((1 : Int) < ((s.1.getD 0 0).toNat : Int))) = false by simpa using hgt)] at hr0
  refine Rr (Ql (v := .pointer (some ⟨b, 0, none⟩)) rfl) ?_
  refine Qo rfl (QM call63 rfl rfl) (Ok.mono (rtake_ok (.pointer (some ⟨b, 0, none⟩)) _ s.1 s.2 1 _ hr0 hpos hl9) ?_)
  rintro v27 w13 ⟨hown27, hr0, x14⟩
  have z15 := x14.size
  replace hX := Bel.out hX x14 om2
  obtain ⟨a27, c27, hv27, -⟩ := hown27.sl QI
  have hl27 : (s.1.take 1).length = 1 := by rw [List.length_take]; omega
  have hg27 : (s.1.take 1).getD 0 0 = s.1.getD 0 0 := by simp only [List.getD]; rw [List.getElem?_take]; rfl
  subst hv27
  refine Rr (Zf (i := 0) underlying30 sizeOf5 hown27 rfl rfl (by omega)) ?_
  refine Rr (o_ldR isAgg5 (hown27.slA QI) rfl rfl (getE 0 (by omega)) rfl) ?_
  refine Rr (Q0 rfl rfl) ?_
  refine Rr (asB rfl) ?_
  refine Qd (Qy ?_)
  refine ⟨_, Qp rfl rfl, ?_⟩
  have e9 : flagS s = ((s.1.drop 1, s.2), s.1.getD 0 0 == 1) := by rw [flagS, if_pos hok, if_neg (fun h => h.elim hnil (fun h => hgt (decide_eq_true (by omega))))]
  rw [e9]; refine ⟨?_, hr0, hX⟩
  rw [hg27]; exact cvB (flag_eq _)
 refine Rr (mvB rfl) ?_
 refine QW 3 6 rfl rfl (cvB (show (!(s.2 == 0)) = true by simp only [Bool.not_eq_true] at hok; rw [hok]; rfl)) rfl rfl ?_
 refine QW 3 6 rfl rfl (cvB (show (!(s.2 == 0)) = true by simp only [Bool.not_eq_true] at hok; rw [hok]; rfl)) rfl rfl ?_
 refine QW 3 6 rfl rfl (cvB (show (!(s.2 == 0)) = true by simp only [Bool.not_eq_true] at hok; rw [hok]; rfl)) rfl rfl ?_
 refine QW 3 6 rfl rfl (cvB (show (!(s.2 == 0)) = true by simp only [Bool.not_eq_true] at hok; rw [hok]; rfl)) rfl rfl ?_
 refine QW 3 6 rfl rfl (cvB (show (!(s.2 == 0)) = true by simp only [Bool.not_eq_true] at hok; rw [hok]; rfl)) rfl rfl ?_
 refine QW 3 6 rfl rfl (cvB (show (!(s.2 == 0)) = true by simp only [Bool.not_eq_true] at hok; rw [hok]; rfl)) rfl rfl ?_
 refine QW 3 6 rfl rfl (cvB (show (!(s.2 == 0)) = true by simp only [Bool.not_eq_true] at hok; rw [hok]; rfl)) rfl rfl ?_
 refine QW 3 6 rfl rfl (cvB (show (!(s.2 == 0)) = true by simp only [Bool.not_eq_true] at hok; rw [hok]; rfl)) rfl rfl ?_
 refine Rg_offU 11 14 rfl rfl rfl rfl ?_
 refine Rg_offU 11 14 rfl rfl rfl rfl ?_
 refine Rg_offU 11 14 rfl rfl rfl rfl ?_
 refine Rg_offU 11 14 rfl rfl rfl rfl ?_
 refine Rg_offU 11 14 rfl rfl rfl rfl ?_
 refine Rg_offU 11 14 rfl rfl rfl rfl ?_
 refine Rg_offU 11 14 rfl rfl rfl rfl ?_
 refine QW 3 6 rfl rfl (cvB (show (!(s.2 == 0)) = true by simp only [Bool.not_eq_true] at hok; rw [hok]; rfl)) rfl rfl ?_
 refine QW 3 6 rfl rfl (cvB (show (!(s.2 == 0)) = true by simp only [Bool.not_eq_true] at hok; rw [hok]; rfl)) rfl rfl ?_
 refine QW 3 6 rfl rfl (cvB (show (!(s.2 == 0)) = true by simp only [Bool.not_eq_true] at hok; rw [hok]; rfl)) rfl rfl ?_
 refine Rr (Zb (v := .bool _) (cvB (show (!(s.2 == 0)) = true by simp only [Bool.not_eq_true] at hok; rw [hok]; rfl)) rfl) ?_
 refine Qd ?_
 refine Q2 rfl ?_
 refine Qe (Qc ?_)
 refine Rr Qm ?_
 refine Qd (Qy ?_)
 refine ⟨_, Qp rfl rfl, ?_⟩
 have e9 : flagS s = (s, false) := by rw [flagS, if_neg hok]
 rw [e9]; exact ⟨rfl, hr0, hX⟩

theorem rput_ok (x : W64) (w : World) : Ok Tryz.prog 20 #[u64 x] w fun v w' => Own encB 1 5 (Fsh w w') w' v (putU x) ∧ Ext False w w' := by
 refine Qz 20 func20 rfl rfl rfl ?_
 have hX := xRf w
 refine Qe (Qc ?_)
 refine Rr Qm ?_
 refine Qd (Qe (Qc ?_))
 refine Rr (mvI rfl) ?_
 refine Rr (o_uremU (b := BitVec.ofNat 64 128) rfl rfl (by decide)) ?_
 refine Rr (o_convUB underlying67 underlying5 rfl) ?_
 refine Rg_bs (vs := [.int _ _]) ([UInt8.ofNat (x % 128#64).toNat]) rfl QI el_b8 rfl rfl ⟨rfl, trivial⟩ rfl rfl rfl rfl ?_
 intro a7 w1 x2 hown7
 have z3 := x2.size
 replace hX := hX.ex x2
 replace hown7 := hown7.mono (D' := fun g => w.heap.size ≤ g) (fun g h1 h2 => by omega)
 refine Rr (asS rfl) ?_
 refine Qd (Qe (QB ?_))
 refine Za (α := W64 × List UInt8 × Value) [(0, 0), (3, 3), (8, 18)] (fun q => [(0, u64 q.1), (3, q.2.2)]) (fun q w' => ((gT (q.1 >>> 7)).reverse ++ q.2.1 = putU x) ∧ Bel False (fun g => w.heap.size ≤ g) w1 w' ∧ (Own encB 1 5 (fun g => w.heap.size ≤ g) w' q.2.2 q.2.1)) (fun q => q.1.toNat) (x, [UInt8.ofNat (x % 128#64).toNat], .slice a7 1 1) ⟨rfl, rfl, trivial⟩ ⟨(show (gT (x >>> 7)).reverse ++ [UInt8.ofNat (x % 128#64).toNat] = putU x by rw [b7_rem, putU_eq]), Bel.refl _ _, hown7⟩ ?_
 rintro ⟨y, l, u⟩ fb6 w5 ⟨hI, hXL4, hown⟩
 dsimp only at *
 have z7 := Bel.size hXL4
 replace hX := Bel.out hX hXL4 om2
 refine Qe (Qe (Qc ?_))
 refine Rr (mvI rfl) ?_
 refine Rr (o_geq rfl rfl) ?_
 refine Qd ?_
 refine QD rfl (fun hc1 => ?_) (fun hc1 => ?_)
 ·replace hc1 := dcT hc1
  have hy0 : y >>> 7 ≠ 0 := fun h => by
   have h1 : (y >>> 7).toNat = y.toNat / 128 := by rw [BitVec.toNat_ushiftRight, Nat.shiftRight_eq_div_pow]
   rw [h] at h1; simp at h1; omega
  refine Qu (QB (Qe (Qc ?_)))
  refine Rr (mvI rfl) ?_
  refine Rr (o_quoU (a := y) (b := 128#64) rfl rfl (by decide)) ?_
  refine Rr (asI rfl) ?_
  refine Qd (Qc ?_)
  refine Rr (mvI rfl) ?_
  refine Rr (o_uremU (b := BitVec.ofNat 64 128) rfl rfl (by decide)) ?_
  refine Rr (o_convUB underlying67 underlying5 rfl) ?_
  refine Rr (o_addB (a := UInt8.ofNat ((y / 128#64) % 128#64).toNat) (b := 128) rfl rfl) ?_
  refine Rg_bs (vs := [.int _ _]) ([UInt8.ofNat ((y / 128#64) % 128#64).toNat + 128]) rfl QI el_b8 rfl rfl ⟨rfl, trivial⟩ rfl rfl rfl rfl ?_
  intro a16 w8 x9 hown16
  have z10 := x9.size
  replace hX := hX.ex x9
  replace hXL4 := Bel.ex hXL4 x9
  replace hown := hown.ext x9
  replace hown16 := hown16.mono (D' := fun g => w.heap.size ≤ g) (fun g h1 h2 => by omega)
  obtain ⟨a3, c3, hv3, -⟩ := hown.sl QI
  subst hv3
  refine Rr (Ql (v := .slice a3 l.length c3) rfl) ?_
  refine Rg_app rfl QI el_b8 rfl rfl hown16 (hown.slA QI) rfl (by have := congrArg List.length hI; have := QP x; simp at *; omega) omU ?_
  intro v18 w11 x12 hown16
  have z13 := x12.size
  replace hX := Bel.out hX x12 om2
  replace hXL4 := Bel.out hXL4 x12 om2
  refine Rr (Qv (v := v18) rfl) ?_
  refine Qd ?_
  refine ⟨(y / 128#64, [UInt8.ofNat ((y / 128#64) % 128#64).toNat + 128] ++ l, v18), ⟨sT, sT, trivial⟩, oT, ⟨?_, hXL4, ?_⟩, ?_⟩
  ·show (gT ((y / 128#64) >>> 7)).reverse ++ ([UInt8.ofNat ((y / 128#64) % 128#64).toNat + 128] ++ l) = putU x
   rw [b7_add, quo128, ← hI, gT_some hy0, List.reverse_cons, List.append_assoc]
  ·exact hown16
  ·show (y / 128#64).toNat < y.toNat; rw [quo128]; exact shr7_lt (fun h => hy0 (by rw [h]; rfl))
 replace hc1 := dcF hc1
 have hy0 : y >>> 7 = 0 := by
  apply BitVec.eq_of_toNat_eq
  rw [BitVec.toNat_ushiftRight, Nat.shiftRight_eq_div_pow]; simp; omega
 refine QS (QL (Qe (Qc ?_)))
 refine Rr (Ql (v := u) rfl) ?_
 refine Rr (Qv (v := u) rfl) ?_
 refine Qd (Qy ?_)
 refine ⟨_, Qp rfl rfl, ?_⟩
 rw [hy0, gT_zero, List.reverse_nil, List.nil_append] at hI
 rw [← hI]
 exact ⟨hown.mono (fun g h1 h2 => by omega), hX⟩

theorem rputf_ok (y : Bool) (w : World) : Ok Tryz.prog 21 #[.bool y] w fun v w' => Own encB 1 5 (Fsh w w') w' v [putF y] ∧ Ext False w w' := by
 refine Qz 6 func21 rfl rfl rfl ?_
 have hX := xRf w
 refine Qe (Qc ?_)
 refine Rr Qm ?_
 refine Qd (Qe (Qe (Qc ?_)))
 refine Rr (mvB rfl) ?_
 refine Qd ?_
 refine QD rfl (fun hc1 => ?_) (fun hc1 => ?_)
 ·refine Qe (Qc ?_)
  refine Rg_bs (vs := [.int _ _]) (([1] : List UInt8)) rfl QI el_b8 rfl rfl ⟨rfl, trivial⟩ rfl rfl rfl rfl ?_
  intro a4 w1 x2 hown4
  have z3 := x2.size
  replace hX := hX.ex x2
  replace hown4 := hown4.mono (D' := fun g => w.heap.size ≤ g) (fun g h1 h2 => by omega)
  refine Rr (asS rfl) ?_
  refine Qd (Qy ?_)
  refine ⟨_, Qp rfl rfl, ?_⟩
  have e1 : putF y = 1 := by rw [hc1]; rfl
  rw [e1]; exact ⟨hown4.mono (fun g h1 h2 => ⟨by omega, h1⟩), hX⟩
 refine Qu (Qe (Qc ?_))
 refine Rg_bs (vs := [.int _ _]) (([0] : List UInt8)) rfl QI el_b8 rfl rfl ⟨rfl, trivial⟩ rfl rfl rfl rfl ?_
 intro a5 w4 x5 hown5
 have z6 := x5.size
 replace hX := hX.ex x5
 replace hown5 := hown5.mono (D' := fun g => w.heap.size ≤ g) (fun g h1 h2 => by omega)
 refine Rr (asS rfl) ?_
 refine Qd (Qy ?_)
 refine ⟨_, Qp rfl rfl, ?_⟩
 have e1 : putF y = 0 := by rw [hc1]; rfl
 rw [e1]; exact ⟨hown5.mono (fun g h1 h2 => ⟨by omega, h1⟩), hX⟩

