/- Walks: what functions return. -/
import Derived.Test.YtjnjalalkbamkaaGreatDoorWsm5
import Derived.Test.YtjnjalalkbamkaaGreatDoorWcr5
import Derived.Test.YtjnjalalkbamkaaGreatDoorWcb5
import Derived.Test.YtjnjalalkbamkaaGreatDoorWr52
import Derived.Test.YtjnjalalkbamkaaGreatDoorCb
import Derived.Test.YtjnjalalkbamkaaGreatDoorWak52
set_option linter.unusedVariables false
set_option linter.unusedSimpArgs false
set_option linter.unnecessarySimpa false
namespace Go.Proofs.YtjnjalalkbamkaaGreatDoor
open Go Go.Lx Go.RowKit Tryz
set_option maxRecDepth 100000
set_option maxHeartbeats 4000000 in
theorem lawc_CampaignReads (w : World) (c : Cpg) (a0 : Option Addr) (n0 : Nat) (hl : Sl encIr 4 (Lt w.heap.size) w a0 n0 c.l) (x : Nat) (hx : x < 65536) (y : UInt8) (hT : Tb w) : Ok Tryz.prog 3 #[.agg (cgC c (.slice a0 c.l.length n0)).toArray, .int .u16 (x : Int), .int .u8 (y.toNat : Int)] w fun v w' => v = .bool true ∧ Ext False w w' := by
 have hlen := hl.len
 have hlt0 := hT.lt
 replace hl := hl.mono (F' := fun g => g < w.heap.size) (fun g h1 h2 => h1)
 refine Qz 160 func3 rfl rfl rfl ?_
 have hX := xRf w
 refine Qe (Qc ?_)
 refine QJ rfl (Q4 (v := .agg _) rfl) ?_
 intro b3 w1 x2 hge3 hb3
 have hlt3 := hb3.lt
 change Box _ _ _ (cgC _ _) at hb3
 have z3 := x2.size
 replace hX := hX.ex x2
 replace hl := hl.ext x2
 replace hT := hT.ext x2
 refine Rr Qm ?_
 refine Qd (Qe (Qe (Qc ?_)))
 refine Qo rfl (o_call0 call4) (Ok.mono (awake52_ok _ hT) ?_)
 rintro _ w4 ⟨rfl, x5⟩
 have z6 := x5.size
 replace hX := hX.ex x5
 replace hl := hl.ext x5
 replace hb3 := hb3.ext x5
 refine Rr (Q5 rfl) ?_
 refine Qd ?_
 refine Qr rfl ?_
 refine Qu (Qe (Qc ?_))
 obtain ⟨n1, hn1⟩ : ∃ n, n = w4.heap.size := ⟨_, rfl⟩
 refine Rr (Qx underlying24 rfl sizeOf3 rfl) ?_
 refine Rr (Qn isAgg3 rfl (hb3.at.get 0 rfl)) ?_
 refine Rr (o_andI 65535 rfl rfl (by decide)) ?_
 refine Rr (Qx underlying24 rfl sizeOf3 rfl) ?_
 refine Rr (Qn isAgg3 rfl (hb3.at.get 1 rfl)) ?_
 refine Rr (o_andI 65535 rfl rfl (by decide)) ?_
 refine Rr (Qx underlying24 rfl sizeOf3 rfl) ?_
 refine Rr (Qn isAgg3 rfl (hb3.at.get 2 rfl)) ?_
 refine Rr (o_andI 65535 rfl rfl (by decide)) ?_
 refine Rr (Qx underlying24 rfl sizeOf3 rfl) ?_
 refine Rr (Qn isAgg3 rfl (hb3.at.get 3 rfl)) ?_
 refine Rr (o_andI 511 rfl rfl (by decide)) ?_
 refine Rr (Qx underlying24 rfl sizeOf3 rfl) ?_
 refine QY (v := .int _ _) rfl sizeOf3 rfl rfl hb3 rfl rfl rfl ?_
 intro w7 c8 hb3
 change Box _ _ _ ([.int _ _, .int _ _, .int _ _, .int _ _, .bool _, .slice _ _ _]) at hb3
 have z9 := Bel.size c8
 replace hX := Bel.out hX c8 om2
 replace hl := hl.keep c8 om3
 refine Rr (Qx underlying24 rfl sizeOf3 rfl) ?_
 refine QY (v := .int _ _) rfl sizeOf3 rfl rfl hb3 rfl rfl rfl ?_
 intro w10 c11 hb3
 change Box _ _ _ ([.int _ _, .int _ _, .int _ _, .int _ _, .bool _, .slice _ _ _]) at hb3
 have z12 := Bel.size c11
 replace hX := Bel.out hX c11 om2
 replace hl := hl.keep c11 om3
 refine Rr (Qx underlying24 rfl sizeOf3 rfl) ?_
 refine QY (v := .int _ _) rfl sizeOf3 rfl rfl hb3 rfl rfl rfl ?_
 intro w13 c14 hb3
 change Box _ _ _ ([.int _ _, .int _ _, .int _ _, .int _ _, .bool _, .slice _ _ _]) at hb3
 have z15 := Bel.size c14
 replace hX := Bel.out hX c14 om2
 replace hl := hl.keep c14 om3
 refine Rr (Qx underlying24 rfl sizeOf3 rfl) ?_
 refine QY (v := .int _ _) rfl sizeOf3 rfl rfl hb3 rfl rfl rfl ?_
 intro w16 c17 hb3
 change Box _ _ _ ([.int _ _, .int _ _, .int _ _, .int _ _, .bool _, .slice _ _ _]) at hb3
 have z18 := Bel.size c17
 replace hX := Bel.out hX c17 om2
 replace hl := hl.keep c17 om3
 refine Qd (Qe (Qc ?_))
 refine Rg_bs (vs := []) (([] : List Itm)) rfl QV el_ir rfl rfl trivial rfl rfl rfl rfl ?_
 intro a34 w19 x20 hown34
 have z21 := x20.size
 replace hX := hX.ex x20
 replace hl := hl.ext x20
 replace hb3 := hb3.ext x20
 replace hown34 := hown34.mono (D' := fun g => n1 ≤ g) (fun g h1 h2 => by have := h2.1; omega)
 refine Rr (Qx underlying24 rfl sizeOf22 rfl) ?_
 refine Rr (Qn isAgg22 rfl (hb3.at.get 5 rfl)) ?_
 refine Rr (Qx underlying24 rfl sizeOf22 rfl) ?_
 refine Rr (Qn isAgg22 rfl (hb3.at.get 5 rfl)) ?_
 refine Rr (QK underlying22 rfl) ?_
 refine Rr (o_minN (a := c.l.length) (b := 5) rfl rfl) ?_
 refine Rr (o_slto (j := (min c.l.length 5)) underlying22 sizeOf29 rfl rfl (by have := hl.le; omega)) ?_
 refine Rg_app rfl QV el_ir rfl rfl hown34 (hl.take (min c.l.length 5)) (by rw [List.length_take]; omega) (by rw [List.length_take, List.length_nil]; omega) omU ?_
 intro v42 w22 x23 hown34
 have z24 := x23.size
 replace hX := Bel.out hX x23 om2
 replace hb3 := hb3.keep x23 om1
 rw [List.nil_append] at hown34
 obtain ⟨L0, hL0⟩ : ∃ L0, L0 = c.l.take (min c.l.length 5) := ⟨_, rfl⟩
 have hL5 : L0.length ≤ 5 := by rw [hL0, List.length_take]; omega
 rw [← hL0] at hown34
 obtain ⟨a34, c34, hv34, -⟩ := hown34.sl QV
 subst hv34
 refine Rr (Qx underlying24 rfl sizeOf22 rfl) ?_
 refine QY (v := .slice _ _ _) rfl sizeOf22 rfl rfl hb3 rfl rfl rfl ?_
 intro w25 c26 hb3
 change Box _ _ _ ([.int _ _, .int _ _, .int _ _, .int _ _, .bool _, .slice _ _ _]) at hb3
 have z27 := Bel.size c26
 replace hX := Bel.out hX c26 om2
 replace hown34 := hown34.keepD c26 om3
 refine Qd (Qe (Qe (Qc ?_)))
 refine Rr (Qx underlying24 rfl sizeOf22 rfl) ?_
 refine Rr (Qn isAgg22 rfl (hb3.at.get 5 rfl)) ?_
 refine Rr (QK underlying22 rfl) ?_
 refine Rr QT ?_
 refine Qd (QB ?_)
 refine Za (α := Nat) [(7, 8), (47, 86)] (fun k => [(47, .int .i64 (k : Int))]) (fun k w' => (k ≤ L0.length) ∧ Bel False (fun g => n1 ≤ g) w25 w' ∧ (Own encIr 4 29 (fun g => n1 ≤ g) w' (.slice a34 L0.length c34) (mkI L0 k))) (fun k => L0.length - k) 0 ⟨rfl, trivial⟩ ⟨Nat.zero_le _, Bel.refl _ _, (by rw [mkI_zero]; exact hown34)⟩ ?_
 rintro k fb30 w29 ⟨hk, hXL28, hown34⟩
 have z31 := Bel.size hXL28
 replace hX := Bel.out hX hXL28 om2
 replace hb3 := hb3.keep hXL28 om1
 refine Qe (Qc ?_)
 refine Rr (QQ rfl rfl) ?_
 refine Qd (Qe ?_)
 refine QD rfl (fun hc2 => ?_) (fun hc2 => ?_)
 ·have hk1 : k < L0.length := by have := dcT hc2; omega
  refine Qu (Qe (QB (Qe (Qc ?_))))
  obtain ⟨M, hM⟩ : ∃ M, M = mkI L0 k := ⟨_, rfl⟩
  have hMl : M.length = L0.length := by rw [hM, mkI_len]
  obtain ⟨o, ho⟩ : ∃ o, o = L0.getD k itz := ⟨_, rfl⟩
  have hok : M[k]? = some o := by rw [hM, ho]; exact mkI_get hk1
  have hkM : k < M.length := by omega
  rw [← hM] at hown34
  obtain ⟨g34, q34, hsm⟩ := hown34.sm (by intro e; rw [e] at hkM; simp at hkM)
  simp only [Value.slice.injEq] at hsm
  obtain ⟨rfl, -, rfl⟩ := hsm
  refine Rr (mvI rfl) ?_
  refine Rr (asI rfl) ?_
  refine Qd (Qe (Qc ?_))
  refine Rr (Qx underlying24 rfl sizeOf22 rfl) ?_
  refine Rr (Qn isAgg22 rfl (hb3.at.get 5 rfl)) ?_
  refine Rr (mvI rfl) ?_
  refine Rr (Zf (i := k) underlying22 sizeOf29 hown34 rfl rfl (by omega)) ?_
  refine Rr (Qv (v := .pointer _) rfl) ?_
  refine Qd ?_
  obtain ⟨gq, hgq, hDq, hq⟩ := hown34.blk0 (by intro e; rw [e] at hkM; simp at hkM)
  obtain rfl : g34 = gq := by cases hgq; rfl
  apply Ze (β := False) (fun b => if b = g34 then 1 else 0) [peqC _, peqC _, peqC _, peqC _, peqC _, peqC _, peqC _, peqC _, peqC _, peqC _, peqC _, peqC _, peqC _, peqC _, peqC _, peqC _, peqC _, peqC _, peqC _, peqC _, peqC _, peqC _, peqC _, peqC _, peqC _, peqC _, (postOwnAt encIr 4 29 1 (.slice (some ⟨g34, 0, none⟩) L0.length c34) (M.set k ⟨andI o.u 511, o.r, o.v, o.d⟩)), peqC _, peqC _, (postOwnAt encIr 4 29 1 (.slice (some ⟨g34, 0, none⟩) L0.length c34) ((M.set k ⟨andI o.u 511, o.r, o.v, o.d⟩).set k ⟨andI o.u 511, andI o.r 127, o.v, o.d⟩)), peqC _, peqC _, (postOwnAt encIr 4 29 1 (.slice (some ⟨g34, 0, none⟩) L0.length c34) (((M.set k ⟨andI o.u 511, o.r, o.v, o.d⟩).set k ⟨andI o.u 511, andI o.r 127, o.v, o.d⟩).set k ⟨andI o.u 511, andI o.r 127, andI o.v 511, o.d⟩))] [0, 0, 0, 0, 0, 0, 0, 0, 0, 0, 0, 0, 0, 0, 0, 0, 0, 0, 0, 0, 0, 0, 0, 0, 0, 0, 1, 0, 0, 1, 0, 0, 1] 33 Q9 (by kernel_rfl) (by kernel_rfl) rfl ⟨Qi _ _, Qi _ _, Qi _ _, Qi _ _, Qi _ _, Qi _ _, Qi _ _, Qi _ _, Qi _ _, Qi _ _, Qi _ _, Qi _ _, Qi _ _, Qi _ _, Qi _ _, Qi _ _, Qi _ _, Qi _ _, Qi _ _, Qi _ _, Qi _ _, Qi _ _, Qi _ _, Qi _ _, Qi _ _, Qi _ _, (postOwnAt_stable), Qi _ _, Qi _ _, (postOwnAt_stable), Qi _ _, Qi _ _, (postOwnAt_stable), trivial⟩ ?ob9 ?fin9
  case ob9 =>
   refine Qk (fun w32 c34 x33 hc035 hk36 => ?_) ?_
   ·replace x33 := Bel.mono x33 (D' := fun g => g = g34) omC
    have z37 := x33.size
    refine Qj ?_
    exact Qs rfl (Ql (v := .pointer _) rfl)
   refine Qk (fun w38 c40 x39 hc041 hk42 => ?_) ?_
   ·replace x39 := Bel.mono x39 (D' := fun g => g = g34) omC
    have z43 := x39.size
    refine Qj ?_
    exact Qs rfl (Ql (v := .pointer _) rfl)
   refine Qk (fun w44 c46 x45 hc047 hk48 => ?_) ?_
   ·replace x45 := Bel.mono x45 (D' := fun g => g = g34) omC
    have z49 := x45.size
    refine Qj ?_
    exact Qs rfl (Ql (v := .pointer _) rfl)
   refine Qk (fun w50 c52 x51 hc053 hk54 => ?_) ?_
   ·replace x51 := Bel.mono x51 (D' := fun g => g = g34) omC
    have z55 := x51.size
    refine Qj ?_
    exact Qs rfl (Ql (v := .pointer _) rfl)
   refine Qk (fun w56 c58 x57 hc059 hk60 => ?_) ?_
   ·replace x57 := Bel.mono x57 (D' := fun g => g = g34) omC
    have z61 := x57.size
    refine Qj ?_
    exact Qs rfl (Ql (v := .pointer _) rfl)
   refine Qk (fun w62 c64 x63 hc065 hk66 => ?_) ?_
   ·replace x63 := Bel.mono x63 (D' := fun g => g = g34) omC
    have z67 := x63.size
    refine Qb (Qj ?_)
    exact Qs rfl (QG rfl)
   refine Qk (fun w68 c70 x69 hc071 hk72 => ?_) ?_
   ·replace x69 := Bel.mono x69 (D' := fun g => g = g34) omC
    have z73 := x69.size
    have hq := hq.blk (hk72 1 (by decide) (by kernel_rfl) _ hq.lt (by first | (simp [colAt]; done) | (simp [colAt]; omega)))
    refine Qb (Qj ?_)
    exact Qs rfl (o_faE underlying29 rfl sizeOf3 (hq.1.slA QV) rfl hok)
   refine Qk (fun w74 c76 x75 hc077 hk78 => ?_) ?_
   ·replace x75 := Bel.mono x75 (D' := fun g => g = g34) omC
    have z79 := x75.size
    have hq := hq.blk (hk78 1 (by decide) (by kernel_rfl) _ hq.lt (by first | (simp [colAt]; done) | (simp [colAt]; omega)))
    refine Qb (Qj ?_)
    exact Qs rfl (o_ldE (j := 0) isAgg3 (hq.1.slA QV) rfl hok rfl)
   refine Qk (fun w80 c82 x81 hc083 hk84 => ?_) ?_
   ·replace x81 := Bel.mono x81 (D' := fun g => g = g34) omC
    have z85 := x81.size
    refine Qb (Qj ?_)
    exact Qs rfl (o_andI 511 rfl rfl (by decide))
   refine Qk (fun w86 c88 x87 hc089 hk90 => ?_) ?_
   ·replace x87 := Bel.mono x87 (D' := fun g => g = g34) omC
    have z91 := x87.size
    refine Qj ?_
    exact Qs rfl (Ql (v := .pointer _) rfl)
   refine Qk (fun w92 c94 x93 hc095 hk96 => ?_) ?_
   ·replace x93 := Bel.mono x93 (D' := fun g => g = g34) omC
    have z97 := x93.size
    refine Qb (Qj ?_)
    exact Qs rfl (QG rfl)
   refine Qk (fun w98 c100 x99 hc0101 hk102 => ?_) ?_
   ·replace x99 := Bel.mono x99 (D' := fun g => g = g34) omC
    have z103 := x99.size
    have hq := hq.blk (hk102 1 (by decide) (by kernel_rfl) _ hq.lt (by first | (simp [colAt]; done) | (simp [colAt]; omega)))
    refine Qb (Qj ?_)
    exact Qs rfl (o_faE underlying29 rfl sizeOf3 (hq.1.slA QV) rfl hok)
   refine Qk (fun w104 c106 x105 hc0107 hk108 => ?_) ?_
   ·replace x105 := Bel.mono x105 (D' := fun g => g = g34) omC
    have z109 := x105.size
    have hq := hq.blk (hk108 1 (by decide) (by kernel_rfl) _ hq.lt (by first | (simp [colAt]; done) | (simp [colAt]; omega)))
    refine Qb (Qj ?_)
    exact Qs rfl (o_ldE (j := 1) isAgg3 (hq.1.slA QV) rfl hok rfl)
   refine Qk (fun w110 c112 x111 hc0113 hk114 => ?_) ?_
   ·replace x111 := Bel.mono x111 (D' := fun g => g = g34) omC
    have z115 := x111.size
    refine Qb (Qj ?_)
    exact Qs rfl (o_andI 127 rfl rfl (by decide))
   refine Qk (fun w116 c118 x117 hc0119 hk120 => ?_) ?_
   ·replace x117 := Bel.mono x117 (D' := fun g => g = g34) omC
    have z121 := x117.size
    refine Qj ?_
    exact Qs rfl (Ql (v := .pointer _) rfl)
   refine Qk (fun w122 c124 x123 hc0125 hk126 => ?_) ?_
   ·replace x123 := Bel.mono x123 (D' := fun g => g = g34) omC
    have z127 := x123.size
    refine Qb (Qj ?_)
    exact Qs rfl (QG rfl)
   refine Qk (fun w128 c130 x129 hc0131 hk132 => ?_) ?_
   ·replace x129 := Bel.mono x129 (D' := fun g => g = g34) omC
    have z133 := x129.size
    have hq := hq.blk (hk132 1 (by decide) (by kernel_rfl) _ hq.lt (by first | (simp [colAt]; done) | (simp [colAt]; omega)))
    refine Qb (Qj ?_)
    exact Qs rfl (o_faE underlying29 rfl sizeOf3 (hq.1.slA QV) rfl hok)
   refine Qk (fun w134 c136 x135 hc0137 hk138 => ?_) ?_
   ·replace x135 := Bel.mono x135 (D' := fun g => g = g34) omC
    have z139 := x135.size
    have hq := hq.blk (hk138 1 (by decide) (by kernel_rfl) _ hq.lt (by first | (simp [colAt]; done) | (simp [colAt]; omega)))
    refine Qb (Qj ?_)
    exact Qs rfl (o_ldE (j := 2) isAgg3 (hq.1.slA QV) rfl hok rfl)
   refine Qk (fun w140 c142 x141 hc0143 hk144 => ?_) ?_
   ·replace x141 := Bel.mono x141 (D' := fun g => g = g34) omC
    have z145 := x141.size
    refine Qb (Qj ?_)
    exact Qs rfl (o_andI 511 rfl rfl (by decide))
   refine Qk (fun w146 c148 x147 hc0149 hk150 => ?_) ?_
   ·replace x147 := Bel.mono x147 (D' := fun g => g = g34) omC
    have z151 := x147.size
    refine Qj ?_
    exact Qs rfl (Ql (v := .pointer _) rfl)
   refine Qk (fun w152 c154 x153 hc0155 hk156 => ?_) ?_
   ·replace x153 := Bel.mono x153 (D' := fun g => g = g34) omC
    have z157 := x153.size
    refine Qb (Qj ?_)
    exact Qs rfl (QG rfl)
   refine Qk (fun w158 c160 x159 hc0161 hk162 => ?_) ?_
   ·replace x159 := Bel.mono x159 (D' := fun g => g = g34) omC
    have z163 := x159.size
    have hq := hq.blk (hk162 1 (by decide) (by kernel_rfl) _ hq.lt (by first | (simp [colAt]; done) | (simp [colAt]; omega)))
    refine Qb (Qj ?_)
    exact Qs rfl (o_faE underlying29 rfl sizeOf3 (hq.1.slA QV) rfl hok)
   refine Qk (fun w164 c166 x165 hc0167 hk168 => ?_) ?_
   ·replace x165 := Bel.mono x165 (D' := fun g => g = g34) omC
    have z169 := x165.size
    have hq := hq.blk (hk168 1 (by decide) (by kernel_rfl) _ hq.lt (by first | (simp [colAt]; done) | (simp [colAt]; omega)))
    refine Qb (Qj ?_)
    exact Qs rfl (o_ldE (j := 3) isAgg3 (hq.1.slA QV) rfl hok rfl)
   refine Qk (fun w170 c172 x171 hc0173 hk174 => ?_) ?_
   ·replace x171 := Bel.mono x171 (D' := fun g => g = g34) omC
    have z175 := x171.size
    refine Qb (Qj ?_)
    exact Qs rfl (o_andI 7 rfl rfl (by decide))
   refine Qk (fun w176 c178 x177 hc0179 hk180 => ?_) ?_
   ·replace x177 := Bel.mono x177 (D' := fun g => g = g34) omC
    have z181 := x177.size
    refine Qb (Qb (Qb (Qb (Qb (Qb (Qb (Qb (Qb ?_))))))))
    refine Qb (Qj ?_)
    exact Qs rfl (QG rfl)
   refine Qk (fun w182 c184 x183 hc0185 hk186 => ?_) ?_
   ·replace x183 := Bel.mono x183 (D' := fun g => g = g34) omC
    have z187 := x183.size
    have hq := hq.blk (hk186 1 (by decide) (by kernel_rfl) _ hq.lt (by first | (simp [colAt]; done) | (simp [colAt]; omega)))
    refine Qb (Qb (Qb (Qb (Qb (Qb (Qb (Qb (Qb ?_))))))))
    refine Qb (Qj ?_)
    exact Qs rfl (o_faE underlying29 rfl sizeOf3 (hq.1.slA QV) rfl hok)
   refine Qk (fun w188 c190 x189 hc0191 hk192 => ?_) ?_
   ·replace x189 := Bel.mono x189 (D' := fun g => g = g34) omC
    have z193 := x189.size
    refine Qb (Qb (Qb (Qb (Qb (Qb (Qb (Qb (Qb ?_))))))))
    refine Qb (Qb (Qj ?_))
    refine OpC_elstF (kc := 1) (l := M) (v := .int .i64 (andI o.u 511)) (i := k) (j := 0) (s := 1) ⟨andI o.u 511, o.r, o.v, o.d⟩ o (by decide) QV sizeOf3 ?_ ?_ ?_ ?_ ((hq.blk (hk192 1 (by decide) (by kernel_rfl) _ hq.lt (by first | (simp [colAt]; done) | (simp [colAt]; omega)))).col ((hc0191 g34 hq.lt).trans (by first | (simp [colAt]; done) | (simp [colAt]; omega)))) hok ?_ (by decide) <;> rfl
   refine Qk (fun w194 c196 x195 hc0197 hk198 => ?_) ?_
   ·replace x195 := Bel.mono x195 (D' := fun g => g = g34) omC
    have z199 := x195.size
    refine Qb (Qb (Qb (Qb (Qb (Qb (Qb (Qb (Qb ?_))))))))
    refine Qb (Qb (Qb (Qb (Qb (Qb (Qb (Qb ?_)))))))
    refine bindC_st (fun _ hst26 => ?_)
    refine Qj ?_
    exact Qs rfl (QG rfl)
   refine Qk (fun w200 c202 x201 hc0203 hk204 => ?_) ?_
   ·replace x201 := Bel.mono x201 (D' := fun g => g = g34) omC
    have z205 := x201.size
    refine Qb (Qb (Qb (Qb (Qb (Qb (Qb (Qb (Qb ?_))))))))
    refine Qb (Qb (Qb (Qb (Qb (Qb (Qb (Qb ?_)))))))
    refine bindC_st (fun _ hst26 => ?_)
    refine Qj ?_
    exact Qs rfl (o_faE underlying29 rfl sizeOf3 (Own.slA hst26 QV) rfl (set_at hkM))
   refine Qk (fun w206 c208 x207 hc0209 hk210 => ?_) ?_
   ·replace x207 := Bel.mono x207 (D' := fun g => g = g34) omC
    have z211 := x207.size
    refine Qb (Qb ?_)
    refine bindC_st (fun _ hst26 => ?_)
    refine Qb (Qb (Qb (Qb (Qb (Qb (Qb (Qb (Qb ?_))))))))
    refine Qb (Qb (Qb (Qb (Qb (Qb (Qb ?_))))))
    refine bindC_st (fun _ hst26 => ?_)
    refine Qj ?_
    refine OpC_elstF (kc := 1) (l := (M.set k ⟨andI o.u 511, o.r, o.v, o.d⟩)) (v := .int .i64 (andI o.r 127)) (i := k) (j := 1) (s := 1) ⟨andI o.u 511, andI o.r 127, o.v, o.d⟩ ⟨andI o.u 511, o.r, o.v, o.d⟩ (by decide) QV sizeOf3 ?_ ?_ ?_ ?_ hst26 (set_at hkM) ?_ (by decide) <;> rfl
   refine Qk (fun w212 c214 x213 hc0215 hk216 => ?_) ?_
   ·replace x213 := Bel.mono x213 (D' := fun g => g = g34) omC
    have z217 := x213.size
    refine Qb (Qb (Qb (Qb (Qb (Qb (Qb (Qb (Qb ?_))))))))
    refine Qb (Qb (Qb (Qb (Qb (Qb (Qb (Qb (Qb ?_))))))))
    refine Qb (Qb (Qb (Qb ?_)))
    refine bindC_st (fun _ hst26 => ?_)
    refine Qb (Qb ?_)
    refine bindC_st (fun _ hst29 => ?_)
    refine Qj ?_
    exact Qs rfl (QG rfl)
   refine Qk (fun w218 c220 x219 hc0221 hk222 => ?_) ?_
   ·replace x219 := Bel.mono x219 (D' := fun g => g = g34) omC
    have z223 := x219.size
    refine Qb (Qb (Qb (Qb (Qb (Qb (Qb (Qb (Qb ?_))))))))
    refine Qb (Qb (Qb (Qb (Qb (Qb (Qb (Qb (Qb ?_))))))))
    refine Qb (Qb (Qb (Qb ?_)))
    refine bindC_st (fun _ hst26 => ?_)
    refine Qb (Qb ?_)
    refine bindC_st (fun _ hst29 => ?_)
    refine Qj ?_
    exact Qs rfl (o_faE underlying29 rfl sizeOf3 (Own.slA hst29 QV) rfl (set_at (by simpa using hkM)))
   refine Qk (fun w224 c226 x225 hc0227 hk228 => ?_) ?_
   ·replace x225 := Bel.mono x225 (D' := fun g => g = g34) omC
    have z229 := x225.size
    refine Qb (Qb ?_)
    refine bindC_st (fun _ hst29 => ?_)
    refine Qb (Qb (Qb (Qb (Qb (Qb (Qb (Qb (Qb ?_))))))))
    refine Qb (Qb (Qb (Qb (Qb (Qb (Qb (Qb (Qb ?_))))))))
    refine Qb (Qb (Qb ?_))
    refine bindC_st (fun _ hst26 => ?_)
    refine Qb (Qb ?_)
    refine bindC_st (fun _ hst29 => ?_)
    refine Qj ?_
    refine OpC_elstF (kc := 1) (l := ((M.set k ⟨andI o.u 511, o.r, o.v, o.d⟩).set k ⟨andI o.u 511, andI o.r 127, o.v, o.d⟩)) (v := .int .i64 (andI o.v 511)) (i := k) (j := 2) (s := 1) ⟨andI o.u 511, andI o.r 127, andI o.v 511, o.d⟩ ⟨andI o.u 511, andI o.r 127, o.v, o.d⟩ (by decide) QV sizeOf3 ?_ ?_ ?_ ?_ hst29 (set_at (by simpa using hkM)) ?_ (by decide) <;> rfl
   exact Q8
  case fin9 =>
   intro w230 c232 x231 hc0233
   replace x231 := Bel.mono x231 (D' := fun g => g = g34) omC
   have z234 := x231.size
   replace hX := Bel.out hX x231 om2
   replace hXL28 := Bel.out hXL28 x231 om2
   refine Qb (Qb (Qb (Qb (Qb (Qb (Qb (Qb (Qb ?_))))))))
   refine Qb (Qb (Qb (Qb (Qb (Qb (Qb (Qb (Qb ?_))))))))
   refine Qb (Qb (Qb (Qb (Qb (Qb (Qb (Qb ?_)))))))
   refine bindC_lk rfl (fun hst26 => ?_)
   refine Qb (Qb ?_)
   refine bindC_lk rfl (fun hst29 => ?_)
   refine Qb (Qb ?_)
   refine bindC_lk rfl (fun hst32 => ?_)
   refine Qj ?_
   change Own _ _ _ _ _ _ _ at hst32
   have hown34 := hst32.at (D' := fun g => n1 ≤ g) (fun g h1 h2 => by cases h2; exact hDq)
   have hok3 : (((M.set k ⟨andI o.u 511, o.r, o.v, o.d⟩).set k ⟨andI o.u 511, andI o.r 127, o.v, o.d⟩).set k ⟨andI o.u 511, andI o.r 127, andI o.v 511, o.d⟩)[k]? = some ⟨andI o.u 511, andI o.r 127, andI o.v 511, o.d⟩ := set_at (by simpa using hkM)
   refine Rr (QG rfl) ?_
   refine Rr (o_faE underlying29 rfl sizeOf3 (Own.slA hown34 QV) rfl hok3) ?_
   refine Rg_elstF (i := k) (j := 3) ((mI o)) (⟨andI o.u 511, andI o.r 127, andI o.v 511, o.d⟩) rfl QV sizeOf3 rfl rfl rfl rfl hown34 hok3 rfl (by decide) ?_
   intro w235 x236 hown34
   have z237 := x236.size
   replace hX := Bel.out hX x236 om2
   replace hXL28 := Bel.out hXL28 x236 om2
   refine Qd (Qc ?_)
   refine Rr (Q6 rfl rfl omg) ?_
   refine Rr (mvI rfl) ?_
   refine Qd ?_
   refine ⟨k + 1, ⟨sT, trivial⟩, oT, ⟨?_, hXL28, ?_⟩, ?_⟩
   ·show k + 1 ≤ L0.length; omega
   ·rw [set4, hM, ho, mkI_succ hk1] at hown34
    exact hown34
   ·omega
 have hk1 : ¬ k < L0.length := by have := dcF hc2; omega
 refine QS (QL (Qe (Qc ?_)))
 rw [mkI_end (by omega)] at hown34
 obtain ⟨C, hC⟩ : ∃ C, C = mC c := ⟨_, rfl⟩
 have hCl : C.l = L0.map mI := by rw [hC, hL0]; rfl
 have hCn : C.l.length = L0.length := by rw [hCl, List.length_map]
 rw [← hCl] at hown34
 have hbx : Box w29 b3 24 (cgC C (.slice a34 C.l.length c34)) := by rw [hCn, hC]; exact hb3
 replace hb3 := hbx
 have hnb : C.nb := hC ▸ mC_nb c
 have hs34 := hown34.slA QV
 have hC5 : C.l.length ≤ 5 := by omega
 refine Rr (QO isAgg24 sizeOf24 rfl hb3.at rfl) ?_
 obtain ⟨n3, hn3⟩ : ∃ n, n = w29.heap.size := ⟨_, rfl⟩
 refine Qo rfl (QA call5 rfl) (Ok.mono (r52bytes_ok C a34 c34 _ _ hs34 hnb (by omega)) ?_)
 rintro v88 w238 ⟨hown88, x239⟩
 have z240 := x239.size
 replace hX := hX.ex x239
 replace hb3 := hb3.ext x239
 replace hs34 := hs34.ext x239
 refine Rr (Qv (v := v88) rfl) ?_
 refine Qd (Qe (Qc ?_))
 obtain ⟨Q, hQ⟩ : ∃ Q, Q = cpB C := ⟨_, rfl⟩
 have hQp := hQ ▸ cpB_pos C
 have hQl := cpK_len C C.l.length (by omega)
 rw [cpK_end (Nat.le_refl _), ← hQ] at hQl
 rw [← hQ] at hown88
 obtain ⟨a88, c88, hv88, -⟩ := hown88.sl QI
 subst hv88
 obtain ⟨n4, hn4⟩ : ∃ n, n = w238.heap.size := ⟨_, rfl⟩
 have hix := Nat.mod_lt x hQp
 refine Rr (Ql (v := .slice a88 Q.length c88) rfl) ?_
 refine Qo rfl (QA call6 rfl) (Ok.mono (cpread_ok _ _ Q _ (hown88.rd QI) (by omega)) ?_)
 rintro _ w241 ⟨⟨q91, e91, rfl, hcp91⟩, x242⟩
 have z243 := x242.size
 replace hX := hX.ex x242
 replace hb3 := hb3.ext x242
 replace hs34 := hs34.ext x242
 replace hown88 := hown88.ext x242
 refine Rr (Ql (v := .tuple _) rfl) ?_
 refine Rr (QH rfl rfl) ?_
 refine Rr (QH rfl rfl) ?_
 refine Rr (Qv (v := q91) rfl) ?_
 refine Rr (asI rfl) ?_
 refine Qd (Qe (Qe (Qc ?_)))
 refine Rr (QO isAgg24 sizeOf24 rfl hb3.at rfl) ?_
 refine Qo rfl (QA call7 rfl) (Ok.mono (r52val_ok C a34 c34 _ _ hs34) ?_)
 rintro _ w244 ⟨rfl, x245⟩
 have z246 := x245.size
 replace hX := hX.ex x245
 replace hb3 := hb3.ext x245
 replace hs34 := hs34.ext x245
 replace hown88 := hown88.ext x245
 replace hcp91 := hcp91.ext x245
 refine Rr (Q5 rfl) ?_
 refine Qd ?_
 refine QD rfl (fun hc3 => ?_) (fun hc3 => ?_)
 ·have hnv : ¬ VlC C := by simpa using hc3
  obtain ⟨-, he6, hq0⟩ := hcp91.resolve_left (fun h => hnv (okCp_only hnb (hQ ▸ h.1)))
  subst he6 hq0
  refine Qe (Qc ?_)
  refine Rr (Ql (v := .pointer none) rfl) ?_
  refine Rr (o_pne underlying32 rfl rfl) ?_
  refine Rr (mvB rfl) ?_
  refine QF 2 99 rfl rfl ?_
  refine Rr (mvI rfl) ?_
  refine QF 2 99 rfl rfl ?_
  refine Rr (o_neq rfl rfl) ?_
  refine Rr (Q3 (v := .bool _) rfl rfl) ?_
  refine Qd ?_
  refine Qr rfl ?_
  refine Qu (Qe (Qc ?_))
  refine Rr (Ql (v := .slice a88 Q.length c88) rfl) ?_
  refine Rr (mvI rfl) ?_
  refine Rr (o_convS underlying25 underlying3 rfl (wrap_in (by unfold I64; omega))) ?_
  refine Rr (Ql (v := .slice a88 Q.length c88) rfl) ?_
  refine Rr (o_llenO underlying30 rfl hown88) ?_
  refine Rr (o_remN (a := x) (b := Q.length) rfl rfl (by omega) (by omega)) ?_
  refine Rr (o_slto (j := (x % Q.length)) underlying30 sizeOf5 rfl rfl (by have := (hown88.slA QI).le; omega)) ?_
  refine Qo rfl (QA call6 rfl) (Ok.mono (cpread_ok (.slice a88 (x % Q.length) c88) _ (Q.take (x % Q.length)) _ ⟨a88, c88, (by rw [List.length_take, Nat.min_eq_left (Nat.le_of_lt hix)]), (hown88.slA QI).take (x % Q.length)⟩ (by rw [List.length_take]; omega)) ?_)
  rintro _ w247 ⟨⟨q119, e119, rfl, hcp119⟩, x248⟩
  have z249 := x248.size
  replace hX := hX.ex x248
  replace hown88 := hown88.ext x248
  obtain ⟨-, he6, hq0⟩ := hcp119.resolve_left (fun h => okCp_cut hnb (hQ ▸ hix) (hQ ▸ h.1))
  subst he6 hq0
  refine Rr (Ql (v := .tuple _) rfl) ?_
  refine Rr (QH rfl rfl) ?_
  refine Rr (QH rfl rfl) ?_
  refine Rr (Qv (v := .pointer _) rfl) ?_
  refine Rr (asI rfl) ?_
  refine Qd (Qe (Qc ?_))
  refine Rr (Ql (v := .slice a88 Q.length c88) rfl) ?_
  refine Rr (mvI rfl) ?_
  refine Rr (o_convS underlying25 underlying3 rfl (wrap_in (by unfold I64; omega))) ?_
  refine Rr (Ql (v := .slice a88 Q.length c88) rfl) ?_
  refine Rr (o_llenO underlying30 rfl hown88) ?_
  refine Rr (o_remN (a := x) (b := Q.length) rfl rfl (by omega) (by omega)) ?_
  refine Rr (Zf (i := (x % Q.length)) underlying30 sizeOf5 hown88 rfl rfl hix) ?_
  refine Rr (o_ldR isAgg5 (hown88.slA QI) rfl rfl (getE 0 hix) rfl) ?_
  refine Rr (mvI rfl) ?_
  refine Rr (o_xorV (a' := Q.getD (x % Q.length) 0) (b' := y) rfl rfl) ?_
  refine Rr (Zf (i := (x % Q.length)) underlying30 sizeOf5 hown88 rfl rfl hix) ?_
  refine Rg_elst (u := (Q.getD (x % Q.length) 0 ^^^ y)) rfl QI sizeOf5 rfl rfl rfl hown88 hix ?_
  intro w250 x251 hown88
  have z252 := x251.size
  replace hX := Bel.out hX x251 om2
  refine Qd (Qe (Qc ?_))
  obtain ⟨R, hR⟩ : ∃ R, R = Q.set (x % Q.length) (Q.getD (x % Q.length) 0 ^^^ y) := ⟨_, rfl⟩
  have hRl : R.length = Q.length := by rw [hR, List.length_set]
  rw [← hR] at hown88
  rw [← hRl] at hown88 ⊢
  refine Rr (Ql (v := .slice a88 R.length c88) rfl) ?_
  refine Qo rfl (QA call6 rfl) (Ok.mono (cpread_ok _ _ R _ (hown88.rd QI) (by omega)) ?_)
  rintro _ w253 ⟨⟨q135, e135, rfl, hcp135⟩, x254⟩
  have z255 := x254.size
  replace hX := hX.ex x254
  replace hown88 := hown88.ext x254
  refine Rr (Ql (v := .tuple _) rfl) ?_
  refine Rr (QH rfl rfl) ?_
  refine Rr (QH rfl rfl) ?_
  refine Rr (Qv (v := q135) rfl) ?_
  refine Rr (asI rfl) ?_
  refine Qd (Qe (Qe (Qc ?_)))
  refine Rr (mvI rfl) ?_
  refine Rr (o_neq rfl rfl) ?_
  refine Qd ?_
  refine QD rfl (fun hc5 => ?_) (fun hc5 => ?_)
  ·have he : e135 ≠ 0 := by simpa using hc5
   obtain ⟨hno, he6, hq0⟩ := hcp135.resolve_left (fun h => he h.2.1)
   subst he6 hq0
   refine Qe (Qc ?_)
   refine Rr (mvI rfl) ?_
   refine Rr (Q0 rfl rfl) ?_
   refine Rr (mvB rfl) ?_
   refine QF 2 142 rfl rfl ?_
   refine Rr (mvI rfl) ?_
   refine QF 2 142 rfl rfl ?_
   refine Rr (Q0 rfl rfl) ?_
   refine Rr (Zb (v := .bool _) rfl rfl) ?_
   refine Rr (mvB rfl) ?_
   refine QF 6 146 rfl rfl ?_
   refine Rr (Ql (v := .pointer none) rfl) ?_
   refine QF 6 146 rfl rfl ?_
   refine Rr (o_peq underlying32 rfl rfl) ?_
   refine Rr (Zb (v := .bool _) rfl rfl) ?_
   refine Rr (asB rfl) ?_
   refine Qd (Qy ?_)
   refine ⟨_, Qp rfl rfl, ?_⟩
   refine ⟨cvB ?_, hX⟩
   all_goals (rfl)
  have he : e135 = 0 := by simpa using hc5
  obtain ⟨hyes, -, hcg⟩ := hcp135.resolve_right (fun h => by have := h.2.1; omega)
  subst he
  obtain ⟨hb2R, hnb2⟩ := rdCp_back hyes.1
  have hd2 := (okCp_vl hyes).d
  have hln2 := rdCp_len hyes.1
  obtain ⟨c2, hc2⟩ : ∃ c2, c2 = (rdCp R).2 := ⟨_, rfl⟩
  rw [← hc2] at hb2R hnb2 hd2 hln2 hcg
  obtain ⟨bg, ug, rfl, -, hbg, ag, cg, rfl, hpg⟩ := hcg
  refine Qu (Qe ?_)
  apply Ze (β := False) (fun _ => 0) [peqC _, peqC _, peqC _, peqC _, (postOwn encB 1 5 0 R), (postV (fun v => v = str (R))), peqC _, (postV (fun v => v = str (R))), peqC _, peqC _] [0, 0, 0, 0, 0, 0, 0, 0, 0, 0] 10 Q9 (by kernel_rfl) (by kernel_rfl) rfl ⟨Qi _ _, Qi _ _, Qi _ _, Qi _ _, (Q1), (postV_stable), Qi _ _, (postV_stable), Qi _ _, Qi _ _, trivial⟩ ?ob23 ?fin23
  case ob23 =>
   refine Qk (fun w256 c258 x257 hc0259 hk260 => ?_) ?_
   ·replace x257 := RelG.ext0 x257
    have z261 := x257.size
    refine Qj ?_
    exact Qs rfl (mvI rfl)
   refine Qk (fun w262 c264 x263 hc0265 hk266 => ?_) ?_
   ·replace x263 := RelG.ext0 x263
    have z267 := x263.size
    refine Qb (Qj ?_)
    exact Qs rfl (Q0 rfl rfl)
   refine Qk (fun w268 c270 x269 hc0271 hk272 => ?_) ?_
   ·replace x269 := RelG.ext0 x269
    have z273 := x269.size
    refine Qb (Qj ?_)
    exact Qs rfl (mvB rfl)
   refine Qk (fun w274 c276 x275 hc0277 hk278 => ?_) ?_
   ·replace x275 := RelG.ext0 x275
    have z279 := x275.size
    refine Qb (Qj ?_)
    refine QU 2 152 rfl rfl ?_
    exact Qs rfl (Ql (v := .pointer (some ⟨bg, 0, none⟩)) rfl)
   refine Qk (fun w280 c282 x281 hc0283 hk284 => ?_) ?_
   ·replace x281 := RelG.ext0 x281
    have z285 := x281.size
    have hbg := hbg.ext x281
    have hpg := hpg.ext x281
    refine Qb (Qb (Qb (Qj ?_)))
    refine QU 2 152 rfl rfl ?_
    exact OpC_own rfl (QA call9 rfl) ((cpbytes_ok bg c2 ag cg _ _ hbg hpg hnb2 (fun z hz => by have := hd2 z hz; omega) (by omega)).mono (fun v w2 ⟨h1, h2⟩ => ⟨hb2R ▸ h1, h2⟩))
   refine Qk (fun w286 c288 x287 hc0289 hk290 => ?_) ?_
   ·replace x287 := RelG.ext0 x287
    have z291 := x287.size
    refine Qw (fun v154 hv154 => ?_)
    refine Qb (Qj ?_)
    refine QU 2 152 rfl rfl ?_
    obtain ⟨a154, c154, rfl, hs154⟩ := Own.sl hv154 QI
    exact OpC_vp rfl (o_bs underlying30 underlying5 underlying9 rfl hs154) rfl
   refine Qk (fun w292 c294 x293 hc0295 hk296 => ?_) ?_
   ·replace x293 := RelG.ext0 x293
    have z297 := x293.size
    refine Qb (Qj ?_)
    refine QU 2 152 rfl rfl ?_
    exact Qs rfl (Ql (v := .slice a88 R.length c88) rfl)
   refine Qk (fun w298 c300 x299 hc0301 hk302 => ?_) ?_
   ·replace x299 := RelG.ext0 x299
    have z303 := x299.size
    have hown88 := hown88.ext x299
    refine Qb (Qb (Qj ?_))
    refine QU 2 152 rfl rfl ?_
    exact OpC_vp rfl (o_bs underlying30 underlying5 underlying9 rfl (hown88.slA QI)) rfl
   refine Qk (fun w304 c306 x305 hc0307 hk308 => ?_) ?_
   ·replace x305 := RelG.ext0 x305
    have z309 := x305.size
    refine Qw (fun v155 hv155 => ?_)
    have he155 : v155 = _ := hv155
    subst he155
    refine Qw (fun v157 hv157 => ?_)
    have he157 : v157 = _ := hv157
    subst he157
    refine Qb (Qj ?_)
    refine QU 2 152 rfl rfl ?_
    exact Qs rfl (o_seql rfl rfl)
   refine Qk (fun w310 c312 x311 hc0313 hk314 => ?_) ?_
   ·replace x311 := RelG.ext0 x311
    have z315 := x311.size
    refine Qb (Qb (Qj ?_))
    exact Qs rfl (Zb (v := .bool _) rfl rfl)
   exact Q8
  case fin23 =>
   intro w316 c318 x317 hc0319
   replace x317 := RelG.ext0 x317
   have z320 := x317.size
   replace hX := hX.ex x317
   refine Qb (Qb (Qb (Qb ?_)))
   refine Qw (fun v154 hv154 => ?_)
   refine Qw (fun v155 hv155 => ?_)
   have he155 : v155 = _ := hv155
   subst he155
   refine Qb ?_
   refine Qw (fun v157 hv157 => ?_)
   have he157 : v157 = _ := hv157
   subst he157
   refine Qb (Qb (Qj ?_))
   refine Rr (asB rfl) ?_
   refine Qd (Qy ?_)
   refine ⟨_, Qp rfl rfl, ?_⟩
   refine ⟨cvB ?_, hX⟩
   all_goals (exact beq_self_eq_true R)
 have hv : VlC C := by simpa using hc3
 obtain ⟨-, he0, hci⟩ := hcp91.resolve_right (fun h => h.1 (hQ ▸ (okCp_put hv (by omega)).1))
 subst he0
 rw [hQ, (okCp_put hv (by omega)).2] at hci
 refine Qe (Qc ?_)
 refine Rr (mvI rfl) ?_
 refine Rr (o_neq rfl rfl) ?_
 refine Rr (mvB rfl) ?_
 refine QF 2 105 rfl rfl ?_
 refine Rr (Ql (v := q91) rfl) ?_
 refine QF 2 105 rfl rfl ?_
 refine Rr (QO isAgg24 sizeOf24 rfl hb3.at rfl) ?_
 refine QF 2 105 rfl rfl ?_
 refine Qo rfl (QM call8 rfl rfl) (Ok.mono (same52_ok q91 C _ a34 c34 _ _ hci hs34 hv (by omega)) ?_)
 rintro _ w321 ⟨rfl, x322⟩
 have z323 := x322.size
 replace hX := hX.ex x322
 replace hown88 := hown88.ext x322
 refine QF 2 105 rfl rfl ?_
 refine Rr (Q5 rfl) ?_
 refine Rr (Q3 (v := .bool _) rfl rfl) ?_
 refine Qd ?_
 refine Qr rfl ?_
 refine Qu (Qe (Qc ?_))
 refine Rr (Ql (v := .slice a88 Q.length c88) rfl) ?_
 refine Rr (mvI rfl) ?_
 refine Rr (o_convS underlying25 underlying3 rfl (wrap_in (by unfold I64; omega))) ?_
 refine Rr (Ql (v := .slice a88 Q.length c88) rfl) ?_
 refine Rr (o_llenO underlying30 rfl hown88) ?_
 refine Rr (o_remN (a := x) (b := Q.length) rfl rfl (by omega) (by omega)) ?_
 refine Rr (o_slto (j := (x % Q.length)) underlying30 sizeOf5 rfl rfl (by have := (hown88.slA QI).le; omega)) ?_
 refine Qo rfl (QA call6 rfl) (Ok.mono (cpread_ok (.slice a88 (x % Q.length) c88) _ (Q.take (x % Q.length)) _ ⟨a88, c88, (by rw [List.length_take, Nat.min_eq_left (Nat.le_of_lt hix)]), (hown88.slA QI).take (x % Q.length)⟩ (by rw [List.length_take]; omega)) ?_)
 rintro _ w324 ⟨⟨q119, e119, rfl, hcp119⟩, x325⟩
 have z326 := x325.size
 replace hX := hX.ex x325
 replace hown88 := hown88.ext x325
 obtain ⟨-, he6, hq0⟩ := hcp119.resolve_left (fun h => okCp_cut hnb (hQ ▸ hix) (hQ ▸ h.1))
 subst he6 hq0
 refine Rr (Ql (v := .tuple _) rfl) ?_
 refine Rr (QH rfl rfl) ?_
 refine Rr (QH rfl rfl) ?_
 refine Rr (Qv (v := .pointer _) rfl) ?_
 refine Rr (asI rfl) ?_
 refine Qd (Qe (Qc ?_))
 refine Rr (Ql (v := .slice a88 Q.length c88) rfl) ?_
 refine Rr (mvI rfl) ?_
 refine Rr (o_convS underlying25 underlying3 rfl (wrap_in (by unfold I64; omega))) ?_
 refine Rr (Ql (v := .slice a88 Q.length c88) rfl) ?_
 refine Rr (o_llenO underlying30 rfl hown88) ?_
 refine Rr (o_remN (a := x) (b := Q.length) rfl rfl (by omega) (by omega)) ?_
 refine Rr (Zf (i := (x % Q.length)) underlying30 sizeOf5 hown88 rfl rfl hix) ?_
 refine Rr (o_ldR isAgg5 (hown88.slA QI) rfl rfl (getE 0 hix) rfl) ?_
 refine Rr (mvI rfl) ?_
 refine Rr (o_xorV (a' := Q.getD (x % Q.length) 0) (b' := y) rfl rfl) ?_
 refine Rr (Zf (i := (x % Q.length)) underlying30 sizeOf5 hown88 rfl rfl hix) ?_
 refine Rg_elst (u := (Q.getD (x % Q.length) 0 ^^^ y)) rfl QI sizeOf5 rfl rfl rfl hown88 hix ?_
 intro w327 x328 hown88
 have z329 := x328.size
 replace hX := Bel.out hX x328 om2
 refine Qd (Qe (Qc ?_))
 obtain ⟨R, hR⟩ : ∃ R, R = Q.set (x % Q.length) (Q.getD (x % Q.length) 0 ^^^ y) := ⟨_, rfl⟩
 have hRl : R.length = Q.length := by rw [hR, List.length_set]
 rw [← hR] at hown88
 rw [← hRl] at hown88 ⊢
 refine Rr (Ql (v := .slice a88 R.length c88) rfl) ?_
 refine Qo rfl (QA call6 rfl) (Ok.mono (cpread_ok _ _ R _ (hown88.rd QI) (by omega)) ?_)
 rintro _ w330 ⟨⟨q135, e135, rfl, hcp135⟩, x331⟩
 have z332 := x331.size
 replace hX := hX.ex x331
 replace hown88 := hown88.ext x331
 refine Rr (Ql (v := .tuple _) rfl) ?_
 refine Rr (QH rfl rfl) ?_
 refine Rr (QH rfl rfl) ?_
 refine Rr (Qv (v := q135) rfl) ?_
 refine Rr (asI rfl) ?_
 refine Qd (Qe (Qe (Qc ?_)))
 refine Rr (mvI rfl) ?_
 refine Rr (o_neq rfl rfl) ?_
 refine Qd ?_
 refine QD rfl (fun hc7 => ?_) (fun hc7 => ?_)
 ·have he : e135 ≠ 0 := by simpa using hc7
  obtain ⟨hno, he6, hq0⟩ := hcp135.resolve_left (fun h => he h.2.1)
  subst he6 hq0
  refine Qe (Qc ?_)
  refine Rr (mvI rfl) ?_
  refine Rr (Q0 rfl rfl) ?_
  refine Rr (mvB rfl) ?_
  refine QF 2 142 rfl rfl ?_
  refine Rr (mvI rfl) ?_
  refine QF 2 142 rfl rfl ?_
  refine Rr (Q0 rfl rfl) ?_
  refine Rr (Zb (v := .bool _) rfl rfl) ?_
  refine Rr (mvB rfl) ?_
  refine QF 6 146 rfl rfl ?_
  refine Rr (Ql (v := .pointer none) rfl) ?_
  refine QF 6 146 rfl rfl ?_
  refine Rr (o_peq underlying32 rfl rfl) ?_
  refine Rr (Zb (v := .bool _) rfl rfl) ?_
  refine Rr (asB rfl) ?_
  refine Qd (Qy ?_)
  refine ⟨_, Qp rfl rfl, ?_⟩
  refine ⟨cvB ?_, hX⟩
  all_goals (rfl)
 have he : e135 = 0 := by simpa using hc7
 obtain ⟨hyes, -, hcg⟩ := hcp135.resolve_right (fun h => by have := h.2.1; omega)
 subst he
 obtain ⟨hb2R, hnb2⟩ := rdCp_back hyes.1
 have hd2 := (okCp_vl hyes).d
 have hln2 := rdCp_len hyes.1
 obtain ⟨c2, hc2⟩ : ∃ c2, c2 = (rdCp R).2 := ⟨_, rfl⟩
 rw [← hc2] at hb2R hnb2 hd2 hln2 hcg
 obtain ⟨bg, ug, rfl, -, hbg, ag, cg, rfl, hpg⟩ := hcg
 refine Qu (Qe ?_)
 apply Ze (β := False) (fun _ => 0) [peqC _, peqC _, peqC _, peqC _, (postOwn encB 1 5 0 R), (postV (fun v => v = str (R))), peqC _, (postV (fun v => v = str (R))), peqC _, peqC _] [0, 0, 0, 0, 0, 0, 0, 0, 0, 0] 10 Q9 (by kernel_rfl) (by kernel_rfl) rfl ⟨Qi _ _, Qi _ _, Qi _ _, Qi _ _, (Q1), (postV_stable), Qi _ _, (postV_stable), Qi _ _, Qi _ _, trivial⟩ ?ob23 ?fin23
 case ob23 =>
  refine Qk (fun w333 c335 x334 hc0336 hk337 => ?_) ?_
  ·replace x334 := RelG.ext0 x334
   have z338 := x334.size
   refine Qj ?_
   exact Qs rfl (mvI rfl)
  refine Qk (fun w339 c341 x340 hc0342 hk343 => ?_) ?_
  ·replace x340 := RelG.ext0 x340
   have z344 := x340.size
   refine Qb (Qj ?_)
   exact Qs rfl (Q0 rfl rfl)
  refine Qk (fun w345 c347 x346 hc0348 hk349 => ?_) ?_
  ·replace x346 := RelG.ext0 x346
   have z350 := x346.size
   refine Qb (Qj ?_)
   exact Qs rfl (mvB rfl)
  refine Qk (fun w351 c353 x352 hc0354 hk355 => ?_) ?_
  ·replace x352 := RelG.ext0 x352
   have z356 := x352.size
   refine Qb (Qj ?_)
   refine QU 2 152 rfl rfl ?_
   exact Qs rfl (Ql (v := .pointer (some ⟨bg, 0, none⟩)) rfl)
  refine Qk (fun w357 c359 x358 hc0360 hk361 => ?_) ?_
  ·replace x358 := RelG.ext0 x358
   have z362 := x358.size
   have hbg := hbg.ext x358
   have hpg := hpg.ext x358
   refine Qb (Qb (Qb (Qj ?_)))
   refine QU 2 152 rfl rfl ?_
   exact OpC_own rfl (QA call9 rfl) ((cpbytes_ok bg c2 ag cg _ _ hbg hpg hnb2 (fun z hz => by have := hd2 z hz; omega) (by omega)).mono (fun v w2 ⟨h1, h2⟩ => ⟨hb2R ▸ h1, h2⟩))
  refine Qk (fun w363 c365 x364 hc0366 hk367 => ?_) ?_
  ·replace x364 := RelG.ext0 x364
   have z368 := x364.size
   refine Qw (fun v154 hv154 => ?_)
   refine Qb (Qj ?_)
   refine QU 2 152 rfl rfl ?_
   obtain ⟨a154, c154, rfl, hs154⟩ := Own.sl hv154 QI
   exact OpC_vp rfl (o_bs underlying30 underlying5 underlying9 rfl hs154) rfl
  refine Qk (fun w369 c371 x370 hc0372 hk373 => ?_) ?_
  ·replace x370 := RelG.ext0 x370
   have z374 := x370.size
   refine Qb (Qj ?_)
   refine QU 2 152 rfl rfl ?_
   exact Qs rfl (Ql (v := .slice a88 R.length c88) rfl)
  refine Qk (fun w375 c377 x376 hc0378 hk379 => ?_) ?_
  ·replace x376 := RelG.ext0 x376
   have z380 := x376.size
   have hown88 := hown88.ext x376
   refine Qb (Qb (Qj ?_))
   refine QU 2 152 rfl rfl ?_
   exact OpC_vp rfl (o_bs underlying30 underlying5 underlying9 rfl (hown88.slA QI)) rfl
  refine Qk (fun w381 c383 x382 hc0384 hk385 => ?_) ?_
  ·replace x382 := RelG.ext0 x382
   have z386 := x382.size
   refine Qw (fun v155 hv155 => ?_)
   have he155 : v155 = _ := hv155
   subst he155
   refine Qw (fun v157 hv157 => ?_)
   have he157 : v157 = _ := hv157
   subst he157
   refine Qb (Qj ?_)
   refine QU 2 152 rfl rfl ?_
   exact Qs rfl (o_seql rfl rfl)
  refine Qk (fun w387 c389 x388 hc0390 hk391 => ?_) ?_
  ·replace x388 := RelG.ext0 x388
   have z392 := x388.size
   refine Qb (Qb (Qj ?_))
   exact Qs rfl (Zb (v := .bool _) rfl rfl)
  exact Q8
 case fin23 =>
  intro w393 c395 x394 hc0396
  replace x394 := RelG.ext0 x394
  have z397 := x394.size
  replace hX := hX.ex x394
  refine Qb (Qb (Qb (Qb ?_)))
  refine Qw (fun v154 hv154 => ?_)
  refine Qw (fun v155 hv155 => ?_)
  have he155 : v155 = _ := hv155
  subst he155
  refine Qb ?_
  refine Qw (fun v157 hv157 => ?_)
  have he157 : v157 = _ := hv157
  subst he157
  refine Qb (Qb (Qj ?_))
  refine Rr (asB rfl) ?_
  refine Qd (Qy ?_)
  refine ⟨_, Qp rfl rfl, ?_⟩
  refine ⟨cvB ?_, hX⟩
  all_goals (exact beq_self_eq_true R)

