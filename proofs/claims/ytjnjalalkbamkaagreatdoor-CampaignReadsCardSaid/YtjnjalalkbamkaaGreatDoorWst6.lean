/- Walks: what functions return. -/
import Derived.Test.YtjnjalalkbamkaaGreatDoorWst5
set_option linter.unusedVariables false
set_option linter.unusedSimpArgs false
set_option linter.unnecessarySimpa false
namespace Go.Proofs.YtjnjalalkbamkaaGreatDoor
open Go Go.Lx Go.RowKit Tryz
set_option maxRecDepth 100000
theorem hlinks0_ok (v0 : Value) (w : World) (hh : HyIs w v0 []) : Ok Tryz.prog 136 #[v0] w fun v w' => Own encPr 2 47 (Fsh w w') w' v [] ∧ Ext False w w' := by
 obtain ⟨ph, po, o, rfl, hha, ho, hk⟩ := hh
 have hon : o.pairs = [] := List.eq_nil_iff_forall_not_mem.2 (fun x hx => by have := (hk.ps x).1 hx; simp at this)
 refine Qz 10 func136 rfl rfl rfl ?_
 have hX := xRf w
 refine Qe (Qc ?_)
 refine Rr Qm ?_
 refine Qd (Qe (Qe (Qc ?_)))
 refine Rr (Ql (v := .pointer _) rfl) ?_
 refine Rr (o_peq underlying84 rfl rfl) ?_
 refine Qd ?_
 refine Qr rfl ?_
 refine Qu (Qe (Qc ?_))
 refine Rr (Ql (v := .pointer _) rfl) ?_
 refine Rr (QG rfl) ?_
 refine Rr (Qx underlying172 rfl sizeOf168 rfl) ?_
 refine Rr (Qn isAgg168 rfl (hha.get 0 rfl)) ?_
 refine Qo rfl (QA call163 rfl) (Ok.mono (opairs_ok _ _ _ _ ho (by rw [hon]; simp)) ?_)
 rintro v9 w1 ⟨hown9, x2⟩
 have z3 := x2.size
 replace hX := hX.ex x2
 replace hown9 := hown9.mono (D' := fun g => w.heap.size ≤ g) (fun g h1 h2 => by omega)
 refine Rr (Qv (v := v9) rfl) ?_
 refine Qd (Qy ?_)
 refine ⟨_, Qp rfl rfl, ?_⟩
 rw [hon] at hown9
 exact ⟨hown9.mono (fun g h1 h2 => by omega), hX⟩

set_option maxHeartbeats 2000000 in
theorem ppeople_ok (p : PtV) (n : Nat) (L : List Men) (w : World) (hp : PtIs w p n 2 L) (hm : OkN L) (hok : ∀ x ∈ L, x.u ≤ n ∧ hasW 6 x.r = true) : Ok Tryz.prog 108 #[.agg (ptC p).toArray] w fun v w' => v = .int .i64 0 ∧ Ext False w w' := by
 have hlen := hm.len
 refine Qz 103 func108 rfl rfl rfl ?_
 have hX := xRf w
 refine Qe (Qc ?_)
 refine QJ rfl (Q4 (v := .agg _) rfl) ?_
 intro b1 w1 x2 hge1 hb1
 change Box _ _ _ (id _) at hb1
 replace hX := hX.ex x2
 replace hp := hp.ext x2
 refine Rr Qm ?_
 refine Qd (Qe (Qc ?_))
 refine Rr (QO isAgg91 sizeOf91 rfl hb1.at rfl) ?_
 refine Qo rfl (QA call107 rfl) (Ok.mono (proles_ok p _ hp.rs) ?_)
 rintro _ w3 ⟨a14, c14, rfl, hq14, x4⟩
 replace hX := hX.ex x4
 replace hp := hp.ext x4
 replace hb1 := hb1.ext x4
 refine Rg_alst rfl rfl zeroValue45 rfl sizeOf45 (fun _ => rfl) rfl rfl ?_
 intro b3 w5 x6 hge3 hb3
 change Box _ _ _ (encSV _) at hb3
 replace hX := hX.ex x6
 replace hp := hp.ext x6
 replace hb1 := hb1.ext x6
 replace hq14 := hq14.ext x6
 refine Qd (Qe (Qc ?_))
 refine Rr Qm ?_
 refine Qd (Qe (Qe (Qc ?_)))
 refine Rr (Qx underlying91 rfl sizeOf84 rfl) ?_
 refine Rr (Qn isAgg84 rfl (hb1.at.get 4 rfl)) ?_
 refine Qo rfl (QA call136 rfl) (Ok.mono (hlinks0_ok _ _ hp.lk) ?_)
 rintro v17 w7 ⟨hown17, x8⟩
 replace hX := hX.ex x8
 replace hp := hp.ext x8
 replace hb1 := hb1.ext x8
 replace hq14 := hq14.ext x8
 replace hb3 := hb3.ext x8
 obtain ⟨a17, c17, hv17, hs17⟩ := hown17.sl encPr_ok
 subst hv17
 refine Rr (QK underlying48 rfl) ?_
 refine Rr QT ?_
 refine Qd (QB ?_)
 refine Za (α := Nat) [(4, 4), (6, 6), (19, 36)] (fun k => [(19, .int .i64 (k : Int)), (4, .bool true)]) (fun k w' => (True) ∧ Ext False w7 w') (fun k => k) 0 ⟨rfl, rfl, trivial⟩ ⟨trivial, Bel.refl _ _⟩ ?_
 rintro k fb11 w10 ⟨-, hXL9⟩
 replace hX := hX.ex hXL9
 replace hp := hp.ext hXL9
 replace hb1 := hb1.ext hXL9
 replace hq14 := hq14.ext hXL9
 replace hb3 := hb3.ext hXL9
 refine Qe (Qc ?_)
 refine Rr (QQ rfl rfl) ?_
 refine Qd (Qe ?_)
 refine Qr (cvB (decide_eq_false (by simp <;> omega))) ?_
 refine QS (QL (Qe (Qe (Qc ?_))))
 refine Rr (Qx underlying91 rfl sizeOf85 rfl) ?_
 refine Rr (Qn isAgg85 rfl (hb1.at.get 5 rfl)) ?_
 refine Qo rfl (QA call137 rfl) (Ok.mono (ments_ok _ L _ hp.mb hm) ?_)
 rintro v39 w12 ⟨hown39, x13⟩
 replace hX := hX.ex x13
 replace hp := hp.ext x13
 replace hb1 := hb1.ext x13
 replace hq14 := hq14.ext x13
 replace hb3 := hb3.ext x13
 obtain ⟨a39, c39, hv39, hs39⟩ := hown39.sl encMe_ok
 subst hv39
 refine Rr (QK underlying144 rfl) ?_
 refine Rr QT ?_
 refine Qd (QB ?_)
 refine Za (α := Nat) [(4, 4), (8, 8), (41, 60)] (fun k => [(41, .int .i64 (k : Int)), (4, .bool true)]) (fun k w' => (k ≤ L.length) ∧ Ext False w12 w') (fun k => L.length - k) 0 ⟨rfl, rfl, trivial⟩ ⟨Nat.zero_le _, Bel.refl _ _⟩ ?_
 rintro k fb16 w15 ⟨hk, hXL14⟩
 replace hX := hX.ex hXL14
 replace hp := hp.ext hXL14
 replace hb1 := hb1.ext hXL14
 replace hq14 := hq14.ext hXL14
 replace hb3 := hb3.ext hXL14
 replace hs39 := hs39.ext hXL14
 refine Qe (Qc ?_)
 refine Rr (QQ rfl rfl) ?_
 refine Qd (Qe ?_)
 refine QD rfl (fun hc2 => ?_) (fun hc2 => ?_)
 ·have hk1 : k < L.length := by have := dcT hc2; omega
  refine Qu (Qe (QB (Qe (Qc ?_))))
  refine Rr (Zg underlying144 sizeOf149 hs39 rfl rfl omg) ?_
  refine Rr (o_ldRS isAgg149 sizeOf149 hs39 rfl (getE mez hk1)) ?_
  refine Rg_alst rfl rfl zeroValue149 rfl sizeOf149 (fun _ => rfl) rfl rfl ?_
  intro b8 w17 x18 hge8 hb8
  change Box _ _ _ (encMe _) at hb8
  replace hX := hX.ex x18
  replace hXL14 := Bel.ex hXL14 x18
  replace hp := hp.ext x18
  replace hb1 := hb1.ext x18
  replace hq14 := hq14.ext x18
  replace hb3 := hb3.ext x18
  refine Qd ?_
  have hx := hok _ (gm (z := mez) hk1)
  apply Ze (β := False) (fun _ => 0) [peqC _, peqC _, peqC _, peqC _, peqC _, peqC _, peqC _, peqC _, peqC _, peqC _, peqC _, peqC _, peqC _, peqC _, peqC _] [0, 0, 0, 0, 0, 0, 0, 0, 0, 0, 0, 0, 0, 0, 0] 15 Q9 (by kernel_rfl) (by kernel_rfl) rfl ⟨Qi _ _, Qi _ _, Qi _ _, Qi _ _, Qi _ _, Qi _ _, Qi _ _, Qi _ _, Qi _ _, Qi _ _, Qi _ _, Qi _ _, Qi _ _, Qi _ _, Qi _ _, trivial⟩ ?ob11 ?fin11
  case ob11 =>
   refine Qk (fun w19 c21 x20 hc022 hk23 => ?_) ?_
   ·replace x20 := RelG.ext0 x20
    refine Qj ?_
    exact Qs rfl (mvB rfl)
   refine Qk (fun w24 c26 x25 hc027 hk28 => ?_) ?_
   ·replace x25 := RelG.ext0 x25
    refine Qb (Qj ?_)
    exact Qs rfl (mvB rfl)
   refine Qk (fun w29 c31 x30 hc032 hk33 => ?_) ?_
   ·replace x30 := RelG.ext0 x30
    refine Qb (Qj ?_)
    refine QU 1 46 rfl rfl ?_
    exact Qs rfl (Qx underlying149 rfl sizeOf3 rfl)
   refine Qk (fun w34 c36 x35 hc037 hk38 => ?_) ?_
   ·replace x35 := RelG.ext0 x35
    have hb8 := hb8.ext x35
    refine Qb (Qb (Qj ?_))
    refine QU 1 46 rfl rfl ?_
    exact Qs rfl (Qn isAgg3 rfl (hb8.at.get 0 rfl))
   refine Qk (fun w39 c41 x40 hc042 hk43 => ?_) ?_
   ·replace x40 := RelG.ext0 x40
    refine Qb (Qj ?_)
    refine QU 1 46 rfl rfl ?_
    exact Qs rfl (Qx underlying91 rfl sizeOf83 rfl)
   refine Qk (fun w44 c46 x45 hc047 hk48 => ?_) ?_
   ·replace x45 := RelG.ext0 x45
    have hb1 := hb1.ext x45
    refine Qb (Qb (Qj ?_))
    refine QU 1 46 rfl rfl ?_
    exact Qs rfl (Qn isAgg83 rfl (hb1.at.get 1 rfl))
   refine Qk (fun w49 c51 x50 hc052 hk53 => ?_) ?_
   ·replace x50 := RelG.ext0 x50
    have hp := hp.ext x50
    refine Qb (Qb (Qb (Qj ?_)))
    refine QU 1 46 rfl rfl ?_
    exact OpC_call rfl (QA call86 rfl) (nlen_ok _ n _ hp.us)
   refine Qk (fun w54 c56 x55 hc057 hk58 => ?_) ?_
   ·replace x55 := RelG.ext0 x55
    refine Qb (Qb (Qb (Qj ?_)))
    refine QU 1 46 rfl rfl ?_
    exact Qs rfl (o_leq rfl rfl)
   refine Qk (fun w59 c61 x60 hc062 hk63 => ?_) ?_
   ·replace x60 := RelG.ext0 x60
    refine Qb (Qb (Qj ?_))
    exact Qs rfl (Zb (v := .bool _) rfl rfl)
   refine Qk (fun w64 c66 x65 hc067 hk68 => ?_) ?_
   ·replace x65 := RelG.ext0 x65
    refine Qb (Qb (Qj ?_))
    exact Qs rfl (mvB rfl)
   refine Qk (fun w69 c71 x70 hc072 hk73 => ?_) ?_
   ·replace x70 := RelG.ext0 x70
    have hb3 := hb3.ext x70
    refine Qb (Qj ?_)
    refine QU 9 54 rfl (cvB (decide_eq_true hx.1)) ?_
    exact Qs rfl (QO isAgg45 sizeOf45 rfl hb3.at rfl)
   refine Qk (fun w74 c76 x75 hc077 hk78 => ?_) ?_
   ·replace x75 := RelG.ext0 x75
    refine Qb (Qj ?_)
    refine QU 9 54 rfl (cvB (decide_eq_true hx.1)) ?_
    exact Qs rfl (Qx underlying149 rfl sizeOf3 rfl)
   refine Qk (fun w79 c81 x80 hc082 hk83 => ?_) ?_
   ·replace x80 := RelG.ext0 x80
    have hb8 := hb8.ext x80
    refine Qb (Qb (Qj ?_))
    refine QU 9 54 rfl (cvB (decide_eq_true hx.1)) ?_
    exact Qs rfl (Qn isAgg3 rfl (hb8.at.get 1 rfl))
   refine Qk (fun w84 c86 x85 hc087 hk88 => ?_) ?_
   ·replace x85 := RelG.ext0 x85
    have hq14 := hq14.ext x85
    refine Qb (Qb (Qb (Qb (Qj ?_))))
    refine QU 9 54 rfl (cvB (decide_eq_true hx.1)) ?_
    exact OpC_call rfl (QM call85 rfl rfl) (bhas_ok _ ⟨_, _, _⟩ _ hq14 (L.getD k mez).r (by have := (hm.rg _ (gm (z := mez) hk1)).2.1; unfold I64; omega))
   refine Qk (fun w89 c91 x90 hc092 hk93 => ?_) ?_
   ·replace x90 := RelG.ext0 x90
    refine Qb (Qb (Qj ?_))
    exact Qs rfl (Zb (v := .bool _) (cvB (decide_eq_true hx.1)) rfl)
   exact Q8
  case fin11 =>
   intro w94 c96 x95 hc097
   replace x95 := RelG.ext0 x95
   replace hX := hX.ex x95
   replace hXL14 := Bel.ex hXL14 x95
   refine Qb (Qb (Qb (Qb (Qb (Qb (Qb (Qb (Qb ?_))))))))
   refine Qb (Qb (Qb (Qb (Qb (Qb (Qj ?_))))))
   refine Rr (asB rfl) ?_
   refine Qd (Qc ?_)
   refine Rr (Q6 rfl rfl omg) ?_
   refine Rr (mvI rfl) ?_
   refine Qd ?_
   refine ⟨k + 1, ⟨sT, ?_, trivial⟩, oT, ⟨?_, hXL14⟩, ?_⟩
   ·exact cvB hx.2
   ·show k + 1 ≤ L.length; omega
   ·omega
 skip
 refine QS (QL (Qe (Qe (Qc ?_))))
 refine Rr (Qx underlying91 rfl sizeOf86 rfl) ?_
 refine Rr (Qn isAgg86 rfl (hb1.at.get 6 rfl)) ?_
 refine Qo rfl (QA call138 rfl) (Ok.mono (gents_ok _ [] _ hp.gr OkG.nil) ?_)
 rintro v63 w98 ⟨hown63, x99⟩
 replace hX := hX.ex x99
 replace hp := hp.ext x99
 replace hb1 := hb1.ext x99
 obtain ⟨a63, c63, hv63, hs63⟩ := hown63.sl encE_ok
 subst hv63
 refine Rr (QK underlying173 rfl) ?_
 refine Rr QT ?_
 refine Qd (QB ?_)
 refine Za (α := Nat) [(4, 4), (10, 10), (65, 76)] (fun k => [(65, .int .i64 (k : Int)), (4, .bool true)]) (fun k w' => (True) ∧ Ext False w98 w') (fun k => k) 0 ⟨rfl, rfl, trivial⟩ ⟨trivial, Bel.refl _ _⟩ ?_
 rintro k fb102 w101 ⟨-, hXL100⟩
 replace hX := hX.ex hXL100
 replace hp := hp.ext hXL100
 replace hb1 := hb1.ext hXL100
 refine Qe (Qc ?_)
 refine Rr (QQ rfl rfl) ?_
 refine Qd (Qe ?_)
 refine Qr (cvB (decide_eq_false (by simp <;> omega))) ?_
 refine QS (QL (Qe (Qe (Qc ?_))))
 refine Rr (Qx underlying91 rfl sizeOf89 rfl) ?_
 refine Rr (Qn isAgg89 rfl (hb1.at.get 9 rfl)) ?_
 refine Qo rfl (QA call139 rfl) (Ok.mono (slist_ok _ [] _ hp.ss OkM.nil) ?_)
 rintro v79 w103 ⟨⟨l79, hown79, hws79, hl79⟩, x104⟩
 replace hX := hX.ex x104
 have hll79 := congrArg List.length hl79
 rw [List.length_map] at hll79
 obtain rfl : l79 = [] := List.map_eq_nil_iff.1 hl79
 obtain ⟨a79, c79, hv79, hs79⟩ := hown79.sl encSe_ok
 subst hv79
 refine Rr (QK underlying176 rfl) ?_
 refine Rr QT ?_
 refine Qd (QB ?_)
 refine Za (α := Nat) [(4, 4), (12, 12), (81, 100)] (fun k => [(81, .int .i64 (k : Int)), (4, .bool true)]) (fun k w' => (True) ∧ Ext False w103 w') (fun k => k) 0 ⟨rfl, rfl, trivial⟩ ⟨trivial, Bel.refl _ _⟩ ?_
 rintro k fb107 w106 ⟨-, hXL105⟩
 replace hX := hX.ex hXL105
 refine Qe (Qc ?_)
 refine Rr (QQ rfl rfl) ?_
 refine Qd (Qe ?_)
 refine Qr (cvB (decide_eq_false (by simp <;> omega))) ?_
 refine QS (QL (Qe (Qe (Qc ?_))))
 refine Rr (mvB rfl) ?_
 refine Rr (Q5 rfl) ?_
 refine Qd ?_
 refine Qr rfl ?_
 refine Qu (Qe (Qc ?_))
 refine Rr Qm ?_
 refine Qd (Qy ?_)
 refine ⟨_, Qp rfl rfl, ?_⟩
 exact ⟨rfl, hX⟩

set_option maxHeartbeats 2000000 in
theorem pkinds_ok (p : PtV) (n : Nat) (L : List Men) (w : World) (hp : PtIs w p n 2 L) (hm : OkN L) : Ok Tryz.prog 109 #[.agg (ptC p).toArray] w fun v w' => v = .int .i64 0 ∧ Ext False w w' := by
 refine Qz 71 func109 rfl rfl rfl ?_
 have hX := xRf w
 refine Qe (Qc ?_)
 refine QJ rfl (Q4 (v := .agg _) rfl) ?_
 intro b1 w1 x2 hge1 hb1
 change Box _ _ _ (id _) at hb1
 replace hX := hX.ex x2
 replace hp := hp.ext x2
 refine Rr Qm ?_
 refine Qd (Qe (Qc ?_))
 refine Rr Qm ?_
 refine Qd (Qe (Qe (Qc ?_)))
 refine Rr (Qx underlying91 rfl sizeOf84 rfl) ?_
 refine Rr (Qn isAgg84 rfl (hb1.at.get 4 rfl)) ?_
 refine Qo rfl (QA call136 rfl) (Ok.mono (hlinks0_ok _ _ hp.lk) ?_)
 rintro v12 w3 ⟨hown12, x4⟩
 replace hX := hX.ex x4
 replace hp := hp.ext x4
 replace hb1 := hb1.ext x4
 obtain ⟨a12, c12, hv12, hs12⟩ := hown12.sl encPr_ok
 subst hv12
 refine Rr (QK underlying48 rfl) ?_
 refine Rr QT ?_
 refine Qd (QB ?_)
 refine Za (α := Nat) [(3, 3), (5, 5), (14, 32)] (fun k => [(14, .int .i64 (k : Int)), (3, .bool true)]) (fun k w' => (True) ∧ Ext False w3 w') (fun k => k) 0 ⟨rfl, rfl, trivial⟩ ⟨trivial, Bel.refl _ _⟩ ?_
 rintro k fb7 w6 ⟨-, hXL5⟩
 replace hX := hX.ex hXL5
 replace hp := hp.ext hXL5
 replace hb1 := hb1.ext hXL5
 refine Qe (Qc ?_)
 refine Rr (QQ rfl rfl) ?_
 refine Qd (Qe ?_)
 refine Qr (cvB (decide_eq_false (by simp <;> omega))) ?_
 refine QS (QL (Qe (Qe (Qc ?_))))
 refine Rr (Qx underlying91 rfl sizeOf86 rfl) ?_
 refine Rr (Qn isAgg86 rfl (hb1.at.get 6 rfl)) ?_
 refine Qo rfl (QA call138 rfl) (Ok.mono (gents_ok _ [] _ hp.gr OkG.nil) ?_)
 rintro v35 w8 ⟨hown35, x9⟩
 replace hX := hX.ex x9
 replace hp := hp.ext x9
 replace hb1 := hb1.ext x9
 obtain ⟨a35, c35, hv35, hs35⟩ := hown35.sl encE_ok
 subst hv35
 refine Rr (QK underlying173 rfl) ?_
 refine Rr QT ?_
 refine Qd (QB ?_)
 refine Za (α := Nat) [(3, 3), (7, 7), (37, 50)] (fun k => [(37, .int .i64 (k : Int)), (3, .bool true)]) (fun k w' => (True) ∧ Ext False w8 w') (fun k => k) 0 ⟨rfl, rfl, trivial⟩ ⟨trivial, Bel.refl _ _⟩ ?_
 rintro k fb12 w11 ⟨-, hXL10⟩
 replace hX := hX.ex hXL10
 replace hp := hp.ext hXL10
 replace hb1 := hb1.ext hXL10
 refine Qe (Qc ?_)
 refine Rr (QQ rfl rfl) ?_
 refine Qd (Qe ?_)
 refine Qr (cvB (decide_eq_false (by simp <;> omega))) ?_
 refine QS (QL (Qe (Qe (Qc ?_))))
 refine Rr (Qx underlying91 rfl sizeOf89 rfl) ?_
 refine Rr (Qn isAgg89 rfl (hb1.at.get 9 rfl)) ?_
 refine Qo rfl (QA call139 rfl) (Ok.mono (slist_ok _ [] _ hp.ss OkM.nil) ?_)
 rintro v53 w13 ⟨⟨l53, hown53, hws53, hl53⟩, x14⟩
 replace hX := hX.ex x14
 have hll53 := congrArg List.length hl53
 rw [List.length_map] at hll53
 obtain rfl : l53 = [] := List.map_eq_nil_iff.1 hl53
 obtain ⟨a53, c53, hv53, hs53⟩ := hown53.sl encSe_ok
 subst hv53
 refine Rr (QK underlying176 rfl) ?_
 refine Rr QT ?_
 refine Qd (QB ?_)
 refine Za (α := Nat) [(3, 3), (9, 9), (55, 68)] (fun k => [(55, .int .i64 (k : Int)), (3, .bool true)]) (fun k w' => (True) ∧ Ext False w13 w') (fun k => k) 0 ⟨rfl, rfl, trivial⟩ ⟨trivial, Bel.refl _ _⟩ ?_
 rintro k fb17 w16 ⟨-, hXL15⟩
 replace hX := hX.ex hXL15
 refine Qe (Qc ?_)
 refine Rr (QQ rfl rfl) ?_
 refine Qd (Qe ?_)
 refine Qr (cvB (decide_eq_false (by simp <;> omega))) ?_
 refine QS (QL (Qe (Qe (Qc ?_))))
 refine Rr (mvB rfl) ?_
 refine Rr (Q5 rfl) ?_
 refine Qd ?_
 refine Qr rfl ?_
 refine Qu (Qe (Qc ?_))
 refine Rr Qm ?_
 refine Qd (Qy ?_)
 refine ⟨_, Qp rfl rfl, ?_⟩
 exact ⟨rfl, hX⟩

set_option maxHeartbeats 2000000 in
theorem plaws_ok (p : PtV) (n : Nat) (L : List Men) (w : World) (hp : PtIs w p n 2 L) (hm : OkN L) : Ok Tryz.prog 110 #[.agg (ptC p).toArray] w fun v w' => v = .int .i64 0 ∧ Ext False w w' := by
 refine Qz 59 func110 rfl rfl rfl ?_
 have hX := xRf w
 refine Qe (Qc ?_)
 refine QJ rfl (Q4 (v := .agg _) rfl) ?_
 intro b1 w1 x2 hge1 hb1
 have hlt1 := hb1.lt
 change Box _ _ _ (id _) at hb1
 have z3 := x2.size
 replace hX := hX.ex x2
 replace hp := hp.ext x2
 refine Rr Qm ?_
 refine Qd (Qe (Qe (Qc ?_)))
 refine Rr (Qx underlying91 rfl sizeOf87 rfl) ?_
 refine Rr (Qn isAgg87 rfl (hb1.at.get 7 rfl)) ?_
 refine Rr (QK underlying87 rfl) ?_
 refine Rr QT ?_
 refine Qd (QB ?_)
 refine Za (α := Nat) [(2, 2), (4, 5), (13, 27)] (fun k => [(13, .int .i64 (k : Int))]) (fun k w' => (True) ∧ Ext False w1 w') (fun k => k) 0 ⟨rfl, trivial⟩ ⟨trivial, Bel.refl _ _⟩ ?_
 rintro k fb6 w5 ⟨-, hXL4⟩
 have z7 := Bel.size hXL4
 replace hX := hX.ex hXL4
 replace hp := hp.ext hXL4
 replace hb1 := hb1.ext hXL4
 refine Qe (Qc ?_)
 refine Rr (QQ rfl rfl) ?_
 refine Qd (Qe ?_)
 refine Qr (cvB (decide_eq_false (by simp <;> omega))) ?_
 refine QS (QL (Qe ?_))
 obtain ⟨n1, hn1⟩ : ∃ n, n = w5.heap.size := ⟨_, rfl⟩
 apply Ze (β := False) (fun _ => 0) [peqC _, (postW (SvN n1 (6))), peqC _, peqC _, (postW (SvN n1 (6))), (postBox w5 45 [.slice none 0 0])] [0, 0, 0, 0, 0, 0] 6 Q9 (by kernel_rfl) (by kernel_rfl) rfl ⟨Qi _ _, (postW_stable (SvN.keepS _ _)), Qi _ _, Qi _ _, (postW_stable (SvN.keepS _ _)), (postBox_stable), trivial⟩ ?ob8 ?fin8
 case ob8 =>
  refine Qk (fun w8 c10 x9 hc011 hk12 => ?_) ?_
  ·replace x9 := RelG.ext0 x9
   have z13 := x9.size
   have hb1 := hb1.ext x9
   refine Qj ?_
   exact Qs rfl (QO isAgg91 sizeOf91 rfl hb1.at rfl)
  refine Qk (fun w14 c16 x15 hc017 hk18 => ?_) ?_
  ·replace x15 := RelG.ext0 x15
   have z19 := x15.size
   have hp := hp.ext x15
   refine Qb (Qj ?_)
   exact OpC_W (S := SvN n1 (6)) rfl (QA call107 rfl) ((proles_ok p _ hp.rs).mono (fun v w2 ⟨a, c, h1, h2, x⟩ => ⟨⟨fun g hg => by have := hg.1; omega, a, c, h1, h2⟩, x⟩))
  refine Qk (fun w20 c22 x21 hc023 hk24 => ?_) ?_
  ·replace x21 := RelG.ext0 x21
   have z25 := x21.size
   refine Qj ?_
   exact Qs rfl (Qx underlying91 rfl sizeOf45 rfl)
  refine Qk (fun w26 c28 x27 hc029 hk30 => ?_) ?_
  ·replace x27 := RelG.ext0 x27
   have z31 := x27.size
   have hb1 := hb1.ext x27
   refine Qb (Qj ?_)
   exact Qs rfl (QO isAgg45 sizeOf45 rfl (hb1.at.sub 3 1) rfl)
  refine Qk (fun w32 c34 x33 hc035 hk36 => ?_) ?_
  ·replace x33 := RelG.ext0 x33
   have z37 := x33.size
   have hp := hp.ext x33
   refine Qw (fun v29 hv29 => ?_)
   obtain ⟨F29, hF29, hn29, a29, c29, rfl, hq29⟩ := hv29
   refine Qb ?_
   refine Qw (fun v29 hv29 => ?_)
   obtain ⟨F29, hF29, hn29, a29, c29, rfl, hq29⟩ := hv29
   refine Qj ?_
   exact OpC_W (S := SvN n1 (6)) rfl (QM call111 rfl rfl) ((bminus6_ok a29 c29 _ p.aa p.ca _ hq29 hp.oa).mono (fun v w2 ⟨a, c, h1, h2, x⟩ => ⟨⟨fun g hg => by have := hg.1; omega, a, c, h1, h2⟩, x⟩))
  refine Qk (fun w38 c40 x39 hc041 hk42 => ?_) ?_
  ·replace x39 := RelG.ext0 x39
   have z43 := x39.size
   refine Qj ?_
   exact OpC_box (Bel.size x39) rfl (Zh zeroValue45)
  exact Q8
 case fin8 =>
  intro w44 c46 x45 hc047
  replace x45 := RelG.ext0 x45
  have z48 := x45.size
  replace hX := hX.ex x45
  replace hb1 := hb1.ext x45
  refine Qb ?_
  refine Qw (fun v29 hv29 => ?_)
  obtain ⟨F29, hF29, hn29, a29, c29, rfl, hq29⟩ := hv29
  refine Qb (Qb ?_)
  refine Qw (fun v32 hv32 => ?_)
  obtain ⟨F32, hF32, hn32, a32, c32, rfl, hq32⟩ := hv32
  refine Qw (fun v6 hv6 => ?_)
  refine Qj ?_
  obtain ⟨b6, rfl, hge6, hb6, hcb6⟩ := hv6
  have hlt6 := hb6.lt
  refine QX (v := .agg _) rfl sizeOf45 rfl rfl hb6 rfl rfl rfl ?_
  intro w49 c50 hb6
  change Box _ _ _ (encSV _) at hb6
  have z51 := Bel.size c50
  replace hX := Bel.out hX c50 om2
  replace hb1 := hb1.keep c50 om1
  refine Qd (Qe (Qe (Qc ?_)))
  refine Rr (Qx underlying91 rfl sizeOf88 rfl) ?_
  refine Rr (Qn isAgg88 rfl (hb1.at.get 8 rfl)) ?_
  refine Rr (QK underlying88 rfl) ?_
  refine Rr QT ?_
  refine Qd (QB ?_)
  refine Za (α := Nat) [(2, 2), (7, 9), (36, 58)] (fun k => [(36, .int .i64 (k : Int))]) (fun k w' => (True) ∧ Ext False w49 w') (fun k => k) 0 ⟨rfl, trivial⟩ ⟨trivial, Bel.refl _ _⟩ ?_
  rintro k fb54 w53 ⟨-, hXL52⟩
  have z55 := Bel.size hXL52
  replace hX := hX.ex hXL52
  refine Qe (Qc ?_)
  refine Rr (QQ rfl rfl) ?_
  refine Qd (Qe ?_)
  refine Qr (cvB (decide_eq_false (by simp <;> omega))) ?_
  refine QS (QL (Qe (Qc ?_)))
  refine Rr Qm ?_
  refine Qd (Qy ?_)
  refine ⟨_, Qp rfl rfl, ?_⟩
  exact ⟨rfl, hX⟩

