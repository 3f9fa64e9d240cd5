/- Walks: what functions return. -/
import Derived.Test.YtjnjalalkbamkaaGreatDoorWcg7
set_option linter.unusedVariables false
set_option linter.unusedSimpArgs false
set_option linter.unnecessarySimpa false
namespace Go.Proofs.YtjnjalalkbamkaaGreatDoor
open Go Go.Lx Go.RowKit Tryz
set_option maxRecDepth 100000
set_option maxHeartbeats 4000000 in
theorem ctick_ok (v0 : Value) (c : Cpg) (D : Nat → Prop) (w : World) (hc : CpIs 73 D w v0 c) (hn : c.l.length ≤ 100000) (day : Int) (hday : c.day ≤ day ∧ day ≤ 30000) (hdl : c.dl < day) (hla : c.la < day) (hit : ∀ x ∈ c.l, x.d = 1 ∨ x.d = 3 ∨ x.d = 4) : Ok Tryz.prog 16 #[v0, .int .i64 day] w fun v w' => (∃ x, v = .tuple #[x, .int .i64 0] ∧ CpIs 73 (Fsh w w') w' x { c with day := day, l := c.l.map (tkI c) }) ∧ Ext False w w' := by
 obtain ⟨b, u, rfl, hDb, hb, a1, c1, rfl, hp⟩ := hc
 have hbl := hb.lt
 replace hp := hp.mono (F' := fun g => g < w.heap.size ∧ g ≠ b) (fun g h1 h2 => ⟨h1, h2.2⟩)
 refine Qz 80 func16 rfl rfl rfl ?_
 have hX := xRf w
 refine Qe (Qc ?_)
 refine Rr Qm ?_
 refine Rr Qm ?_
 refine Qd (Qe (Qe (Qc ?_)))
 refine Rr (Ql (v := pB b) rfl) ?_
 refine Rr (o_peq underlying32 rfl rfl) ?_
 refine Qd ?_
 refine Qr rfl ?_
 refine Qu (Qe (Qe (Qc ?_)))
 refine Rr (mvI rfl) ?_
 refine Rr (Ql (v := pB b) rfl) ?_
 refine Rr (QG rfl) ?_
 refine Rr (Qx underlying73 rfl sizeOf3 rfl) ?_
 refine Rr (Qn isAgg3 rfl (hb.at.get 0 rfl)) ?_
 refine Rr (QQ rfl rfl) ?_
 refine Rr (mvB rfl) ?_
 refine QF 6 17 rfl (cvB (decide_eq_false (by omega))) ?_
 refine Rr (mvI rfl) ?_
 refine QF 6 17 rfl (cvB (decide_eq_false (by omega))) ?_
 refine Rr (o_gtr rfl rfl) ?_
 refine Rr (Q3 (v := .bool _) (cvB (decide_eq_false (by omega))) rfl) ?_
 refine Qd ?_
 refine Qr (cvB (by simp; omega)) ?_
 refine Qu (Qe (Qc ?_))
 refine Rr (Ql (v := pB b) rfl) ?_
 refine Qo rfl (QA call52 rfl) (Ok.mono (ccopy_ok (pB b) c _ _ (⟨b, _, rfl, trivial, hb, a1, c1, rfl, hp.mono (fun g h1 h2 => ⟨trivial, h2.2⟩)⟩ : CpIs _ (fun _ => True) _ _ _) hn) ?_)
 rintro _ w1 ⟨⟨b22, u22, rfl, hge22, hbx22, hown22⟩, x2⟩
 have z3 := x2.size
 replace hX := hX.ex x2
 replace hb := hb.ext x2
 refine Rr (Qv (v := .pointer _) rfl) ?_
 refine Qd (Qe (Qc ?_))
 obtain ⟨a22, c22, hv22, -⟩ := hown22.sl Zc
 subst hv22
 replace hown22 := hown22.mono (D' := fun g => w.heap.size ≤ g ∧ g ≠ b22) (fun g h1 h2 => ⟨by omega, h2.2⟩)
 have hlb22 := hbx22.lt
 refine Rr (Ql (v := .pointer _) rfl) ?_
 refine Rr (mvI rfl) ?_
 refine Rr (QG rfl) ?_
 refine Rr (Qx underlying73 rfl sizeOf3 rfl) ?_
 refine QY (v := .int _ _) rfl sizeOf3 rfl rfl hbx22 rfl rfl rfl ?_
 intro w4 c5 hbx22
 change Box _ _ _ ([.int _ _, .int _ _, .int _ _, .int _ _, .bool _, .slice _ _ _]) at hbx22
 have z6 := Bel.size c5
 replace hX := Bel.out hX c5 om2
 replace hb := hb.keep c5 om1
 replace hown22 := hown22.keepD c5 om3
 refine Qd (Qe (Qe (Qc ?_)))
 refine Rr (Ql (v := .pointer _) rfl) ?_
 refine Rr (QG rfl) ?_
 refine Rr (Qx underlying73 rfl sizeOf53 rfl) ?_
 refine Rr (Qn isAgg53 rfl (hbx22.at.get 5 rfl)) ?_
 refine Rr (QK underlying53 rfl) ?_
 refine Rr QT ?_
 refine Qd (QB ?_)
 refine Za (α := Nat) [(7, 8), (32, 78)] (fun k => [(32, .int .i64 (k : Int))]) (fun k w' => (k ≤ c.l.length) ∧ Bel False (fun g => w.heap.size ≤ g ∧ g ≠ b22) w4 w' ∧ (Own encIp 4 56 (fun g => w.heap.size ≤ g ∧ g ≠ b22) w' (.slice a22 c.l.length c22) (mkF (tkI c) c.l k))) (fun k => c.l.length - k) 0 ⟨rfl, trivial⟩ ⟨Nat.zero_le _, Bel.refl _ _, (by rw [mkF_zero]; exact hown22)⟩ ?_
 rintro k fb9 w8 ⟨hk, hXL7, hown22⟩
 have z10 := Bel.size hXL7
 replace hX := Bel.out hX hXL7 om2
 replace hb := hb.keep hXL7 om1
 replace hbx22 := hbx22.keep hXL7 om1
 refine Qe (Qc ?_)
 refine Rr (QQ rfl rfl) ?_
 refine Qd (Qe ?_)
 refine QD rfl (fun hc3 => ?_) (fun hc3 => ?_)
 ·have hk1 : k < c.l.length := by have := dcT hc3; omega
  refine Qu (Qe (QB (Qe (Qc ?_))))
  obtain ⟨M, hM⟩ : ∃ M, M = (mkF (tkI c) c.l k) := ⟨_, rfl⟩
  have hMl : M.length = c.l.length := by rw [hM, mkF_len]
  obtain ⟨o, ho⟩ : ∃ o, o = c.l.getD k itz := ⟨_, rfl⟩
  have hok : M[k]? = some o := by rw [hM, ho]; exact mkF_get hk1
  have hkM : k < M.length := by omega
  have hod := hit o (ho ▸ gm hk1)
  rw [← hM] at hown22
  refine Rr (mvI rfl) ?_
  refine Rr (Zf (i := k) underlying53 sizeOf56 hown22 rfl rfl hk1) ?_
  refine Rr (o_ldRS isAgg56 sizeOf56 (hown22.slA Zc) rfl hok) ?_
  refine QJ rfl (Zh zeroValue56) ?_
  intro b8 w11 x12 hge8 hb8
  replace hown22 := hown22.mono (D' := fun g => w.heap.size ≤ g ∧ g ≠ b22 ∧ g ≠ b8) (fun g h1 h2 => by omega)
  have hlt8 := hb8.lt
  change Box _ _ _ ([.int _ _, .int _ _, .int _ _, .int _ _]) at hb8
  have z13 := x12.size
  replace hX := hX.ex x12
  replace hXL7 := Bel.ex hXL7 x12
  replace hb := hb.ext x12
  replace hbx22 := hbx22.ext x12
  replace hown22 := hown22.ext x12
  refine Rr (asI rfl) ?_
  refine QX (v := .agg _) rfl sizeOf56 rfl rfl hb8 rfl rfl rfl ?_
  intro w14 c15 hb8
  change Box _ _ _ (encIp _) at hb8
  have z16 := Bel.size c15
  replace hX := Bel.out hX c15 om2
  replace hXL7 := Bel.out hXL7 c15 om2
  replace hb := hb.keep c15 om1
  replace hbx22 := hbx22.keep c15 om1
  replace hown22 := hown22.keepD c15 om3
  refine Qd (Qe (Qe (Qc ?_)))
  refine Rr (Qx underlying56 rfl sizeOf54 rfl) ?_
  refine Rr (Qn isAgg54 rfl (hb8.at.get 3 rfl)) ?_
  refine Rr (Q0 rfl rfl) ?_
  refine Rr (mvB rfl) ?_
  refine Qq 3 40 rfl rfl rfl (fun hg => (mvI rfl)) ?_
  refine Qq 3 40 rfl rfl rfl (fun hg => (Ql (v := pB b) rfl)) ?_
  refine Qq 3 40 rfl rfl rfl (fun hg => (QG (QE (u := undef) hg))) ?_
  refine Qq 3 40 rfl rfl rfl (fun hg => (Qx underlying73 rfl sizeOf3 (QE (u := undef) hg))) ?_
  refine Qq 3 40 rfl rfl rfl (fun hg => (Qn isAgg3 (QE (u := undef) hg) (hb.at.get 1 rfl))) ?_
  refine Qq 3 40 rfl rfl rfl (fun hg => (o_gtr (QE (u := undef) hg) (QE (u := undef) hg))) ?_
  refine Rr (o_and (u := undef) rfl rfl) ?_
  refine Qd ?_
  refine QD rfl (fun hc4 => ?_) (fun hc4 => ?_)
  ·have h1 : o.d = 1 := by have h := hc4; simp at h; exact h.1
   apply Ze (β := False) (fun b => if b = b8 then 1 else 0) [peqC _, peqC _, peqC _, peqC _, peqC _, (postAt b8 1 56 [.int .i64 o.u, .int .i64 o.r, .int .i64 o.v, .int .u8 2]), peqC _] [0, 0, 0, 0, 0, 1, 0] 7 Q9 (by kernel_rfl) (by kernel_rfl) rfl ⟨Qi _ _, Qi _ _, Qi _ _, Qi _ _, Qi _ _, (postAt_stable), Qi _ _, trivial⟩ ?ob11 ?fin11
   case ob11 =>
    refine Qk (fun w17 c19 x18 hc020 hk21 => ?_) ?_
    ·replace x18 := Bel.mono x18 (D' := fun g => g = b8) omC
     have z22 := x18.size
     refine Qj ?_
     exact Qs rfl (Ql (v := pB b) rfl)
    refine Qk (fun w23 c25 x24 hc026 hk27 => ?_) ?_
    ·replace x24 := Bel.mono x24 (D' := fun g => g = b8) omC
     have z28 := x24.size
     refine Qb (Qj ?_)
     exact Qs rfl (QG rfl)
    refine Qk (fun w29 c31 x30 hc032 hk33 => ?_) ?_
    ·replace x30 := Bel.mono x30 (D' := fun g => g = b8) omC
     have z34 := x30.size
     refine Qb (Qj ?_)
     exact Qs rfl (Qx underlying73 rfl sizeOf3 rfl)
    refine Qk (fun w35 c37 x36 hc038 hk39 => ?_) ?_
    ·replace x36 := Bel.mono x36 (D' := fun g => g = b8) omC
     have z40 := x36.size
     have hb := hb.keep x36 om1
     refine Qb (Qj ?_)
     exact Qs rfl (Qn isAgg3 rfl (hb.at.get 3 rfl))
    refine Qk (fun w41 c43 x42 hc044 hk45 => ?_) ?_
    ·replace x42 := Bel.mono x42 (D' := fun g => g = b8) omC
     have z46 := x42.size
     refine Qj ?_
     exact Qs rfl (Qx underlying56 rfl sizeOf54 rfl)
    refine Qk (fun w47 c49 x48 hc050 hk51 => ?_) ?_
    ·replace x48 := Bel.mono x48 (D' := fun g => g = b8) omC
     have z52 := x48.size
     refine Qb (Qj ?_)
     exact OpC_store (kc := 1) (off := 3) (v := .int .u8 2) (by decide) sizeOf54 rfl rfl (hb8.blk (hk51 1 (by decide) (by kernel_rfl) _ hb8.lt (by first | (simp [colAt]; done) | (simp [colAt]; omega)))) ((hc050 b8 hb8.lt).trans (by first | (simp [colAt]; done) | (simp [colAt]; omega))) rfl rfl rfl
    refine Qk (fun w53 c55 x54 hc056 hk57 => ?_) ?_
    ·replace x54 := Bel.mono x54 (D' := fun g => g = b8) omC
     have z58 := x54.size
     refine Qb (Qb (Qb (Qb (Qb ?_))))
     refine bindC_st (fun _ hst5 => ?_)
     refine Qj ?_
     exact Qs rfl (Qx underlying56 rfl sizeOf3 rfl)
    exact Q8
   case fin11 =>
    intro w59 c61 x60 hc062
    replace x60 := Bel.mono x60 (D' := fun g => g = b8) omC
    have z63 := x60.size
    replace hX := Bel.out hX x60 om2
    replace hXL7 := Bel.out hXL7 x60 om2
    replace hb := hb.keep x60 om1
    replace hbx22 := hbx22.keep x60 om1
    replace hown22 := hown22.keepD x60 om3
    refine Qb (Qb (Qb (Qb (Qb ?_))))
    refine bindC_lk rfl (fun hst5 => ?_)
    refine Qb (Qj ?_)
    have hb8 := hst5.1
    refine QY (v := .int _ _) rfl sizeOf3 rfl rfl hb8 rfl rfl rfl ?_
    intro w64 c65 hb8
    change Box _ _ _ ([.int _ _, .int _ _, .int _ _, .int _ _]) at hb8
    have z66 := Bel.size c65
    replace hX := Bel.out hX c65 om2
    replace hXL7 := Bel.out hXL7 c65 om2
    replace hb := hb.keep c65 om1
    replace hbx22 := hbx22.keep c65 om1
    replace hown22 := hown22.keepD c65 om3
    refine Qd (Qe (Qe (Qc ?_)))
    change Box _ _ _ (encIp ⟨o.u, o.r, c.ch, 2⟩) at hb8
    refine Rr (QO isAgg56 sizeOf56 rfl hb8.at rfl) ?_
    refine Qo rfl (QA call51 rfl) (Ok.mono (cdec_ok ⟨o.u, o.r, c.ch, 2⟩ _) ?_)
    rintro _ w67 ⟨rfl, x68⟩
    have z69 := x68.size
    replace hX := hX.ex x68
    replace hXL7 := Bel.ex hXL7 x68
    replace hb := hb.ext x68
    replace hbx22 := hbx22.ext x68
    replace hown22 := hown22.ext x68
    replace hb8 := hb8.ext x68
    refine Rr (Q5 rfl) ?_
    refine Rr (mvB rfl) ?_
    refine QF 3 57 rfl rfl ?_
    refine Rr (mvI rfl) ?_
    refine QF 3 57 rfl rfl ?_
    refine Rr (Ql (v := pB b) rfl) ?_
    refine QF 3 57 rfl rfl ?_
    refine Rr (QG rfl) ?_
    refine QF 3 57 rfl rfl ?_
    refine Rr (Qx underlying73 rfl sizeOf3 rfl) ?_
    refine QF 3 57 rfl rfl ?_
    refine Rr (Qn isAgg3 rfl (hb.at.get 2 rfl)) ?_
    refine QF 3 57 rfl rfl ?_
    refine Rr (o_gtr rfl rfl) ?_
    refine Rr (Zb (v := .bool _) rfl rfl) ?_
    refine Qd ?_
    refine Q2 (cvB (decide_eq_true hla)) ?_
    refine Qc ?_
    refine Rr (Ql (v := pB b) rfl) ?_
    refine Rr (QG rfl) ?_
    refine Rr (Qx underlying73 rfl sizeOf4 rfl) ?_
    refine Rr (Qn isAgg4 rfl (hb.at.get 4 rfl)) ?_
    refine Qo rfl (QA call53 rfl) (Ok.mono (cverd_ok c.kp _) ?_)
    rintro _ w70 ⟨rfl, x71⟩
    have z72 := x71.size
    replace hX := hX.ex x71
    replace hXL7 := Bel.ex hXL7 x71
    replace hbx22 := hbx22.ext x71
    replace hown22 := hown22.ext x71
    replace hb8 := hb8.ext x71
    refine Rr (Qx underlying56 rfl sizeOf54 rfl) ?_
    refine QY (v := .int _ _) rfl sizeOf54 rfl rfl hb8 rfl rfl rfl ?_
    intro w73 c74 hb8
    change Box _ _ _ ([.int _ _, .int _ _, .int _ _, .int _ _]) at hb8
    have z75 := Bel.size c74
    replace hX := Bel.out hX c74 om2
    replace hXL7 := Bel.out hXL7 c74 om2
    replace hbx22 := hbx22.keep c74 om1
    replace hown22 := hown22.keepD c74 om3
    refine Qd ?_
    change Box _ _ _ (encIp ⟨o.u, o.r, c.ch, if c.kp then 3 else 4⟩) at hb8
    have htk : (⟨o.u, o.r, c.ch, if c.kp then 3 else 4⟩ : Itm) = tkI c o := by rw [tkI, if_pos h1]
    rw [htk] at hb8
    apply Ze (β := False) (fun _ => 0) [peqC _, peqC _, peqC _, peqC _, peqC _, peqC _] [0, 0, 0, 0, 0, 0] 6 Q9 (by kernel_rfl) (by kernel_rfl) rfl ⟨Qi _ _, Qi _ _, Qi _ _, Qi _ _, Qi _ _, Qi _ _, trivial⟩ ?ob14 ?fin14
    case ob14 =>
     refine Qk (fun w76 c78 x77 hc079 hk80 => ?_) ?_
     ·replace x77 := RelG.ext0 x77
      have z81 := x77.size
      refine Qj ?_
      exact Qs rfl (Ql (v := .pointer _) rfl)
     refine Qk (fun w82 c84 x83 hc085 hk86 => ?_) ?_
     ·replace x83 := RelG.ext0 x83
      have z87 := x83.size
      refine Qb (Qj ?_)
      exact Qs rfl (QG rfl)
     refine Qk (fun w88 c90 x89 hc091 hk92 => ?_) ?_
     ·replace x89 := RelG.ext0 x89
      have z93 := x89.size
      refine Qb (Qj ?_)
      exact Qs rfl (Qx underlying73 rfl sizeOf53 rfl)
     refine Qk (fun w94 c96 x95 hc097 hk98 => ?_) ?_
     ·replace x95 := RelG.ext0 x95
      have z99 := x95.size
      have hbx22 := hbx22.ext x95
      refine Qb (Qj ?_)
      exact Qs rfl (Qn isAgg53 rfl (hbx22.at.get 5 rfl))
     refine Qk (fun w100 c102 x101 hc0103 hk104 => ?_) ?_
     ·replace x101 := RelG.ext0 x101
      have z105 := x101.size
      refine Qj ?_
      exact Qs rfl (mvI rfl)
     refine Qk (fun w106 c108 x107 hc0109 hk110 => ?_) ?_
     ·replace x107 := RelG.ext0 x107
      have z111 := x107.size
      have hb8 := hb8.ext x107
      refine Qj ?_
      exact Qs rfl (QO isAgg56 sizeOf56 rfl hb8.at rfl)
     exact Q8
    case fin14 =>
     intro w112 c114 x113 hc0115
     replace x113 := RelG.ext0 x113
     have z116 := x113.size
     replace hX := hX.ex x113
     replace hXL7 := Bel.ex hXL7 x113
     replace hown22 := hown22.ext x113
     refine Qb (Qb (Qb (Qb (Qb (Qb (Qj ?_))))))
     refine Rr (Zf (i := k) underlying53 sizeOf56 hown22 rfl rfl hk1) ?_
     refine Rg_elst (u := (tkI c o)) rfl Zc sizeOf56 rfl rfl rfl hown22 hkM ?_
     intro w117 x118 hown22
     have z119 := x118.size
     replace hX := Bel.out hX x118 om2
     replace hXL7 := Bel.out hXL7 x118 om2
     refine Qd (Qc ?_)
     refine Rr (Q6 rfl rfl omg) ?_
     refine Rr (mvI rfl) ?_
     refine Qd ?_
     refine ⟨k + 1, ⟨sT, trivial⟩, oT, ⟨?_, hXL7, ?_⟩, ?_⟩
     ·show k + 1 ≤ c.l.length; omega
     ·rw [hM, ho, mkF_succ hk1] at hown22
      exact hown22.mono (fun g h1 h2 => by omega)
     ·omega
  have h1 : ¬ o.d = 1 := by have h := hc4; simp at h; exact fun e => absurd hdl (Int.not_lt.2 (h e))
  refine Qu (Qe (Qe (Qc ?_)))
  change Box _ _ _ (encIp o) at hb8
  refine Rr (QO isAgg56 sizeOf56 rfl hb8.at rfl) ?_
  refine Qo rfl (QA call51 rfl) (Ok.mono (cdec_ok o _) ?_)
  rintro _ w120 ⟨rfl, x121⟩
  have z122 := x121.size
  replace hX := hX.ex x121
  replace hXL7 := Bel.ex hXL7 x121
  replace hbx22 := hbx22.ext x121
  replace hown22 := hown22.ext x121
  replace hb8 := hb8.ext x121
  refine Rr (Q5 rfl) ?_
  refine Rr (mvB rfl) ?_
  refine QW 3 57 rfl rfl (cvB (show (!(o.d == 3 || o.d == 4)) = false by rcases hod with h | h | h <;> first | exact absurd h h1 | simp [h])) rfl rfl ?_
  refine QW 3 57 rfl rfl (cvB (show (!(o.d == 3 || o.d == 4)) = false by rcases hod with h | h | h <;> first | exact absurd h h1 | simp [h])) rfl rfl ?_
  refine QW 3 57 rfl rfl (cvB (show (!(o.d == 3 || o.d == 4)) = false by rcases hod with h | h | h <;> first | exact absurd h h1 | simp [h])) rfl rfl ?_
  refine QW 3 57 rfl rfl (cvB (show (!(o.d == 3 || o.d == 4)) = false by rcases hod with h | h | h <;> first | exact absurd h h1 | simp [h])) rfl rfl ?_
  refine QW 3 57 rfl rfl (cvB (show (!(o.d == 3 || o.d == 4)) = false by rcases hod with h | h | h <;> first | exact absurd h h1 | simp [h])) rfl rfl ?_
  refine QW 3 57 rfl rfl (cvB (show (!(o.d == 3 || o.d == 4)) = false by rcases hod with h | h | h <;> first | exact absurd h h1 | simp [h])) rfl rfl ?_
  refine Rr (Q3 (v := .bool _) (cvB (show (!(o.d == 3 || o.d == 4)) = false by rcases hod with h | h | h <;> first | exact absurd h h1 | simp [h])) rfl) ?_
  refine Qd ?_
  refine Qr rfl ?_
  refine Qu ?_
  have htk : o = tkI c o := by rw [tkI, if_neg h1]
  have hb8' : Box _ _ _ (encIp (tkI c o)) := htk ▸ hb8
  replace hb8 := hb8'
  apply Ze (β := False) (fun _ => 0) [peqC _, peqC _, peqC _, peqC _, peqC _, peqC _] [0, 0, 0, 0, 0, 0] 6 Q9 (by kernel_rfl) (by kernel_rfl) rfl ⟨Qi _ _, Qi _ _, Qi _ _, Qi _ _, Qi _ _, Qi _ _, trivial⟩ ?ob14 ?fin14
  case ob14 =>
   refine Qk (fun w123 c125 x124 hc0126 hk127 => ?_) ?_
   ·replace x124 := RelG.ext0 x124
    have z128 := x124.size
    refine Qj ?_
    exact Qs rfl (Ql (v := .pointer _) rfl)
   refine Qk (fun w129 c131 x130 hc0132 hk133 => ?_) ?_
   ·replace x130 := RelG.ext0 x130
    have z134 := x130.size
    refine Qb (Qj ?_)
    exact Qs rfl (QG rfl)
   refine Qk (fun w135 c137 x136 hc0138 hk139 => ?_) ?_
   ·replace x136 := RelG.ext0 x136
    have z140 := x136.size
    refine Qb (Qj ?_)
    exact Qs rfl (Qx underlying73 rfl sizeOf53 rfl)
   refine Qk (fun w141 c143 x142 hc0144 hk145 => ?_) ?_
   ·replace x142 := RelG.ext0 x142
    have z146 := x142.size
    have hbx22 := hbx22.ext x142
    refine Qb (Qj ?_)
    exact Qs rfl (Qn isAgg53 rfl (hbx22.at.get 5 rfl))
   refine Qk (fun w147 c149 x148 hc0150 hk151 => ?_) ?_
   ·replace x148 := RelG.ext0 x148
    have z152 := x148.size
    refine Qj ?_
    exact Qs rfl (mvI rfl)
   refine Qk (fun w153 c155 x154 hc0156 hk157 => ?_) ?_
   ·replace x154 := RelG.ext0 x154
    have z158 := x154.size
    have hb8 := hb8.ext x154
    refine Qj ?_
    exact Qs rfl (QO isAgg56 sizeOf56 rfl hb8.at rfl)
   exact Q8
  case fin14 =>
   intro w159 c161 x160 hc0162
   replace x160 := RelG.ext0 x160
   have z163 := x160.size
   replace hX := hX.ex x160
   replace hXL7 := Bel.ex hXL7 x160
   replace hown22 := hown22.ext x160
   refine Qb (Qb (Qb (Qb (Qb (Qb (Qj ?_))))))
   refine Rr (Zf (i := k) underlying53 sizeOf56 hown22 rfl rfl hk1) ?_
   refine Rg_elst (u := (tkI c o)) rfl Zc sizeOf56 rfl rfl rfl hown22 hkM ?_
   intro w164 x165 hown22
   have z166 := x165.size
   replace hX := Bel.out hX x165 om2
   replace hXL7 := Bel.out hXL7 x165 om2
   refine Qd (Qc ?_)
   refine Rr (Q6 rfl rfl omg) ?_
   refine Rr (mvI rfl) ?_
   refine Qd ?_
   refine ⟨k + 1, ⟨sT, trivial⟩, oT, ⟨?_, hXL7, ?_⟩, ?_⟩
   ·show k + 1 ≤ c.l.length; omega
   ·rw [hM, ho, mkF_succ hk1] at hown22
    exact hown22.mono (fun g h1 h2 => by omega)
   ·omega
 have hk1 : ¬ k < c.l.length := by have := dcF hc3; omega
 refine QS (QL (Qe (Qc ?_)))
 refine Rr (Ql (v := .pointer _) rfl) ?_
 refine Rr (Qv (v := .pointer _) rfl) ?_
 refine Rr Qm ?_
 refine Qd (Qy ?_)
 refine ⟨_, res_tmp2 rfl rfl rfl, ?_⟩
 rw [mkF_end (by omega)] at hown22
 exact ⟨⟨_, rfl, b22, _, rfl, ⟨by omega, hbx22.lt⟩, hbx22, a22, c22, (by rw [List.length_map]), (hown22.slA Zc).mono (fun g h1 h2 => ⟨⟨h2.1, h1⟩, h2.2⟩)⟩, hX⟩

