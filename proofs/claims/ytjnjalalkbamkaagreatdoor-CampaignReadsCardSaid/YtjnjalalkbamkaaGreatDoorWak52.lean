/- Walks: what functions return. -/
import Derived.Test.YtjnjalalkbamkaaGreatDoorWcg9
set_option linter.unusedVariables false
set_option linter.unusedSimpArgs false
set_option linter.unnecessarySimpa false
namespace Go.Proofs.YtjnjalalkbamkaaGreatDoor
open Go Go.Lx Go.RowKit Tryz
set_option maxRecDepth 100000
def usL : List Str := [[117, 49], [117, 50], [117, 51]]
def rsL : List Str := [[114, 49], [114, 50]]
theorem us_ok : ∀ x ∈ usL, nmS x = true ∧ x.length ≤ 1000000 := by
 intro x hx
 simp only [usL, List.mem_cons, List.not_mem_nil, or_false] at hx
 rcases hx with rfl | rfl | rfl <;> decide
theorem rs_ok : ∀ x ∈ rsL, nmS x = true ∧ x.length ≤ 1000000 := by
 intro x hx
 simp only [rsL, List.mem_cons, List.not_mem_nil, or_false] at hx
 rcases hx with rfl | rfl <;> decide
theorem nofB_ok (v0 : Value) (G : Nat → Prop) (l : List Str) (most : Int) (w : World) (hl : Rd encS 1 G w v0 l) (hv : ∀ x ∈ l, nmS x = true ∧ x.length ≤ 1000000) (hnd : l.Nodup) (hm : (l.length : Int) ≤ most) (hm2 : l.length ≤ 256) : Ok Tryz.prog 38 #[v0, .int .i64 most] w fun v w' => (∃ b, v = .tuple #[pB b, .int .i64 0] ∧ NtIs w' (pB b) l.length) ∧ Ext False w w' := by
 refine (nof_ok v0 G l most w hl hv hnd hm hm2).mono ?_
 rintro v w' ⟨⟨p, rfl, h⟩, x⟩
 obtain ⟨b, rfl, h⟩ := h.blk
 exact ⟨⟨b, rfl, h⟩, x⟩
theorem mbnewF_ok (w : World) : Ok Tryz.prog 39 #[] w fun v w' => (∃ b, v = pB b ∧ MbF (Fsh w w') w' (pB b) []) ∧ Ext False w w' := by
 refine (mbnew_ok w).mono ?_
 rintro v w' ⟨h, x⟩
 obtain ⟨b, rfl, h⟩ := h.blk
 exact ⟨⟨b, rfl, h⟩, x⟩
theorem mstep_ok (b k : Nat) (hk : k < 3) (w : World) (hm : MbIs w (pB b) (mbL.take k)) : Ok Tryz.prog 40 #[pB b, .int .i64 (iv (mbP.getD k (0, 0)).1), .int .i64 (iv (mbP.getD k (0, 0)).2), .int .i64 20] w fun v w' => (∃ b, v = .tuple #[pB b, .int .i64 0] ∧ MbF (Fsh w w') w' (pB b) (mbL.take (k + 1))) ∧ Ext False w w' := by
 obtain ⟨h1, h2, h3, h4⟩ := mb_step k hk
 have q := massign_ok _ _ w hm (mbL_ok k (by omega)) _ _ 20 h3 h4 (by decide) h1
 rw [h2] at q
 refine q.mono ?_
 rintro v w' ⟨⟨p, rfl, h⟩, x⟩
 obtain ⟨b, rfl, h⟩ := h.blk
 exact ⟨⟨b, rfl, h⟩, x⟩
set_option maxHeartbeats 4000000 in
theorem example52_ok (w : World) (hT : Tb w) : Ok Tryz.prog 10 #[] w fun v w' => (∃ b p, v = .tuple #[pB b, .bool true] ∧ At w' b 0 (ptC p) ∧ PtIs w' p 3 2 mbL ∧ p.day = 10) ∧ Ext False w w' := by
 refine Qz 70 func10 rfl rfl rfl ?_
 have hX := xRf w
 refine Qe (Qc ?_)
 refine Rr Qm ?_
 refine Rr Qm ?_
 refine Qd (Qe (Qc ?_))
 refine Qo rfl (o_call0 call36) (Ok.mono (snew52_ok _ hT) ?_)
 rintro _ w1 ⟨⟨b13, q13, rfl, hst13, hlk13, hgr13, hss13, hoa13, hor13⟩, x2⟩
 have z3 := x2.size
 replace hX := hX.ex x2
 refine Qo rfl (QA call37 rfl) (Ok.mono (sparts_ok b13 q13 _ hst13 hor13) ?_)
 rintro _ w4 ⟨⟨a14, rfl⟩, x5⟩
 have z6 := x5.size
 replace hX := hX.ex x5
 replace hlk13 := hlk13.ext x5
 replace hgr13 := hgr13.ext x5
 replace hss13 := hss13.ext x5
 have hE2 : Bel False NoB w4 w4 := Bel.refl _ _
 refine Rg_alst rfl rfl zeroValue91 rfl sizeOf91 (fun _ => rfl) rfl rfl ?_
 intro b2 w7 x8 hge2 hb2
 have hlt2 := hb2.lt
 change Box _ _ _ (id _) at hb2
 have z9 := x8.size
 replace hX := hX.ex x8
 replace hE2 := Bel.ex hE2 x8
 refine Qd (Qe (Qc ?_))
 refine Rg_bs (vs := [str _, str _, str _]) (usL) rfl encS_ok el_string rfl rfl ⟨rfl, ⟨rfl, ⟨rfl, trivial⟩⟩⟩ rfl rfl rfl rfl ?_
 intro a16 w10 x11 hown16
 have z12 := x11.size
 replace hX := hX.ex x11
 replace hE2 := Bel.ex hE2 x11
 replace hb2 := hb2.ext x11
 replace hown16 := hown16.mono (D' := fun g => w.heap.size ≤ g) (fun g h1 h2 => by omega)
 refine Qo rfl (QM call38 rfl rfl) (Ok.mono (nofB_ok _ _ usL 9 _ (hown16.rd encS_ok) us_ok (by decide) (by decide) (by decide)) ?_)
 rintro _ w13 ⟨⟨u17, rfl, hnt17⟩, x14⟩
 have z15 := x14.size
 replace hX := hX.ex x14
 replace hE2 := Bel.ex hE2 x14
 replace hb2 := hb2.ext x14
 refine Rr (Ql (v := .tuple _) rfl) ?_
 refine Rr (QH rfl rfl) ?_
 refine Rr (QH rfl rfl) ?_
 have hne17 := hnt17.ne hb2
 refine Rr (Qv (v := .pointer _) rfl) ?_
 refine Rr (asI rfl) ?_
 refine Qd (Qe (Qc ?_))
 refine Rg_bs (vs := [str _, str _]) (rsL) rfl encS_ok el_string rfl rfl ⟨rfl, ⟨rfl, trivial⟩⟩ rfl rfl rfl rfl ?_
 intro a21 w16 x17 hown21
 have z18 := x17.size
 replace hX := hX.ex x17
 replace hE2 := Bel.ex hE2 x17
 replace hb2 := hb2.ext x17
 replace hnt17 := hnt17.ext x17
 replace hown21 := hown21.mono (D' := fun g => w.heap.size ≤ g) (fun g h1 h2 => by omega)
 refine Qo rfl (QM call38 rfl rfl) (Ok.mono (nofB_ok _ _ rsL 9 _ (hown21.rd encS_ok) rs_ok (by decide) (by decide) (by decide)) ?_)
 rintro _ w19 ⟨⟨u22, rfl, hnt22⟩, x20⟩
 have z21 := x20.size
 replace hX := hX.ex x20
 replace hE2 := Bel.ex hE2 x20
 replace hb2 := hb2.ext x20
 replace hnt17 := hnt17.ext x20
 refine Rr (Ql (v := .tuple _) rfl) ?_
 refine Rr (QH rfl rfl) ?_
 refine Rr (QH rfl rfl) ?_
 have hne22 := hnt22.ne hb2
 refine Rr (Qv (v := .pointer _) rfl) ?_
 refine Rr (asI rfl) ?_
 refine Qd (Qe (Qc ?_))
 obtain ⟨n2, hn2⟩ : ∃ n, n = w19.heap.size := ⟨_, rfl⟩
 refine Qo rfl (o_call0 call39) (Ok.mono (mbnewF_ok _) ?_)
 rintro _ w22 ⟨⟨m25, rfl, hmb⟩, x23⟩
 have z24 := x23.size
 replace hX := hX.ex x23
 replace hE2 := Bel.ex hE2 x23
 replace hb2 := hb2.ext x23
 replace hnt17 := hnt17.ext x23
 replace hnt22 := hnt22.ext x23
 refine Rr (Qv (v := .pointer _) rfl) ?_
 refine Qd (Qe (Qe (Qc ?_)))
 refine Rr (QZ (cells := encPr (1, 1)) (vs := [(0, .int _ _), (1, .int _ _)]) rfl (by kernel_rfl)) ?_
 refine Rr (QZ (cells := encPr (2, 1)) (vs := [(0, .int _ _), (1, .int _ _)]) rfl (by kernel_rfl)) ?_
 refine Rr (QZ (cells := encPr (2, 2)) (vs := [(0, .int _ _), (1, .int _ _)]) rfl (by kernel_rfl)) ?_
 refine Rg_bs (vs := [.agg _, .agg _, .agg _]) (mbP) rfl encPr_ok el_pr rfl rfl ⟨rfl, ⟨rfl, ⟨rfl, trivial⟩⟩⟩ rfl rfl rfl rfl ?_
 intro a29 w25 x26 hown29
 have z27 := x26.size
 replace hX := hX.ex x26
 replace hE2 := Bel.ex hE2 x26
 replace hb2 := hb2.ext x26
 replace hnt17 := hnt17.ext x26
 replace hnt22 := hnt22.ext x26
 replace hmb := hmb.ext x26
 replace hown29 := hown29.mono (D' := fun g => w.heap.size ≤ g) (fun g h1 h2 => by omega)
 refine Rr (QK underlying48 rfl) ?_
 refine Rr QT ?_
 refine Qd (QB ?_)
 refine Za (α := Nat × Nat) [(0, 1), (7, 7), (9, 10), (31, 46)] (fun q => [(31, .int .i64 (q.1 : Int)), (7, pB q.2)]) (fun q w' => (q.1 ≤ 3) ∧ Ext False w25 w' ∧ (MbF (fun g => n2 ≤ g) w' (pB q.2) (mbL.take q.1))) (fun q => 3 - q.1) (0, m25) ⟨rfl, rfl, trivial⟩ ⟨Nat.zero_le _, Bel.refl _ _, (hmb.mono (fun g h1 h2 => by have := h2.1; omega))⟩ ?_
 rintro ⟨k, m⟩ fb30 w29 ⟨hk, hXL28, hmb⟩
 dsimp only at *
 have z31 := Bel.size hXL28
 replace hX := hX.ex hXL28
 replace hE2 := Bel.ex hE2 hXL28
 replace hb2 := hb2.ext hXL28
 replace hnt17 := hnt17.ext hXL28
 replace hnt22 := hnt22.ext hXL28
 replace hown29 := hown29.ext hXL28
 refine Qe (Qc ?_)
 refine Rr (QQ rfl rfl) ?_
 refine Qd (Qe ?_)
 refine QD rfl (fun hc1 => ?_) (fun hc1 => ?_)
 ·have hk3 : k < 3 := by have h := dcT hc1; have h2 : mbP.length = 3 := rfl; omega
  have hk2 : k < mbP.length := hk3
  refine Qu (Qe (QB (Qe (Qc ?_))))
  refine Rr (Zg underlying48 sizeOf47 (hown29.slA encPr_ok) rfl rfl omg) ?_
  refine Rr (o_ldRS isAgg47 sizeOf47 (hown29.slA encPr_ok) rfl (getE (0, 0) hk3)) ?_
  refine Rg_alst rfl rfl zeroValue47 rfl sizeOf47 (fun _ => rfl) rfl rfl ?_
  intro b9 w32 x33 hge9 hb9
  have hlt9 := hb9.lt
  change Box _ _ _ (encPr _) at hb9
  have z34 := x33.size
  replace hX := hX.ex x33
  replace hXL28 := Bel.ex hXL28 x33
  replace hE2 := Bel.ex hE2 x33
  replace hmb := hmb.ext x33
  refine Qd (Qe (Qc ?_))
  refine Rr Qm ?_
  refine Qd (Qe (Qc ?_))
  refine Rr (Ql (v := .pointer _) rfl) ?_
  refine Rr (o_iaA (i := 0) underlying47 sizeOf3 rfl rfl (by decide)) ?_
  refine Rr (Qn isAgg3 rfl (hb9.at.get 0 rfl)) ?_
  refine Rr (o_iaA (i := 1) underlying47 sizeOf3 rfl rfl (by decide)) ?_
  refine Rr (Qn isAgg3 rfl (hb9.at.get 1 rfl)) ?_
  refine Qo rfl (o_call4 call40 rfl rfl rfl rfl) (Ok.mono (mstep_ok m k hk3 _ hmb.is) ?_)
  rintro _ w35 ⟨⟨m41, rfl, hmb41⟩, x36⟩
  have z37 := x36.size
  replace hX := hX.ex x36
  replace hXL28 := Bel.ex hXL28 x36
  replace hE2 := Bel.ex hE2 x36
  refine Rr (Ql (v := .tuple _) rfl) ?_
  refine Rr (QH rfl rfl) ?_
  refine Rr (QH rfl rfl) ?_
  refine Rr (Qv (v := .pointer _) rfl) ?_
  refine Rr (asI rfl) ?_
  refine Qd (Qe (Qc ?_))
  refine Rr (mvI rfl) ?_
  refine Rr (o_neq rfl rfl) ?_
  refine Qd ?_
  refine Qr rfl ?_
  refine Qu (Qc ?_)
  refine Rr (Q6 rfl rfl omg) ?_
  refine Rr (mvI rfl) ?_
  refine Qd ?_
  refine ⟨(k + 1, m41), ⟨sT, sT, trivial⟩, oT, ⟨?_, hXL28, ?_⟩, ?_⟩
  ·show k + 1 ≤ 3; omega
  ·exact hmb41.mono (fun g h1 h2 => by have := h2.1; omega)
  ·show 3 - (k + 1) < 3 - k; omega
 have hk3 : ¬ k < 3 := by have h := dcF hc1; have h2 : mbP.length = 3 := rfl; omega
 refine QS (QL (Qe (Qc ?_)))
 refine Rr (Ql (v := .pointer _) rfl) ?_
 refine Rr (Ql (v := .pointer _) rfl) ?_
 refine Rr (Ql (v := .pointer _) rfl) ?_
 refine Rr (Qx underlying91 rfl sizeOf3 rfl) ?_
 refine QY (v := .int _ _) rfl sizeOf3 rfl rfl hb2 rfl rfl rfl ?_
 intro w38 c39 hb2
 change Box _ _ _ ([.int _ _, .pointer _, .pointer _, .slice _ _ _, .pointer _, .pointer _, .pointer _, .slice _ _ _, .slice _ _ _, .pointer _]) at hb2
 have z40 := Bel.size c39
 replace hX := Bel.out hX c39 om2
 replace hE2 := Bel.out hE2 c39 om2
 replace hnt17 := hnt17.kp c39 om1
 replace hnt22 := hnt22.kp c39 om1
 replace hmb := hmb.keepD c39 om3
 refine Rr (Qx underlying91 rfl sizeOf83 rfl) ?_
 refine QY (v := .pointer _) rfl sizeOf83 rfl rfl hb2 rfl rfl rfl ?_
 intro w41 c42 hb2
 change Box _ _ _ ([.int _ _, .pointer _, .pointer _, .slice _ _ _, .pointer _, .pointer _, .pointer _, .slice _ _ _, .slice _ _ _, .pointer _]) at hb2
 have z43 := Bel.size c42
 replace hX := Bel.out hX c42 om2
 replace hE2 := Bel.out hE2 c42 om2
 replace hnt17 := hnt17.kp c42 om1
 replace hnt22 := hnt22.kp c42 om1
 replace hmb := hmb.keepD c42 om3
 refine Rr (Qx underlying91 rfl sizeOf83 rfl) ?_
 refine QY (v := .pointer _) rfl sizeOf83 rfl rfl hb2 rfl rfl rfl ?_
 intro w44 c45 hb2
 change Box _ _ _ ([.int _ _, .pointer _, .pointer _, .slice _ _ _, .pointer _, .pointer _, .pointer _, .slice _ _ _, .slice _ _ _, .pointer _]) at hb2
 have z46 := Bel.size c45
 replace hX := Bel.out hX c45 om2
 replace hE2 := Bel.out hE2 c45 om2
 replace hnt17 := hnt17.kp c45 om1
 replace hnt22 := hnt22.kp c45 om1
 replace hmb := hmb.keepD c45 om3
 refine Rr (Qx underlying91 rfl sizeOf85 rfl) ?_
 refine QY (v := .pointer _) rfl sizeOf85 rfl rfl hb2 rfl rfl rfl ?_
 intro w47 c48 hb2
 change Box _ _ _ ([.int _ _, .pointer _, .pointer _, .slice _ _ _, .pointer _, .pointer _, .pointer _, .slice _ _ _, .slice _ _ _, .pointer _]) at hb2
 have z49 := Bel.size c48
 replace hX := Bel.out hX c48 om2
 replace hE2 := Bel.out hE2 c48 om2
 replace hnt17 := hnt17.kp c48 om1
 replace hnt22 := hnt22.kp c48 om1
 replace hmb := hmb.keepD c48 om3
 refine Qd (Qe (Qc ?_))
 change Box _ _ _ (ptC ⟨10, u17, u22, q13.aa, q13.ca, q13.lk, m, q13.gr, a14, 0, none, 0, q13.ss⟩) at hb2
 have hmb3 : MbF (fun g => n2 ≤ g) w47 (pB m) mbL := by
  rw [List.take_of_length_le (show mbL.length ≤ k by have : mbL.length = 3 := rfl; omega)] at hmb
  exact hmb
 have hpt0 : PtIs w47 ⟨10, u17, u22, q13.aa, q13.ca, q13.lk, m, q13.gr, a14, 0, none, 0, q13.ss⟩ 3 2 mbL := ⟨hnt17, hnt22, hlk13.ext hE2, hmb3.is, hgr13.ext hE2, hss13.ext hE2, hoa13, ⟨Nat.zero_le _, fun _ => rfl⟩⟩
 refine Rr (QO isAgg91 sizeOf91 rfl hb2.at rfl) ?_
 refine Qo rfl (QA call41 rfl) (Ok.mono (sof52_ok ⟨10, u17, u22, q13.aa, q13.ca, q13.lk, m, q13.gr, a14, 0, none, 0, q13.ss⟩ 3 mbL _ hpt0 (mbL_ok 3 (Nat.le_refl _)) mbL_in (show (0 : Int) ≤ 10 ∧ (10 : Int) ≤ 30000 by decide)) ?_)
 rintro _ w50 ⟨⟨b56, q56, rfl, hst56, hpt56, hday56⟩, x51⟩
 have z52 := x51.size
 replace hX := hX.ex x51
 replace hE2 := Bel.ex hE2 x51
 refine Rr (Ql (v := .tuple _) rfl) ?_
 refine Rr (QH rfl rfl) ?_
 refine Rr (QH rfl rfl) ?_
 refine Rr (Qv (v := .pointer _) rfl) ?_
 refine Rr (asI rfl) ?_
 refine Qd (Qe (Qc ?_))
 refine Rr (Ql (v := .pointer _) rfl) ?_
 refine Rr (mvI rfl) ?_
 refine Rr (Q0 rfl rfl) ?_
 refine Rr (mvB rfl) ?_
 refine QF 3 62 rfl rfl ?_
 refine Rr (mvI rfl) ?_
 refine QF 3 62 rfl rfl ?_
 refine Rr (Q0 rfl rfl) ?_
 refine Rr (Zb (v := .bool _) rfl rfl) ?_
 refine Rr (mvB rfl) ?_
 refine QF 7 66 rfl rfl ?_
 refine Rr (mvI rfl) ?_
 refine QF 7 66 rfl rfl ?_
 refine Rr (Q0 rfl rfl) ?_
 refine Rr (Zb (v := .bool _) rfl rfl) ?_
 refine Rr (Qv (v := .pointer _) rfl) ?_
 refine Rr (asB rfl) ?_
 refine Qd (Qy ?_)
 refine ⟨_, res_tmp2 rfl rfl rfl, ?_⟩
 exact ⟨⟨b56, _, rfl, hst56, hpt56, hday56⟩, hX⟩

def awE : Cpg := ⟨10, 12, 15, 3, false, [⟨1, 1, 2, 4⟩, ⟨2, 1, 3, 1⟩, ⟨2, 2, 3, 1⟩]⟩
theorem bofA_ok (w : World) (vl : Value) (hl : Rd encJ 1 (Lt w.heap.size) w vl [1, 2]) : Ok Tryz.prog 11 #[vl] w fun v w' => (∃ a c, v = .agg (encSV ⟨a, c, 6⟩).toArray ∧ Sl encU 1 (Lt w'.heap.size) w' a c (wl 6)) ∧ Ext False w w' := by
 have q := bof_ok w vl [1, 2] hl (by decide) (by decide)
 rw [show ofW [1, 2] = 6 by decide] at q
 refine q.mono ?_
 rintro v w' ⟨a, c, h1, h2, x⟩
 exact ⟨⟨a, c, h1, h2.top⟩, x⟩
theorem citemsV_ok (v0 : Value) (c : Cpg) (D : Nat → Prop) (w : World) (hc : CpIs 73 D w v0 c) (hn : c.l.length ≤ 100000) : Ok Tryz.prog 14 #[v0] w fun v w' => Own encIp 4 56 (Fsh w w') w' v c.l ∧ Ext False w w' := by
 obtain ⟨b, u, rfl, h1, h2, a, n, rfl, h3⟩ := hc
 exact citems_ok b c a n _ w h2 h3 hn
theorem cfinA_ok (v0 : Value) (D : Nat → Prop) (w : World) (hc : CpIs 73 D w v0 awD) : Ok Tryz.prog 17 #[v0] w fun v w' => v = .bool true ∧ Ext False w w' := by
 obtain ⟨b, u, rfl, h1, h2, a, n, rfl, h3⟩ := hc
 exact cfin_ok b awD a n _ w h2 h3
theorem cdecA_ok (v0 : Value) (D : Nat → Prop) (w : World) (hc : CpIs 73 D w v0 awC) : Ok Tryz.prog 15 #[v0, .int .i64 2, .int .i64 0, .bool false] w fun v w' => (∃ x, v = .tuple #[x, .int .i64 0] ∧ CpIs 73 (Fsh w w') w' x awE) ∧ Ext False w w' :=
 cdecide_ok v0 awC D w hc (by decide) 2 0 false (by decide) rfl rfl
theorem ctickA_ok (v0 : Value) (D : Nat → Prop) (w : World) (hc : CpIs 73 D w v0 awE) : Ok Tryz.prog 16 #[v0, .int .i64 16] w fun v w' => (∃ x, v = .tuple #[x, .int .i64 0] ∧ CpIs 73 (Fsh w w') w' x awD) ∧ Ext False w w' := by
 have q := ctick_ok v0 awE D w hc (by decide) 16 (by decide) (by decide) (by decide) (by decide)
 rw [show ({ awE with day := 16, l := awE.l.map (tkI awE) } : Cpg) = awD by rfl] at q
 exact q
theorem iteqA_ok (v1 v2 : Value) (A C : Nat → Prop) (w : World) (hx : Rd encIp 4 A w v1 awC.l) (hy : Rd encIp 4 C w v2 awIt) : Ok Tryz.prog 13 #[v1, v2] w fun v w' => v = .bool true ∧ Ext False w w' := by
 have q := itequal_okV v1 v2 A C awC.l awIt w hx hy
 rw [show (awC.l == awIt) = true by decide] at q
 exact q
set_option maxHeartbeats 4000000 in
theorem awake52_ok (w : World) (hT : Tb w) : Ok Tryz.prog 4 #[] w fun v w' => v = .bool true ∧ Ext False w w' := by
 refine Qz 79 func4 rfl rfl rfl ?_
 have hX := xRf w
 refine Qe (Qc ?_)
 refine Rr Qm ?_
 refine Qd (Qe (Qc ?_))
 refine Qo rfl (o_call0 call10) (Ok.mono (example52_ok _ hT) ?_)
 rintro _ w1 ⟨⟨b9, p9, rfl, hst9, hpt9, hday9⟩, x2⟩
 replace hX := hX.ex x2
 replace hT := hT.ext x2
 refine Rr (Ql (v := .tuple _) rfl) ?_
 refine Rr (QH rfl rfl) ?_
 refine Rr (QH rfl rfl) ?_
 refine Rr (Qv (v := .pointer _) rfl) ?_
 refine Rr (asB rfl) ?_
 refine Qd (Qe (Qe (Qc ?_)))
 refine Rr (mvB rfl) ?_
 refine Rr (Q5 rfl) ?_
 refine Qd ?_
 refine Qr rfl ?_
 refine Qu (Qe (Qc ?_))
 refine Rg_bs (vs := [.int _ _, .int _ _]) (([1, 2] : List Int)) rfl encJ_ok el_int rfl rfl ⟨rfl, ⟨rfl, trivial⟩⟩ rfl rfl rfl rfl ?_
 intro a14 w3 x4 hown14
 replace hX := hX.ex x4
 replace hT := hT.ext x4
 replace hst9 := hst9.ext x4
 replace hpt9 := hpt9.ext x4
 refine Qo rfl (QA call11 rfl) (Ok.mono (bofA_ok _ _ (hown14.trd encJ_ok)) ?_)
 rintro _ w5 ⟨⟨a15, c15, rfl, hq15⟩, x6⟩
 replace hX := hX.ex x6
 replace hT := hT.ext x6
 replace hst9 := hst9.ext x6
 replace hpt9 := hpt9.ext x6
 refine Rr (QZ (cells := encPr (1, 2)) (vs := [(0, .int _ _), (1, .int _ _)]) rfl (by kernel_rfl)) ?_
 refine Rr (QZ (cells := encPr (1, 3)) (vs := [(0, .int _ _), (1, .int _ _)]) rfl (by kernel_rfl)) ?_
 refine Rg_bs (vs := [.agg _, .agg _]) (rvL) rfl encPr_ok el_pr rfl rfl ⟨rfl, ⟨rfl, trivial⟩⟩ rfl rfl rfl rfl ?_
 intro a18 w7 x8 hown18
 replace hX := hX.ex x8
 replace hT := hT.ext x8
 replace hst9 := hst9.ext x8
 replace hpt9 := hpt9.ext x8
 replace hq15 := hq15.ext x8
 refine Rr (QZ (cells := plC ⟨a15, c15, a18, 2⟩) (vs := [(0, .agg _), (1, .slice _ _ _), (2, .int _ _), (3, .int _ _), (4, .int _ _)]) rfl (by kernel_rfl)) ?_
 refine Rg_alst rfl rfl zeroValue50 rfl sizeOf50 (fun _ => rfl) rfl rfl ?_
 intro b3 w9 x10 hge3 hb3
 change Box _ _ _ (id _) at hb3
 replace hX := hX.ex x10
 replace hT := hT.ext x10
 replace hst9 := hst9.ext x10
 replace hpt9 := hpt9.ext x10
 replace hq15 := hq15.ext x10
 replace hown18 := hown18.ext x10
 refine Qd (Qe (Qc ?_))
 refine Rr (Ql (v := .pointer _) rfl) ?_
 have hpl : PlIs w9 ⟨a15, c15, a18, 2⟩ := ⟨hq15.top, (hown18.slA encPr_ok).top⟩
 refine Rr (QO isAgg50 sizeOf50 rfl hb3.at rfl) ?_
 refine Qo rfl (QM call12 rfl rfl) (Ok.mono (cstart_ok b9 p9 ⟨a15, c15, a18, 2⟩ _ hst9 hpt9 hpl hT hday9) ?_)
 rintro _ w11 ⟨⟨x23, rfl, hcp23⟩, x12⟩
 replace hX := hX.ex x12
 replace hst9 := hst9.ext x12
 replace hpt9 := hpt9.ext x12
 refine Rr (Ql (v := .tuple _) rfl) ?_
 refine Rr (QH rfl rfl) ?_
 refine Rr (QH rfl rfl) ?_
 refine Rr (Qv (v := x23) rfl) ?_
 refine Rr (asI rfl) ?_
 refine Qd (Qe (Qe (Qc ?_)))
 refine Rr (mvI rfl) ?_
 refine Rr (o_neq rfl rfl) ?_
 refine Rr (mvB rfl) ?_
 refine QF 2 28 rfl rfl ?_
 refine Rr (Ql (v := x23) rfl) ?_
 refine QF 2 28 rfl rfl ?_
 refine Qo rfl (QA call14 rfl) (Ok.mono (citemsV_ok _ awC _ _ hcp23 (by decide)) ?_)
 rintro v30 w13 ⟨hown30, x14⟩
 replace hX := hX.ex x14
 replace hst9 := hst9.ext x14
 replace hpt9 := hpt9.ext x14
 replace hcp23 := hcp23.ext x14
 refine QF 2 28 rfl rfl ?_
 refine Rr (QZ (cells := encIp ⟨1, 1, 2, 1⟩) (vs := [(0, .int _ _), (1, .int _ _), (2, .int _ _), (3, .int _ _)]) rfl (by kernel_rfl)) ?_
 refine QF 2 28 rfl rfl ?_
 refine Rr (QZ (cells := encIp ⟨2, 1, 3, 1⟩) (vs := [(0, .int _ _), (1, .int _ _), (2, .int _ _), (3, .int _ _)]) rfl (by kernel_rfl)) ?_
 refine QF 2 28 rfl rfl ?_
 refine Rr (QZ (cells := encIp ⟨2, 2, 3, 1⟩) (vs := [(0, .int _ _), (1, .int _ _), (2, .int _ _), (3, .int _ _)]) rfl (by kernel_rfl)) ?_
 refine QF 2 28 rfl rfl ?_
 refine Rg_bs (vs := [.agg _, .agg _, .agg _]) (awIt) rfl Zc el_ip rfl rfl ⟨rfl, ⟨rfl, ⟨rfl, trivial⟩⟩⟩ rfl rfl rfl rfl ?_
 intro a34 w15 x16 hown34
 replace hX := hX.ex x16
 replace hst9 := hst9.ext x16
 replace hpt9 := hpt9.ext x16
 replace hcp23 := hcp23.ext x16
 replace hown30 := hown30.ext x16
 refine QF 2 28 rfl rfl ?_
 refine Qo rfl (QM call13 rfl rfl) (Ok.mono (iteqA_ok _ _ _ _ _ (hown30.rd Zc) (hown34.rd Zc)) ?_)
 rintro _ w17 ⟨rfl, x18⟩
 replace hX := hX.ex x18
 replace hst9 := hst9.ext x18
 replace hpt9 := hpt9.ext x18
 replace hcp23 := hcp23.ext x18
 refine QF 2 28 rfl rfl ?_
 refine Rr (Q5 rfl) ?_
 refine Rr (Q3 (v := .bool _) rfl rfl) ?_
 refine Qd ?_
 refine Qr rfl ?_
 refine Qu (Qe (Qc ?_))
 refine Rr (Ql (v := x23) rfl) ?_
 refine Qo rfl (o_call4 call15 rfl rfl rfl rfl) (Ok.mono (cdecA_ok _ _ _ hcp23) ?_)
 rintro _ w19 ⟨⟨x40, rfl, hcp40⟩, x20⟩
 replace hX := hX.ex x20
 replace hst9 := hst9.ext x20
 replace hpt9 := hpt9.ext x20
 refine Rr (Ql (v := .tuple _) rfl) ?_
 refine Rr (QH rfl rfl) ?_
 refine Rr (QH rfl rfl) ?_
 refine Rr (Qv (v := x40) rfl) ?_
 refine Rr (asI rfl) ?_
 refine Qd (Qe (Qe (Qc ?_)))
 refine Rr (mvI rfl) ?_
 refine Rr (o_neq rfl rfl) ?_
 refine Qd ?_
 refine Qr rfl ?_
 refine Qu (Qe (Qc ?_))
 refine Rr (Ql (v := x40) rfl) ?_
 refine Qo rfl (QM call16 rfl rfl) (Ok.mono (ctickA_ok _ _ _ hcp40) ?_)
 rintro _ w21 ⟨⟨x47, rfl, hcp47⟩, x22⟩
 replace hX := hX.ex x22
 replace hst9 := hst9.ext x22
 replace hpt9 := hpt9.ext x22
 refine Rr (Ql (v := .tuple _) rfl) ?_
 refine Rr (QH rfl rfl) ?_
 refine Rr (QH rfl rfl) ?_
 refine Rr (Qv (v := x47) rfl) ?_
 refine Rr (asI rfl) ?_
 refine Qd (Qe (Qe (Qc ?_)))
 refine Rr (mvI rfl) ?_
 refine Rr (o_neq rfl rfl) ?_
 refine Rr (mvB rfl) ?_
 refine QF 2 52 rfl rfl ?_
 refine Rr (Ql (v := x47) rfl) ?_
 refine QF 2 52 rfl rfl ?_
 refine Qo rfl (QA call17 rfl) (Ok.mono (cfinA_ok _ _ _ hcp47) ?_)
 rintro _ w23 ⟨rfl, x24⟩
 replace hX := hX.ex x24
 replace hst9 := hst9.ext x24
 replace hpt9 := hpt9.ext x24
 replace hcp47 := hcp47.ext x24
 refine QF 2 52 rfl rfl ?_
 refine Rr (Q5 rfl) ?_
 refine Rr (Q3 (v := .bool _) rfl rfl) ?_
 refine Qd ?_
 refine Qr rfl ?_
 refine Qu (Qe (Qc ?_))
 refine Rr (Ql (v := x47) rfl) ?_
 refine Rr (Ql (v := .pointer _) rfl) ?_
 refine Qo rfl (QM call18 rfl rfl) (Ok.mono (cset_ok _ _ b9 p9 _ hcp47 hst9 hpt9) ?_)
 rintro _ w25 ⟨⟨a60, c60, X60, rfl, hX360, hs60⟩, x26⟩
 replace hX := hX.ex x26
 replace hcp47 := hcp47.ext x26
 refine Rr (Ql (v := .tuple _) rfl) ?_
 refine Rr (QH rfl rfl) ?_
 refine Rr (QH rfl rfl) ?_
 refine Rg_alst rfl rfl zeroValue62 rfl sizeOf62 (fun _ => rfl) rfl rfl ?_
 intro b7 w27 x28 hge7 hb7
 change Box _ _ _ (wsS _ _ _) at hb7
 replace hX := hX.ex x28
 replace hcp47 := hcp47.ext x28
 replace hs60 := hs60.ext x28
 refine Rr (asI rfl) ?_
 refine Qd (Qe (Qc ?_))
 refine Rr (mvI rfl) ?_
 refine Rr (Q0 rfl rfl) ?_
 refine Rr (mvB rfl) ?_
 refine QF 2 65 rfl rfl ?_
 refine Rr (QO isAgg62 sizeOf62 rfl hb7.at rfl) ?_
 refine QF 2 65 rfl rfl ?_
 refine Qo rfl (QA call19 rfl) (Ok.mono (cops_ok a60 c60 _ X60 _ hs60 (by omega)) ?_)
 rintro v67 w29 ⟨hown67, x30⟩
 replace hX := hX.ex x30
 replace hcp47 := hcp47.ext x30
 refine QF 2 65 rfl rfl ?_
 refine Rr (o_llenO underlying60 rfl hown67) ?_
 refine QF 2 65 rfl rfl ?_
 refine Rr (Q0 rfl rfl) ?_
 refine Rr (Zb (v := .bool _) rfl rfl) ?_
 refine Rr (mvB rfl) ?_
 refine QF 8 71 rfl (cvB (by rw [hX360]; rfl)) ?_
 refine Rr (Ql (v := x47) rfl) ?_
 refine QF 8 71 rfl (cvB (by rw [hX360]; rfl)) ?_
 refine Qo rfl (QA call14 rfl) (Ok.mono (citemsV_ok _ awD _ _ hcp47 (by decide)) ?_)
 rintro v73 w31 ⟨hown73, x32⟩
 replace hX := hX.ex x32
 obtain ⟨a73, c73, hv73, hs73⟩ := hown73.sl Zc
 subst hv73
 refine QF 8 71 rfl (cvB (by rw [hX360]; rfl)) ?_
 refine Rr (Zg (i := 2) underlying53 sizeOf56 hs73 rfl rfl (show 2 < awD.l.length by decide)) ?_
 refine QF 8 71 rfl (cvB (by rw [hX360]; rfl)) ?_
 refine Rr (o_faE underlying56 rfl sizeOf54 hs73 rfl (show awD.l[2]? = some (⟨2, 2, 3, 4⟩ : Itm) from rfl)) ?_
 refine QF 8 71 rfl (cvB (by rw [hX360]; rfl)) ?_
 refine Rr (o_ldE (j := 3) isAgg54 hs73 rfl (show awD.l[2]? = some (⟨2, 2, 3, 4⟩ : Itm) from rfl) rfl) ?_
 refine QF 8 71 rfl (cvB (by rw [hX360]; rfl)) ?_
 refine Rr (Q0 rfl rfl) ?_
 refine Rr (Zb (v := .bool _) (cvB (by rw [hX360]; rfl)) rfl) ?_
 refine Rr (asB rfl) ?_
 refine Qd (Qy ?_)
 refine ⟨_, Qp rfl rfl, ?_⟩
 exact ⟨rfl, hX⟩

