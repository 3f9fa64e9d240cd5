/- Walks: what functions return. -/
import Derived.Test.YtgmpgfokblehdaaGreatDoorWnt5
import Derived.Test.YtgmpgfokblehdaaGreatDoorWses2
import Derived.Test.YtgmpgfokblehdaaGreatDoorWgr
set_option linter.unusedVariables false
set_option linter.unusedSimpArgs false
set_option linter.unnecessarySimpa false
namespace Go.Proofs.YtgmpgfokblehdaaGreatDoor
open Go Go.Lx Go.RowKit Tryz
set_option maxRecDepth 100000
theorem el_rul : ElT Tryz.prog 35 229 7 104 (.agg #[.bool false, .int .i64 0, .int .i64 0, .slice none 0 0, .slice none 0 0, .slice none 0 0, .int .i64 0]) := ⟨underlying35, ⟨Tryz.t229, by kernel_rfl, rfl, rfl, rfl⟩, rfl, by decide, by decide⟩
theorem bbelow3_ok (w : World) : Ok Tryz.prog 157 #[.int .i64 3] w fun v w' => ∃ a c, v = .agg (encSV ⟨a, c, 7⟩).toArray ∧ Sl encU 1 (Fsh w w') w' a c (wl 7) ∧ Ext False w w' := by
 refine Qv 35 func157 rfl rfl rfl ?_
 have hX := xRf w
 refine Qf (Qb (QH rfl (Q4 zeroValue32) ?_))
 intro b2 w1 x2 hge2 hb2
 have hlt2 := hb2.lt
 have z3 := x2.size
 replace hX := hX.ex x2
 refine Qc (Qf (Qb (Rr (mvI rfl) (Rr (o_maxI (a := 3) (b := 0) rfl rfl) (Rr (o_min (a := 3) (b := 4096) rfl rfl) (Rr (asI rfl) (Qc (Qf (Qb ?_)))))))))
 obtain ⟨n0, hn0⟩ : ∃ n, n = w1.heap.size := ⟨_, rfl⟩
 refine Rr (mvI rfl) (Rr (QO rfl rfl omg) ?_)
 refine Rr (o_quoT (a := 66) (b := 64) rfl rfl (by decide) (by decide) (by unfold I64; decide)) ?_
 refine Z8 (m := 1) (0 : W64) rfl Zh Jh rfl rfl rfl (by decide) ?_
 intro a11 w4 x5 hown11
 have z6 := x5.size
 replace hX := hX.ex x5
 replace hb2 := hb2.ext x5
 replace hown11 := hown11.mono (D' := fun g => n0 ≤ g) (fun g h1 h2 => by omega)
 refine Rr (asS rfl) (Qc (Qf (Qf (Qb (Rr (mvS rfl) (Rr (QC underlying30 rfl) (Rr QP (Qc (Qt (QU (α := Nat) [(4, 4), (14, 20)] (fun k => [(14, .int .i64 (k : Int))]) (fun k w' => (k ≤ 1) ∧ Bel False (fun g => n0 ≤ g) w4 w' ∧ (Own encU 1 126 (fun g => n0 ≤ g) w' (.slice a11 1 1) [if k = 0 then 0#64 else 18446744073709551615#64])) (fun k => 1 - k) 0 ⟨rfl, trivial⟩ ⟨Nat.zero_le _, Bel.refl _ _, hown11⟩ ?_))))))))))
 rintro k fb9 w8 ⟨hk, hXL7, hown11⟩
 have z10 := Bel.size hXL7
 replace hX := Bel.out hX hXL7 om2
 replace hb2 := hb2.keep hXL7 om1
 refine Qf (Qb (Rr (QM rfl rfl) (Qc (Qf (Qw rfl (fun hc1 => ?_) (fun hc1 => ?_))))))
 ·replace hc1 := dcT hc1
  have hk0 : k = 0 := by omega
  subst hk0
  refine Qp (Qf (Qt (Qf (Qb (Rr (mvI rfl) (Rr (asI rfl) (Qc (Qb (Rr (mvS rfl) (Rr (mvI rfl) (Rr (ZE (i := 0) underlying30 sizeOf126 hown11 rfl rfl (by decide)) (ZG (u := 18446744073709551615#64) rfl Zh sizeOf126 rfl rfl rfl hown11 (by simp) ?_))))))))))))
  intro w11 x12 hown11
  replace hXL7 := Bel.out hXL7 x12 om2
  refine Qc (Qb (Rr (QO rfl rfl omg) (Rr (mvI rfl) (Qc ⟨1, ⟨sT, trivial⟩, oT, ⟨?_, hXL7, ?_⟩, ?_⟩))))
  ·show 1 ≤ 1; omega
  ·exact hown11
  ·omega
 replace hc1 := dcF hc1
 refine QN (QI (Qf (Qf (Qb (Rr (mvI rfl) ?_)))))
 refine Rr (Yq (a := 3) (b := 64) rfl rfl (by decide) (by decide) (by unfold I64; decide)) ?_
 refine Rr (ZM rfl rfl) (Qc (Za rfl (Qb (Rr (mvS rfl) (Rr (mvS rfl) (Rr (QC underlying30 rfl) (Rr (Yh rfl rfl omg) (Rr (mvI rfl) ?_))))))))
 refine Rr (Yq (a := 3) (b := 64) rfl rfl (by decide) (by decide) (by unfold I64; decide)) ?_
 refine Rr (o_shlU (a := BitVec.ofNat 64 1) rfl rfl (by decide)) (Rr (o_subU (b := BitVec.ofNat 64 1) rfl rfl) (Rr (ZE (i := 0) underlying30 sizeOf126 hown11 rfl rfl (by decide)) (ZG (u := 7#64) rfl Zh sizeOf126 rfl rfl rfl hown11 (by simp) ?_)))
 intro w14 x15 hown11
 have z16 := x15.size
 replace hX := Bel.out hX x15 om2
 replace hb2 := hb2.keep x15 om1
 refine Qc (Qf (Qb (Rr (mvS rfl) (Rr (Q2 (cells := encSV ⟨a11, 1, 7⟩) (vs := [(0, .slice _ _ _)]) rfl (by kernel_rfl)) (QS (v := .agg _) rfl sizeOf32 rfl rfl hb2 rfl rfl rfl ?_)))))
 intro w17 c18 hb2
 have z19 := Bel.size c18
 replace hX := Bel.out hX c18 om2
 replace hown11 := hown11.keepD c18 om3
 refine Qc (Qu ⟨_, ZN (v := .agg _) rfl (Zb isAgg32 sizeOf32 rfl hb2.at rfl), ?_⟩)
 have h := (hown11.slA Zh).mono (F' := Fsh w w17) (fun g h1 h2 => ⟨by omega, by omega⟩)
 exact ⟨_, _, rfl, h, hX⟩
theorem bbelow7_ok (w : World) : Ok Tryz.prog 157 #[.int .i64 7] w fun v w' => ∃ a c, v = .agg (encSV ⟨a, c, 127⟩).toArray ∧ Sl encU 1 (Fsh w w') w' a c (wl 127) ∧ Ext False w w' := by
 refine Qv 35 func157 rfl rfl rfl ?_
 have hX := xRf w
 refine Qf (Qb (QH rfl (Q4 zeroValue32) ?_))
 intro b2 w1 x2 hge2 hb2
 have hlt2 := hb2.lt
 have z3 := x2.size
 replace hX := hX.ex x2
 refine Qc (Qf (Qb (Rr (mvI rfl) (Rr (o_maxI (a := 7) (b := 0) rfl rfl) (Rr (o_min (a := 7) (b := 4096) rfl rfl) (Rr (asI rfl) (Qc (Qf (Qb ?_)))))))))
 obtain ⟨n0, hn0⟩ : ∃ n, n = w1.heap.size := ⟨_, rfl⟩
 refine Rr (mvI rfl) (Rr (QO rfl rfl omg) ?_)
 refine Rr (o_quoT (a := 70) (b := 64) rfl rfl (by decide) (by decide) (by unfold I64; decide)) ?_
 refine Z8 (m := 1) (0 : W64) rfl Zh Jh rfl rfl rfl (by decide) ?_
 intro a11 w4 x5 hown11
 have z6 := x5.size
 replace hX := hX.ex x5
 replace hb2 := hb2.ext x5
 replace hown11 := hown11.mono (D' := fun g => n0 ≤ g) (fun g h1 h2 => by omega)
 refine Rr (asS rfl) (Qc (Qf (Qf (Qb (Rr (mvS rfl) (Rr (QC underlying30 rfl) (Rr QP (Qc (Qt (QU (α := Nat) [(4, 4), (14, 20)] (fun k => [(14, .int .i64 (k : Int))]) (fun k w' => (k ≤ 1) ∧ Bel False (fun g => n0 ≤ g) w4 w' ∧ (Own encU 1 126 (fun g => n0 ≤ g) w' (.slice a11 1 1) [if k = 0 then 0#64 else 18446744073709551615#64])) (fun k => 1 - k) 0 ⟨rfl, trivial⟩ ⟨Nat.zero_le _, Bel.refl _ _, hown11⟩ ?_))))))))))
 rintro k fb9 w8 ⟨hk, hXL7, hown11⟩
 have z10 := Bel.size hXL7
 replace hX := Bel.out hX hXL7 om2
 replace hb2 := hb2.keep hXL7 om1
 refine Qf (Qb (Rr (QM rfl rfl) (Qc (Qf (Qw rfl (fun hc1 => ?_) (fun hc1 => ?_))))))
 ·replace hc1 := dcT hc1
  have hk0 : k = 0 := by omega
  subst hk0
  refine Qp (Qf (Qt (Qf (Qb (Rr (mvI rfl) (Rr (asI rfl) (Qc (Qb (Rr (mvS rfl) (Rr (mvI rfl) (Rr (ZE (i := 0) underlying30 sizeOf126 hown11 rfl rfl (by decide)) (ZG (u := 18446744073709551615#64) rfl Zh sizeOf126 rfl rfl rfl hown11 (by simp) ?_))))))))))))
  intro w11 x12 hown11
  replace hXL7 := Bel.out hXL7 x12 om2
  refine Qc (Qb (Rr (QO rfl rfl omg) (Rr (mvI rfl) (Qc ⟨1, ⟨sT, trivial⟩, oT, ⟨?_, hXL7, ?_⟩, ?_⟩))))
  ·show 1 ≤ 1; omega
  ·exact hown11
  ·omega
 replace hc1 := dcF hc1
 refine QN (QI (Qf (Qf (Qb (Rr (mvI rfl) ?_)))))
 refine Rr (Yq (a := 7) (b := 64) rfl rfl (by decide) (by decide) (by unfold I64; decide)) ?_
 refine Rr (ZM rfl rfl) (Qc (Za rfl (Qb (Rr (mvS rfl) (Rr (mvS rfl) (Rr (QC underlying30 rfl) (Rr (Yh rfl rfl omg) (Rr (mvI rfl) ?_))))))))
 refine Rr (Yq (a := 7) (b := 64) rfl rfl (by decide) (by decide) (by unfold I64; decide)) ?_
 refine Rr (o_shlU (a := BitVec.ofNat 64 1) rfl rfl (by decide)) (Rr (o_subU (b := BitVec.ofNat 64 1) rfl rfl) (Rr (ZE (i := 0) underlying30 sizeOf126 hown11 rfl rfl (by decide)) (ZG (u := 127#64) rfl Zh sizeOf126 rfl rfl rfl hown11 (by simp) ?_)))
 intro w14 x15 hown11
 have z16 := x15.size
 replace hX := Bel.out hX x15 om2
 replace hb2 := hb2.keep x15 om1
 refine Qc (Qf (Qb (Rr (mvS rfl) (Rr (Q2 (cells := encSV ⟨a11, 1, 127⟩) (vs := [(0, .slice _ _ _)]) rfl (by kernel_rfl)) (QS (v := .agg _) rfl sizeOf32 rfl rfl hb2 rfl rfl rfl ?_)))))
 intro w17 c18 hb2
 have z19 := Bel.size c18
 replace hX := Bel.out hX c18 om2
 replace hown11 := hown11.keepD c18 om3
 refine Qc (Qu ⟨_, ZN (v := .agg _) rfl (Zb isAgg32 sizeOf32 rfl hb2.at rfl), ?_⟩)
 have h := (hown11.slA Zh).mono (F' := Fsh w w17) (fun g h1 h2 => ⟨by omega, by omega⟩)
 exact ⟨_, _, rfl, h, hX⟩
theorem bminus6_ok (a : Option Addr) (c : Nat) (G : Nat → Prop) (a2 : Option Addr) (c2 : Nat) (w : World) (hs : Sl encU 1 G w a c (wl 6)) (ho : OkS a2 c2) : Ok Tryz.prog 163 #[.agg (encSV ⟨a, c, 6⟩).toArray, .agg (encSV ⟨a2, c2, 0⟩).toArray] w fun v w' => ∃ a c, v = .agg (encSV ⟨a, c, 6⟩).toArray ∧ Sl encU 1 (Fsh w w') w' a c (wl 6) ∧ Ext False w w' := by
 replace hs := hs.mono (F' := fun g => g < w.heap.size) (fun g h1 h2 => h1)
 have hl6 : (wl 6).length = 1 := rfl
 refine Qv 31 func163 rfl rfl rfl ?_
 have hX := xRf w
 refine Qf (Qb (QH rfl (QX (v := .agg _) rfl) ?_))
 intro b2 w1 x2 hge2 hb2
 have hlt2 := hb2.lt
 have z3 := x2.size
 replace hX := hX.ex x2
 replace hs := hs.ext x2
 refine QH rfl (QX (v := .agg _) rfl) ?_
 intro b3 w4 x5 hge3 hb3
 have hlt3 := hb3.lt
 have z6 := x5.size
 replace hX := hX.ex x5
 replace hs := hs.ext x5
 replace hb2 := hb2.ext x5
 refine QH rfl (Q4 zeroValue32) ?_
 intro b4 w7 x8 hge4 hb4
 have hlt4 := hb4.lt
 have z9 := x8.size
 replace hX := hX.ex x8
 replace hs := hs.ext x8
 replace hb2 := hb2.ext x8
 replace hb3 := hb3.ext x8
 refine Qc (Qf (Qb (Rr (Qy underlying32 rfl sizeOf30 rfl) (Rr (Qm isAgg30 rfl (hb2.at.get 0 rfl)) (Rr (QC underlying30 rfl) ?_)))))
 obtain ⟨n0, hn0⟩ : ∃ n, n = w7.heap.size := ⟨_, rfl⟩
 refine Z8 (m := 1) (0 : W64) rfl Zh Jh rfl rfl rfl (by decide) ?_
 intro a10 w10 x11 hown10
 have z12 := x11.size
 replace hX := hX.ex x11
 replace hs := hs.ext x11
 replace hb2 := hb2.ext x11
 replace hb3 := hb3.ext x11
 replace hb4 := hb4.ext x11
 replace hown10 := hown10.mono (D' := fun g => n0 ≤ g) (fun g h1 h2 => by omega)
 refine Rr (asS rfl) (Qc (Qf (Qf (Qb (Rr (mvS rfl) (Rr (QC underlying30 rfl) (Rr QP (Qc (Qt (QU (α := Nat) [(6, 6), (13, 28)] (fun k => [(13, .int .i64 (k : Int))]) (fun k w' => (k ≤ 1) ∧ Bel False (fun g => n0 ≤ g) w10 w' ∧ (Own encU 1 126 (fun g => n0 ≤ g) w' (.slice a10 1 1) [if k = 0 then 0#64 else 6#64])) (fun k => 1 - k) 0 ⟨rfl, trivial⟩ ⟨Nat.zero_le _, Bel.refl _ _, hown10⟩ ?_))))))))))
 rintro k fb15 w14 ⟨hk, hXL13, hown10⟩
 have z16 := Bel.size hXL13
 replace hX := Bel.out hX hXL13 om2
 replace hs := hs.keep hXL13 om3
 replace hb2 := hb2.keep hXL13 om1
 replace hb3 := hb3.keep hXL13 om1
 replace hb4 := hb4.keep hXL13 om1
 refine Qf (Qb (Rr (QM rfl rfl) (Qc (Qf (Qw rfl (fun hc1 => ?_) (fun hc1 => ?_))))))
 ·replace hc1 := dcT hc1
  have hk0 : k = 0 := by omega
  subst hk0
  refine Qp (Qf (Qt (Qf (Qb (Rr (mvI rfl) (Rr (asI rfl) (Qc ?_)))))))
  apply Q3 (β := False) [peq _, peq _, peq _, peq _, peq _, peq _, peq _, peq _, peq _, peq _, peq _, peq _] 12 QV (by kernel_rfl) rfl ⟨Qd _, Qd _, Qd _, Qd _, Qd _, Qd _, Qd _, Qd _, Qd _, Qd _, Qd _, Qd _, trivial⟩ ?ob5 ?fin5
  case ob5 =>
   refine Qg (fun _ _ => Qe (Qn rfl (mvS rfl))) (Qg (fun _ _ => Qe (Qn rfl (mvI rfl))) (Qg (fun _ _ => Qe (Qn rfl (Qy underlying32 rfl sizeOf30 rfl))) (Qg (fun w26 x27 => ?_) ?_)))
   ·have hb2 := hb2.ext x27
    exact Qa (Qe (Qn rfl (Qm isAgg30 rfl (hb2.at.get 0 rfl))))
   refine Qg (fun _ _ => Qe (Qn rfl (mvI rfl))) (Qg (fun w32 x33 => ?_) ?_)
   ·have hs := hs.ext x33
    exact Qa (Qa (Qe (Qn rfl (QW underlying30 sizeOf126 hs rfl rfl omg))))
   refine Qg (fun w35 x36 => ?_) ?_
   ·have hs := hs.ext x36
    exact Qa (Qe (Qn rfl (Zx isAgg126 hs rfl rfl (show (wl 6)[0]? = some (6 : W64) from rfl) rfl)))
   refine Qg (fun w38 x39 => ?_) ?_
   ·have hb3 := hb3.ext x39
    exact Qe (Qn rfl (QF isAgg32 sizeOf32 rfl hb3.at rfl))
   refine Qg (fun _ _ => Qe (Qn rfl (mvI rfl))) (Qg (fun _ _ => Qa (Qa (Qe (Zj rfl (QB call120 rfl rfl) (JW _ ⟨a2, c2, 0⟩ (fun _ => True) ho.set 0))))) (Qg (fun _ _ => Qa (Qa (Qe (Qn rfl (o_bandn rfl rfl))))) (Qg (fun w50 x51 => ?_) ?_)))
   ·have hown10 := hown10.ext x51
    exact Qa (Qa (Qa (Qa (Qa (Qa (Qa (Qa (Qa (Qa (Qa (Qa (Qa (Qe (Qn rfl (ZE (i := 0) underlying30 sizeOf126 hown10 rfl rfl (by decide))))))))))))))))
   exact QR
  case fin5 =>
   intro w53 x54
   replace hXL13 := Bel.ex hXL13 x54
   replace hown10 := hown10.ext x54
   refine Qa (Qa (Qa (Qa (Qa (Qa (Qa (Qa (Qa (Qa (Qa (Qa (Qe (ZG (u := ((6 : W64) &&& ~~~((wl 0).getD 0 0))) rfl Zh sizeOf126 rfl rfl rfl hown10 (by simp) ?_)))))))))))))
   intro w56 x57 hown10
   replace hXL13 := Bel.out hXL13 x57 om2
   rw [show ((6 : W64) &&& ~~~((wl 0).getD 0 0)) = 6#64 by decide] at hown10
   refine Qc (Qb (Rr (QO rfl rfl omg) (Rr (mvI rfl) (Qc ⟨1, ⟨sT, trivial⟩, oT, ⟨?_, hXL13, ?_⟩, ?_⟩))))
   ·show 1 ≤ 1; omega
   ·exact hown10
   ·omega
 replace hc1 := dcF hc1
 refine QN (QI (Qf (Qb ?_)))
 obtain rfl : k = 1 := by omega
 rw [if_neg (by decide)] at hown10
 refine Rr (mvS rfl) (Qo rfl (QD call71 rfl) (Ok.mono (Yk _ _ _ [6] _ (hown10.slA Zh) (by simp)) ?_))
 rintro _ w59 ⟨rfl, x60⟩
 have z61 := x60.size
 replace hX := hX.ex x60
 replace hb4 := hb4.ext x60
 replace hown10 := hown10.ext x60
 refine QS (v := .agg _) rfl sizeOf32 rfl rfl hb4 rfl rfl rfl ?_
 intro w62 c63 hb4
 have z64 := Bel.size c63
 replace hX := Bel.out hX c63 om2
 replace hown10 := hown10.keepD c63 om3
 refine Qc (Qu ⟨_, ZN (v := .agg _) rfl (Zb isAgg32 sizeOf32 rfl hb4.at rfl), ?_⟩)
 have h := Vh (hown10.slA Zh) (by simp)
 exact ⟨_, _, rfl, h.mono (fun g h1 h2 => ⟨by omega, by omega⟩), hX⟩
theorem bminus126_ok (a : Option Addr) (c : Nat) (G : Nat → Prop) (a2 : Option Addr) (c2 : Nat) (w : World) (hs : Sl encU 1 G w a c (wl 126)) (ho : OkS a2 c2) : Ok Tryz.prog 163 #[.agg (encSV ⟨a, c, 126⟩).toArray, .agg (encSV ⟨a2, c2, 0⟩).toArray] w fun v w' => ∃ a c, v = .agg (encSV ⟨a, c, 126⟩).toArray ∧ Sl encU 1 (Fsh w w') w' a c (wl 126) ∧ Ext False w w' := by
 replace hs := hs.mono (F' := fun g => g < w.heap.size) (fun g h1 h2 => h1)
 have hl6 : (wl 126).length = 1 := rfl
 refine Qv 31 func163 rfl rfl rfl ?_
 have hX := xRf w
 refine Qf (Qb (QH rfl (QX (v := .agg _) rfl) ?_))
 intro b2 w1 x2 hge2 hb2
 have hlt2 := hb2.lt
 have z3 := x2.size
 replace hX := hX.ex x2
 replace hs := hs.ext x2
 refine QH rfl (QX (v := .agg _) rfl) ?_
 intro b3 w4 x5 hge3 hb3
 have hlt3 := hb3.lt
 have z6 := x5.size
 replace hX := hX.ex x5
 replace hs := hs.ext x5
 replace hb2 := hb2.ext x5
 refine QH rfl (Q4 zeroValue32) ?_
 intro b4 w7 x8 hge4 hb4
 have hlt4 := hb4.lt
 have z9 := x8.size
 replace hX := hX.ex x8
 replace hs := hs.ext x8
 replace hb2 := hb2.ext x8
 replace hb3 := hb3.ext x8
 refine Qc (Qf (Qb (Rr (Qy underlying32 rfl sizeOf30 rfl) (Rr (Qm isAgg30 rfl (hb2.at.get 0 rfl)) (Rr (QC underlying30 rfl) ?_)))))
 obtain ⟨n0, hn0⟩ : ∃ n, n = w7.heap.size := ⟨_, rfl⟩
 refine Z8 (m := 1) (0 : W64) rfl Zh Jh rfl rfl rfl (by decide) ?_
 intro a10 w10 x11 hown10
 have z12 := x11.size
 replace hX := hX.ex x11
 replace hs := hs.ext x11
 replace hb2 := hb2.ext x11
 replace hb3 := hb3.ext x11
 replace hb4 := hb4.ext x11
 replace hown10 := hown10.mono (D' := fun g => n0 ≤ g) (fun g h1 h2 => by omega)
 refine Rr (asS rfl) (Qc (Qf (Qf (Qb (Rr (mvS rfl) (Rr (QC underlying30 rfl) (Rr QP (Qc (Qt (QU (α := Nat) [(6, 6), (13, 28)] (fun k => [(13, .int .i64 (k : Int))]) (fun k w' => (k ≤ 1) ∧ Bel False (fun g => n0 ≤ g) w10 w' ∧ (Own encU 1 126 (fun g => n0 ≤ g) w' (.slice a10 1 1) [if k = 0 then 0#64 else 126#64])) (fun k => 1 - k) 0 ⟨rfl, trivial⟩ ⟨Nat.zero_le _, Bel.refl _ _, hown10⟩ ?_))))))))))
 rintro k fb15 w14 ⟨hk, hXL13, hown10⟩
 have z16 := Bel.size hXL13
 replace hX := Bel.out hX hXL13 om2
 replace hs := hs.keep hXL13 om3
 replace hb2 := hb2.keep hXL13 om1
 replace hb3 := hb3.keep hXL13 om1
 replace hb4 := hb4.keep hXL13 om1
 refine Qf (Qb (Rr (QM rfl rfl) (Qc (Qf (Qw rfl (fun hc1 => ?_) (fun hc1 => ?_))))))
 ·replace hc1 := dcT hc1
  have hk0 : k = 0 := by omega
  subst hk0
  refine Qp (Qf (Qt (Qf (Qb (Rr (mvI rfl) (Rr (asI rfl) (Qc ?_)))))))
  apply Q3 (β := False) [peq _, peq _, peq _, peq _, peq _, peq _, peq _, peq _, peq _, peq _, peq _, peq _] 12 QV (by kernel_rfl) rfl ⟨Qd _, Qd _, Qd _, Qd _, Qd _, Qd _, Qd _, Qd _, Qd _, Qd _, Qd _, Qd _, trivial⟩ ?ob5 ?fin5
  case ob5 =>
   refine Qg (fun _ _ => Qe (Qn rfl (mvS rfl))) (Qg (fun _ _ => Qe (Qn rfl (mvI rfl))) (Qg (fun _ _ => Qe (Qn rfl (Qy underlying32 rfl sizeOf30 rfl))) (Qg (fun w26 x27 => ?_) ?_)))
   ·have hb2 := hb2.ext x27
    exact Qa (Qe (Qn rfl (Qm isAgg30 rfl (hb2.at.get 0 rfl))))
   refine Qg (fun _ _ => Qe (Qn rfl (mvI rfl))) (Qg (fun w32 x33 => ?_) ?_)
   ·have hs := hs.ext x33
    exact Qa (Qa (Qe (Qn rfl (QW underlying30 sizeOf126 hs rfl rfl omg))))
   refine Qg (fun w35 x36 => ?_) ?_
   ·have hs := hs.ext x36
    exact Qa (Qe (Qn rfl (Zx isAgg126 hs rfl rfl (show (wl 126)[0]? = some (126 : W64) from rfl) rfl)))
   refine Qg (fun w38 x39 => ?_) ?_
   ·have hb3 := hb3.ext x39
    exact Qe (Qn rfl (QF isAgg32 sizeOf32 rfl hb3.at rfl))
   refine Qg (fun _ _ => Qe (Qn rfl (mvI rfl))) (Qg (fun _ _ => Qa (Qa (Qe (Zj rfl (QB call120 rfl rfl) (JW _ ⟨a2, c2, 0⟩ (fun _ => True) ho.set 0))))) (Qg (fun _ _ => Qa (Qa (Qe (Qn rfl (o_bandn rfl rfl))))) (Qg (fun w50 x51 => ?_) ?_)))
   ·have hown10 := hown10.ext x51
    exact Qa (Qa (Qa (Qa (Qa (Qa (Qa (Qa (Qa (Qa (Qa (Qa (Qa (Qe (Qn rfl (ZE (i := 0) underlying30 sizeOf126 hown10 rfl rfl (by decide))))))))))))))))
   exact QR
  case fin5 =>
   intro w53 x54
   replace hXL13 := Bel.ex hXL13 x54
   replace hown10 := hown10.ext x54
   refine Qa (Qa (Qa (Qa (Qa (Qa (Qa (Qa (Qa (Qa (Qa (Qa (Qe (ZG (u := ((126 : W64) &&& ~~~((wl 0).getD 0 0))) rfl Zh sizeOf126 rfl rfl rfl hown10 (by simp) ?_)))))))))))))
   intro w56 x57 hown10
   replace hXL13 := Bel.out hXL13 x57 om2
   rw [show ((126 : W64) &&& ~~~((wl 0).getD 0 0)) = 126#64 by decide] at hown10
   refine Qc (Qb (Rr (QO rfl rfl omg) (Rr (mvI rfl) (Qc ⟨1, ⟨sT, trivial⟩, oT, ⟨?_, hXL13, ?_⟩, ?_⟩))))
   ·show 1 ≤ 1; omega
   ·exact hown10
   ·omega
 replace hc1 := dcF hc1
 refine QN (QI (Qf (Qb ?_)))
 obtain rfl : k = 1 := by omega
 rw [if_neg (by decide)] at hown10
 refine Rr (mvS rfl) (Qo rfl (QD call71 rfl) (Ok.mono (Yk _ _ _ [126] _ (hown10.slA Zh) (by simp)) ?_))
 rintro _ w59 ⟨rfl, x60⟩
 have z61 := x60.size
 replace hX := hX.ex x60
 replace hb4 := hb4.ext x60
 replace hown10 := hown10.ext x60
 refine QS (v := .agg _) rfl sizeOf32 rfl rfl hb4 rfl rfl rfl ?_
 intro w62 c63 hb4
 have z64 := Bel.size c63
 replace hX := Bel.out hX c63 om2
 replace hown10 := hown10.keepD c63 om3
 refine Qc (Qu ⟨_, ZN (v := .agg _) rfl (Zb isAgg32 sizeOf32 rfl hb4.at rfl), ?_⟩)
 have h := Vh (hown10.slA Zh) (by simp)
 exact ⟨_, _, rfl, h.mono (fun g h1 h2 => ⟨by omega, by omega⟩), hX⟩
theorem Yc (v0 : Value) (n : Nat) (w : World) (hn : NtIs w v0 n) : Ok Tryz.prog 99 #[v0] w fun v w' => v = .int .i64 (n : Int) ∧ Ext False w w' := by
 obtain ⟨pb, a, c, m, rfl, hb, hle⟩ := hn
 refine Qv 10 func99 rfl rfl rfl ?_
 have hX := xRf w
 refine Qf (Qb (Rr Qj (Qc (Qf (Qf (Qb (Rr (mvP rfl) (Rr (Zi underlying29 rfl rfl) (Qc (Qq rfl (Qp (Qf (Qb (Rr (mvP rfl) (Rr (QJ rfl) (Rr (Qy underlying101 rfl sizeOf23 rfl) (Rr (Qm isAgg23 rfl (hb.get 0 rfl)) (Rr (QC underlying23 rfl) (Rr (asI rfl) (Qc (Qu ⟨_, Qr rfl rfl, ⟨congrArg (Value.int .i64) ?_, hX⟩⟩)))))))))))))))))))))
 all_goals (rfl)
theorem proles2_ok (p : PtV) (w : World) (hr : NtIs w (pB p.rs) 2) : Ok Tryz.prog 101 #[.agg (ptC p).toArray] w fun v w' => ∃ a c, v = .agg (encSV ⟨a, c, 6⟩).toArray ∧ Sl encU 1 (Fsh w w') w' a c (wl 6) ∧ Ext False w w' := by
 refine Qv 9 func101 rfl rfl rfl ?_
 have hX := xRf w
 refine Qf (Qb (QH rfl (QX (v := .agg _) rfl) ?_))
 intro b1 w1 x2 hge1 hb1
 have hlt1 := hb1.lt
 have z3 := x2.size
 replace hX := hX.ex x2
 replace hr := hr.ext x2
 refine QH rfl (Q4 zeroValue32) ?_
 intro b2 w4 x5 hge2 hb2
 have hlt2 := hb2.lt
 have z6 := x5.size
 replace hX := hX.ex x5
 replace hr := hr.ext x5
 replace hb1 := hb1.ext x5
 refine Qc (Qf (Qb (Rr (Qy underlying39 rfl sizeOf29 rfl) (Rr (Qm isAgg29 rfl (hb1.at.get 2 rfl)) (Qo rfl (QD call99 rfl) (Ok.mono (Yc _ 2 _ hr) ?_))))))
 rintro _ w7 ⟨rfl, x8⟩
 have z9 := x8.size
 replace hX := hX.ex x8
 replace hb2 := hb2.ext x8
 refine Rr (ZB (p := 2) (b := 1) rfl rfl (by decide)) (Qo rfl (QD call157 rfl) (Ok.mono (bbelow3_ok _) ?_))
 rintro _ w10 ⟨a7, c7, rfl, hq7, x11⟩
 have z12 := x11.size
 replace hX := hX.ex x11
 replace hb2 := hb2.ext x11
 refine Qo rfl (QB call158 rfl rfl) (Ok.mono (bwithout_ok _ ⟨a7, c7, 7⟩ _ hq7 0 (by decide) (show (7 : W64).getLsbD 0 = true by decide)) ?_)
 rintro _ w13 ⟨a8, c8, rfl, hq8, x14⟩
 have z15 := x14.size
 replace hX := hX.ex x14
 replace hb2 := hb2.ext x14
 refine QS (v := .agg _) rfl sizeOf32 rfl rfl hb2 rfl rfl rfl ?_
 intro w16 c17 hb2
 have z18 := Bel.size c17
 replace hX := Bel.out hX c17 om2
 replace hq8 := hq8.keep c17 om3
 refine Qc (Qu ⟨_, ZN (v := .agg _) rfl (Zb isAgg32 sizeOf32 rfl hb2.at rfl), ?_⟩)
 rw [show (7 : W64) &&& ~~~(oneW 0) = 6 by decide] at hq8 ⊢
 exact ⟨_, _, rfl, hq8.mono (fun g h1 h2 => ⟨by omega, by omega⟩), hX⟩
theorem proles6_ok (p : PtV) (w : World) (hr : NtIs w (pB p.rs) 6) : Ok Tryz.prog 101 #[.agg (ptC p).toArray] w fun v w' => ∃ a c, v = .agg (encSV ⟨a, c, 126⟩).toArray ∧ Sl encU 1 (Fsh w w') w' a c (wl 126) ∧ Ext False w w' := by
 refine Qv 9 func101 rfl rfl rfl ?_
 have hX := xRf w
 refine Qf (Qb (QH rfl (QX (v := .agg _) rfl) ?_))
 intro b1 w1 x2 hge1 hb1
 have hlt1 := hb1.lt
 have z3 := x2.size
 replace hX := hX.ex x2
 replace hr := hr.ext x2
 refine QH rfl (Q4 zeroValue32) ?_
 intro b2 w4 x5 hge2 hb2
 have hlt2 := hb2.lt
 have z6 := x5.size
 replace hX := hX.ex x5
 replace hr := hr.ext x5
 replace hb1 := hb1.ext x5
 refine Qc (Qf (Qb (Rr (Qy underlying39 rfl sizeOf29 rfl) (Rr (Qm isAgg29 rfl (hb1.at.get 2 rfl)) (Qo rfl (QD call99 rfl) (Ok.mono (Yc _ 6 _ hr) ?_))))))
 rintro _ w7 ⟨rfl, x8⟩
 have z9 := x8.size
 replace hX := hX.ex x8
 replace hb2 := hb2.ext x8
 refine Rr (ZB (p := 6) (b := 1) rfl rfl (by decide)) (Qo rfl (QD call157 rfl) (Ok.mono (bbelow7_ok _) ?_))
 rintro _ w10 ⟨a7, c7, rfl, hq7, x11⟩
 have z12 := x11.size
 replace hX := hX.ex x11
 replace hb2 := hb2.ext x11
 refine Qo rfl (QB call158 rfl rfl) (Ok.mono (bwithout_ok _ ⟨a7, c7, 127⟩ _ hq7 0 (by decide) (show (127 : W64).getLsbD 0 = true by decide)) ?_)
 rintro _ w13 ⟨a8, c8, rfl, hq8, x14⟩
 have z15 := x14.size
 replace hX := hX.ex x14
 replace hb2 := hb2.ext x14
 refine QS (v := .agg _) rfl sizeOf32 rfl rfl hb2 rfl rfl rfl ?_
 intro w16 c17 hb2
 have z18 := Bel.size c17
 replace hX := Bel.out hX c17 om2
 replace hq8 := hq8.keep c17 om3
 refine Qc (Qu ⟨_, ZN (v := .agg _) rfl (Zb isAgg32 sizeOf32 rfl hb2.at rfl), ?_⟩)
 rw [show (127 : W64) &&& ~~~(oneW 0) = 126 by decide] at hq8 ⊢
 exact ⟨_, _, rfl, hq8.mono (fun g h1 h2 => ⟨by omega, by omega⟩), hX⟩
theorem proles_ok (p : PtV) (s : StV) (w : World) (hr : NtM w (pB p.rs) s.rs) (hm : s.rs.length = 2 ∨ s.rs.length = 6) : Ok Tryz.prog 101 #[.agg (ptC p).toArray] w fun v w' => ∃ a c, v = .agg (encSV ⟨a, c, allW s.rs.length⟩).toArray ∧ Sl encU 1 (Fsh w w') w' a c (wl (allW s.rs.length)) ∧ Ext False w w' := by
 have h := hr.is
 rcases hm with e | e
 ·rw [e] at h ⊢; exact proles2_ok p w h
 ·rw [e] at h ⊢; exact proles6_ok p w h
theorem plists_ok (p : PtV) (w : World) (ho : OkS p.ar p.cr) : Ok Tryz.prog 39 #[.agg (ptC p).toArray] w fun v w' => (∃ a, v = .agg (ptC (ptL p a)).toArray) ∧ Ext False w w' := by
 refine Qv 46 func39 rfl rfl rfl ?_
 have hX := xRf w
 refine Qf (Qb (QH rfl (QX (v := .agg _) rfl) ?_))
 intro b1 w1 x2 hge1 hb1
 have hlt1 := hb1.lt
 have z3 := x2.size
 replace hX := hX.ex x2
 refine QH rfl (Q4 zeroValue39) ?_
 intro b2 w4 x5 hge2 hb2
 have hlt2 := hb2.lt
 have z6 := x5.size
 replace hX := hX.ex x5
 replace hb1 := hb1.ext x5
 refine Qc (Qf (Qb ?_))
 obtain ⟨n0, hn0⟩ : ∃ n, n = w4.heap.size := ⟨_, rfl⟩
 refine Rr (Qy underlying39 rfl sizeOf35 rfl) (Rr (Qm isAgg35 rfl (hb1.at.get 7 rfl)) (Rr (QC underlying35 rfl) (Z8 (m := 0) () rfl encRul_ok el_rul rfl rfl rfl (by decide) ?_)))
 intro a10 w7 x8 hown10
 have z9 := x8.size
 replace hX := hX.ex x8
 replace hb1 := hb1.ext x8
 replace hb2 := hb2.ext x8
 replace hown10 := hown10.mono (D' := fun g => n0 ≤ g) (fun g h1 h2 => by omega)
 refine Rr (asS rfl) (Qc (Qf (Qb (Rr (mvS rfl) (Rr (Qy underlying39 rfl sizeOf35 rfl) (Rr (Qm isAgg35 rfl (hb1.at.get 7 rfl)) ?_))))))
 refine Jn (o := 0) (m2 := 0) (([] : List Unit)) rfl encRul_ok el_rul rfl rfl hown10 (ho.sl (enc := encRul) (k := 7) (F := fun _ => True)) (by simp; done) (by simp; done) (by simp; done) (by simp; done) ?_
 intro w10 x11 hown10
 have z12 := x11.size
 replace hX := Bel.out hX x11 om2
 replace hb1 := hb1.keep x11 om1
 replace hb2 := hb2.keep x11 om1
 refine Qc (Qf (Qb (Rr (mvS rfl) (Rr (mvS rfl) (Rr (QC underlying35 rfl) (Rr (mvS rfl) (Rr (QC underlying35 rfl) (Rr (o_sl3 (j := 0) (m := 0) underlying35 sizeOf229 rfl rfl rfl (Nat.le_refl _) (Nat.le_refl _)) (Rr (Qy underlying39 rfl sizeOf35 rfl) (Q6 (v := .slice _ _ _) rfl sizeOf35 rfl rfl hb1 rfl rfl rfl ?_))))))))))
 intro w13 c14 hb1
 have z15 := Bel.size c14
 replace hX := Bel.out hX c14 om2
 replace hb2 := hb2.keep c14 om1
 refine Qc (Qf (Qb (Rr Qj (Qc (Qf (Qf (Qb (Rr (Qy underlying39 rfl sizeOf36 rfl) (Rr (Qm isAgg36 rfl (hb1.at.get 8 rfl)) (Rr (QC underlying36 rfl) (Rr QP (Qc (Qt (QU (α := Nat) [(4, 4), (6, 6), (25, 37)] (fun k => [(25, .int .i64 (k : Int)), (4, .slice none 0 0)]) (fun k w' => (True) ∧ Ext False w13 w') (fun k => k) 0 ⟨rfl, rfl, trivial⟩ ⟨trivial, Bel.refl _ _⟩ ?_))))))))))))))
 rintro k fb18 w17 ⟨-, hXL16⟩
 have z19 := Bel.size hXL16
 replace hX := hX.ex hXL16
 replace hb1 := hb1.ext hXL16
 replace hb2 := hb2.ext hXL16
 refine Qf (Qb (Rr (QM rfl rfl) (Qc (Qf (Qq (cvB (decide_eq_false (by omega))) (QN (QI (Qf (Qb (Rr (mvS rfl) (Rr (mvS rfl) (Rr (QC underlying36 rfl) (Rr (mvS rfl) (Rr (QC underlying36 rfl) (Rr (o_sl3 (j := 0) (m := 0) underlying36 sizeOf180 rfl rfl rfl (Nat.le_refl _) (Nat.le_refl _)) (Rr (Qy underlying39 rfl sizeOf36 rfl) (Q6 (v := .slice _ _ _) rfl sizeOf36 rfl rfl hb1 rfl rfl rfl ?_)))))))))))))))))
 intro w20 c21 hb1
 have z22 := Bel.size c21
 replace hX := Bel.out hX c21 om2
 replace hb2 := hb2.keep c21 om1
 refine Qc (Qf (Qb (Rr (QF isAgg39 sizeOf39 rfl hb1.at rfl) (QS (v := .agg _) rfl sizeOf39 rfl rfl hb2 rfl rfl rfl ?_))))
 intro w23 c24 hb2
 have z25 := Bel.size c24
 replace hX := Bel.out hX c24 om2
 exact Qc (Qu ⟨_, ZN (v := .agg _) rfl (Zb isAgg39 sizeOf39 rfl hb2.at rfl), ⟨⟨a10, rfl⟩, hX⟩⟩)
theorem JD (b : Nat) (p : PtV) (w : World) (hb : At w b 0 (ptC p)) (ho : OkS p.ar p.cr) : Ok Tryz.prog 7 #[pB b] w fun v w' => (∃ a, v = .agg (ptC (ptL p a)).toArray) ∧ Ext False w w' := by
 have hbl := hb.lt
 refine Qv 11 func7 rfl rfl rfl ?_
 have hX := xRf w
 refine Qf (Qb (QH rfl (Q4 zeroValue39) ?_))
 intro b2 w1 x2 hge2 hb2
 replace hX := hX.ex x2
 replace hb := hb.ext x2
 refine Qc (Qf (Qf (Qb (Rr (mvP rfl) (Rr (Zi underlying40 rfl rfl) (Qc (Qq rfl (Qp (Qf (Qb (Rr (mvP rfl) (Rr (QJ rfl) (Rr (Qy underlying97 rfl sizeOf39 rfl) (Rr (QF isAgg39 sizeOf39 rfl hb rfl) (Qo rfl (QD call39 rfl) (Ok.mono (plists_ok p _ ho) ?_))))))))))))))))
 rintro _ w4 ⟨⟨a10, rfl⟩, x5⟩
 replace hX := hX.ex x5
 replace hb2 := hb2.ext x5
 refine QS (v := .agg _) rfl sizeOf39 rfl rfl hb2 rfl rfl rfl ?_
 intro w7 c8 hb2
 replace hX := Bel.out hX c8 om2
 exact Qc (Qu ⟨_, ZN (v := .agg _) rfl (Zb isAgg39 sizeOf39 rfl hb2.at rfl), ⟨⟨a10, rfl⟩, hX⟩⟩)
theorem sday_ok (b : Nat) (p : PtV) (s : StV) (w : World) (hb : At w b 0 (ptC p)) (hp : PsIs w p s) : Ok Tryz.prog 105 #[pB b] w fun v w' => v = .int .i64 p.day ∧ Ext False w w' := by
 have hbl := hb.lt
 refine Qv 10 func105 rfl rfl rfl ?_
 have hX := xRf w
 refine Qf (Qb (Rr Qj (Qc (Qf (Qf (Qb (Rr (mvP rfl) (Rr (Zi underlying40 rfl rfl) (Qc (Qq rfl (Qp (Qf (Qb (Rr (mvP rfl) (Rr (QJ rfl) (Rr (Qy underlying97 rfl sizeOf39 rfl) (Rr (Qy underlying39 rfl sizeOf3 rfl) (Rr (Qm isAgg3 rfl (hb.get 0 rfl)) (Rr (asI rfl) (Qc (Qu ⟨_, Qr rfl rfl, ⟨congrArg (Value.int .i64) ?_, hX⟩⟩)))))))))))))))))))))
 all_goals (rfl)
theorem susers_ok (b : Nat) (p : PtV) (s : StV) (w : World) (hb : At w b 0 (ptC p)) (hp : PsIs w p s) : Ok Tryz.prog 109 #[pB b] w fun v w' => v = .int .i64 (s.us.length : Int) ∧ Ext False w w' := by
 have hbl := hb.lt
 refine Qv 11 func109 rfl rfl rfl ?_
 have hX := xRf w
 refine Qf (Qb (Rr Qj (Qc (Qf (Qf (Qb (Rr (mvP rfl) (Rr (Zi underlying40 rfl rfl) (Qc (Qq rfl (Qp (Qf (Qb (Rr (mvP rfl) (Rr (QJ rfl) (Rr (Qy underlying97 rfl sizeOf39 rfl) (Rr (Qy underlying39 rfl sizeOf29 rfl) (Rr (Qm isAgg29 rfl (hb.get 1 rfl)) (Qo rfl (QD call99 rfl) (Ok.mono (Yc _ _ _ hp.us.is) ?_))))))))))))))))))))
 rintro _ w1 ⟨rfl, x2⟩
 replace hX := hX.ex x2
 refine Rr (asI rfl) (Qc (Qu ⟨_, Qr rfl rfl, ⟨congrArg (Value.int .i64) ?_, hX⟩⟩))
 all_goals (rfl)
theorem J0 (b : Nat) (p : PtV) (s : StV) (w : World) (hb : At w b 0 (ptC p)) (hp : PsIs w p s) : Ok Tryz.prog 107 #[pB b] w fun v w' => v = .int .i64 (s.rs.length : Int) ∧ Ext False w w' := by
 have hbl := hb.lt
 refine Qv 11 func107 rfl rfl rfl ?_
 have hX := xRf w
 refine Qf (Qb (Rr Qj (Qc (Qf (Qf (Qb (Rr (mvP rfl) (Rr (Zi underlying40 rfl rfl) (Qc (Qq rfl (Qp (Qf (Qb (Rr (mvP rfl) (Rr (QJ rfl) (Rr (Qy underlying97 rfl sizeOf39 rfl) (Rr (Qy underlying39 rfl sizeOf29 rfl) (Rr (Qm isAgg29 rfl (hb.get 2 rfl)) (Qo rfl (QD call99 rfl) (Ok.mono (Yc _ _ _ hp.rs.is) ?_))))))))))))))))))))
 rintro _ w1 ⟨rfl, x2⟩
 replace hX := hX.ex x2
 refine Rr (asI rfl) (Qc (Qu ⟨_, Qr rfl rfl, ⟨congrArg (Value.int .i64) ?_, hX⟩⟩))
 all_goals (rfl)
set_option maxHeartbeats 1100000 in
theorem sexpl_ok (b : Nat) (p : PtV) (s : StV) (w : World) (hb : At w b 0 (ptC p)) (hp : PsIs w p s) (hm : OkN s.mb) (u : Int) (hu : 1 ≤ u ∧ u ≤ s.us.length) : Ok Tryz.prog 110 #[pB b, .int .i64 u] w fun v w' => ∃ a c, v = .agg (encSV ⟨a, c, onW s.mb u p.day⟩).toArray ∧ Sl encU 1 (Fsh w w') w' a c (wl (onW s.mb u p.day)) ∧ Ext False w w' := by
 have hbl := hb.lt
 refine Qv 30 func110 rfl rfl rfl ?_
 have hX := xRf w
 refine Qf (Qb (QH rfl (Q4 zeroValue32) ?_))
 intro b4 w1 x2 hge4 hb4
 have hlt4 := hb4.lt
 have z3 := x2.size
 replace hX := hX.ex x2
 replace hb := hb.ext x2
 replace hp := hp.ext x2
 refine Qc (Qf (Qf (Qb (Rr (mvP rfl) (Rr (Zi underlying40 rfl rfl) (Rr (mvB rfl) (QA 2 7 rfl rfl (Rr (mvI rfl) (QA 2 7 rfl rfl (Rr (QM rfl rfl) (Rr (Q0 (v := .bool _) rfl rfl) (Rr (mvB rfl) (Qs 6 11 rfl rfl rfl (fun hg => mvI rfl) (Qs 6 11 rfl rfl rfl (fun hg => mvP rfl) (Zy 6 11 rfl rfl rfl (fun hg => ⟨(QD call109 (QK (u := undef) hg)), susers_ok b p s _ hb hp⟩) ?_)))))))))))))))
 intro w4 x5
 have z6 := x5.size
 replace hX := hX.ex x5
 replace hb := hb.ext x5
 replace hp := hp.ext x5
 replace hb4 := hb4.ext x5
 refine Qs 6 11 rfl rfl rfl (fun hg => ZM (QK (u := undef) hg) (QK (u := undef) hg)) (Rr (ZS (u := undef) rfl rfl) (Qc ?_))
 refine Qq (cvB (by simp; omega)) ?_
 refine Qp (Qf ?_)
 obtain ⟨n1, hn1⟩ : ∃ n, n = w4.heap.size := ⟨_, rfl⟩
 apply Zl (β := False) (fun _ => 0) [peqC _, peqC _, peqC _, peqC _, peqC _, peqC _, peqC _, peqC _, peqC _, peqC _, peqC _, (postW (SvN n1 (onW s.mb u p.day)))] [0, 0, 0, 0, 0, 0, 0, 0, 0, 0, 0, 0] 12 QV (by kernel_rfl) (by kernel_rfl) rfl ⟨Qk _ _, Qk _ _, Qk _ _, Qk _ _, Qk _ _, Qk _ _, Qk _ _, Qk _ _, Qk _ _, Qk _ _, Qk _ _, (ZA (SvN.keepS _ _)), trivial⟩ ?ob3 ?fin3
 case ob3 =>
  refine Ql (fun w7 c9 x8 hc010 hk11 => Qi (Qx rfl (mvP rfl))) (Ql (fun w13 c15 x14 hc016 hk17 => Qh (Qi (Qx rfl (QJ rfl)))) (Ql (fun w19 c21 x20 hc022 hk23 => Qh (Qi (Qx rfl (Qy underlying97 rfl sizeOf39 rfl)))) (Ql (fun w25 c27 x26 hc028 hk29 => Qh (Qi (Qx rfl (Qy underlying39 rfl sizeOf34 rfl)))) (Ql (fun w31 c33 x32 hc034 hk35 => ?_) ?_))))
  ·replace x32 := RelG.ext0 x32
   have hb := hb.ext x32
   exact Qh (Qi (Qx rfl (Qm isAgg34 rfl (hb.get 5 rfl))))
  refine Ql (fun w37 c39 x38 hc040 hk41 => Qi (Qx rfl (mvI rfl))) (Ql (fun w43 c45 x44 hc046 hk47 => Qi (Qx rfl (mvP rfl))) (Ql (fun w49 c51 x50 hc052 hk53 => Qh (Qi (Qx rfl (QJ rfl)))) (Ql (fun w55 c57 x56 hc058 hk59 => Qh (Qi (Qx rfl (Qy underlying97 rfl sizeOf39 rfl)))) (Ql (fun w61 c63 x62 hc064 hk65 => Qh (Qi (Qx rfl (Qy underlying39 rfl sizeOf3 rfl)))) (Ql (fun w67 c69 x68 hc070 hk71 => ?_) ?_)))))
  ·replace x68 := RelG.ext0 x68
   have hb := hb.ext x68
   exact Qh (Qi (Qx rfl (Qm isAgg3 rfl (hb.get 0 rfl))))
  refine Ql (fun w73 c75 x74 hc076 hk77 => ?_) ?_
  ·replace x74 := RelG.ext0 x74
   have z78 := x74.size
   have hp := hp.ext x74
   refine Qh (Qh (Qh (Qi ?_)))
   exact Yt (S := SvN n1 (onW s.mb u p.day)) rfl (Zg call170 rfl rfl rfl) ((mon_ok _ s.mb _ hp.mb hm u p.day).mono (fun v w2 ⟨a, c, h1, h2, x⟩ => ⟨⟨fun g hg => by have := hg.1; omega, a, c, h1, h2⟩, x⟩))
  exact Q8
 case fin3 =>
  intro w79 c81 x80 hc082
  replace x80 := RelG.ext0 x80
  have z83 := x80.size
  replace hX := hX.ex x80
  replace hb4 := hb4.ext x80
  refine Qh (Qh (Qh (Qh (Qh (Qh (Qh (Qh (Qh (Qh (Qh (Qz (fun v29 hv29 => Qi ?_))))))))))))
  obtain ⟨F29, hF29, hn29, a29, c29, rfl, hq29⟩ := hv29
  replace hq29 := hq29.mono (F' := fun g => n1 ≤ g) (fun g _ h => hn29 g h)
  refine QS (v := .agg _) rfl sizeOf32 rfl rfl hb4 rfl rfl rfl ?_
  intro w84 c85 hb4
  have z86 := Bel.size c85
  replace hX := Bel.out hX c85 om2
  replace hq29 := hq29.keep c85 om3
  exact Qc (Qu ⟨_, ZN (v := .agg _) rfl (Zb isAgg32 sizeOf32 rfl hb4.at rfl), ⟨_, _, rfl, hq29.mono (fun g h1 h2 => ⟨by omega, h1⟩), hX⟩⟩)
