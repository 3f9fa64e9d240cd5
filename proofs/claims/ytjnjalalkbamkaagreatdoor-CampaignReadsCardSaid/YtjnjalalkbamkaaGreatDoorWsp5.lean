/- Walks: what functions return. -/
import Derived.Test.YtjnjalalkbamkaaGreatDoorWnt5
import Derived.Test.YtjnjalalkbamkaaGreatDoorWmb5
import Derived.Test.YtjnjalalkbamkaaGreatDoorSe
import Derived.Test.YtjnjalalkbamkaaGreatDoorWses2
import Derived.Test.YtjnjalalkbamkaaGreatDoorWgr
import Derived.Test.YtjnjalalkbamkaaGreatDoorWnew
import Derived.Test.YtjnjalalkbamkaaGreatDoorWod
set_option linter.unusedVariables false
set_option linter.unusedSimpArgs false
set_option linter.unnecessarySimpa false
namespace Go.Proofs.YtjnjalalkbamkaaGreatDoor
open Go Go.Lx Go.RowKit Tryz
set_option maxRecDepth 100000
theorem el_rul : ElT Tryz.prog 87 228 7 104 (.agg #[.bool false, .int .i64 0, .int .i64 0, .slice none 0 0, .slice none 0 0, .slice none 0 0, .int .i64 0]) := ⟨underlying87, ⟨Tryz.t228, by kernel_rfl, rfl, rfl, rfl⟩, rfl, by decide, by decide⟩
theorem bbelow3_ok (w : World) : Ok Tryz.prog 134 #[.int .i64 3] w fun v w' => ∃ a c, v = .agg (encSV ⟨a, c, 7⟩).toArray ∧ Sl encU 1 (Fsh w w') w' a c (wl 7) ∧ Ext False w w' := by
 refine Qz 35 func134 rfl rfl rfl ?_
 have hX := xRf w
 refine Qe (Qc ?_)
 refine QJ rfl (Zh zeroValue45) ?_
 intro b2 w1 x2 hge2 hb2
 have hlt2 := hb2.lt
 change Box _ _ _ ([.slice _ _ _]) at hb2
 have z3 := x2.size
 replace hX := hX.ex x2
 refine Qd (Qe (Qc ?_))
 refine Rr (mvI rfl) ?_
 refine Rr (o_maxI (a := 3) (b := 0) rfl rfl) ?_
 refine Rr (o_min (a := 3) (b := 4096) rfl rfl) ?_
 refine Rr (asI rfl) ?_
 refine Qd (Qe (Qc ?_))
 obtain ⟨n0, hn0⟩ : ∃ n, n = w1.heap.size := ⟨_, rfl⟩
 refine Rr (mvI rfl) ?_
 refine Rr (Q6 rfl rfl omg) ?_
 refine Rr (o_quoT (a := 66) (b := 64) rfl rfl (by decide) (by decide) (by unfold I64; decide)) ?_
 refine Rg_make (m := 1) (0 : W64) rfl Zd el_word rfl rfl rfl (by decide) ?_
 intro a11 w4 x5 hown11
 have z6 := x5.size
 replace hX := hX.ex x5
 replace hb2 := hb2.ext x5
 replace hown11 := hown11.mono (D' := fun g => n0 ≤ g) (fun g h1 h2 => by omega)
 refine Rr (asS rfl) ?_
 refine Qd (Qe (Qe (Qc ?_)))
 refine Rr (mvS rfl) ?_
 refine Rr (QK underlying43 rfl) ?_
 refine Rr QT ?_
 refine Qd (QB ?_)
 refine Za (α := Nat) [(4, 4), (14, 20)] (fun k => [(14, .int .i64 (k : Int))]) (fun k w' => (k ≤ 1) ∧ Bel False (fun g => n0 ≤ g) w4 w' ∧ (Own encU 1 67 (fun g => n0 ≤ g) w' (.slice a11 1 1) [if k = 0 then 0#64 else 18446744073709551615#64])) (fun k => 1 - k) 0 ⟨rfl, trivial⟩ ⟨Nat.zero_le _, Bel.refl _ _, hown11⟩ ?_
 rintro k fb9 w8 ⟨hk, hXL7, hown11⟩
 have z10 := Bel.size hXL7
 replace hX := Bel.out hX hXL7 om2
 replace hb2 := hb2.keep hXL7 om1
 refine Qe (Qc ?_)
 refine Rr (QQ rfl rfl) ?_
 refine Qd (Qe ?_)
 refine QD rfl (fun hc1 => ?_) (fun hc1 => ?_)
 ·replace hc1 := dcT hc1
  have hk0 : k = 0 := by omega
  subst hk0
  refine Qu (Qe (QB (Qe (Qc ?_))))
  refine Rr (mvI rfl) ?_
  refine Rr (asI rfl) ?_
  refine Qd (Qc ?_)
  refine Rr (mvS rfl) ?_
  refine Rr (mvI rfl) ?_
  refine Rr (Zf (i := 0) underlying43 sizeOf67 hown11 rfl rfl (by decide)) ?_
  refine Rg_elst (u := 18446744073709551615#64) rfl Zd sizeOf67 rfl rfl rfl hown11 (by simp) ?_
  intro w11 x12 hown11
  have z13 := x12.size
  replace hX := Bel.out hX x12 om2
  replace hXL7 := Bel.out hXL7 x12 om2
  refine Qd (Qc ?_)
  refine Rr (Q6 rfl rfl omg) ?_
  refine Rr (mvI rfl) ?_
  refine Qd ?_
  refine ⟨1, ⟨sT, trivial⟩, oT, ⟨?_, hXL7, ?_⟩, ?_⟩
  ·show 1 ≤ 1; omega
  ·exact hown11
  ·omega
 replace hc1 := dcF hc1
 refine QS (QL (Qe (Qe (Qc ?_))))
 refine Rr (mvI rfl) ?_
 refine Rr (o_remT (a := 3) (b := 64) rfl rfl (by decide) (by decide) (by unfold I64; decide)) ?_
 refine Rr (o_gtr rfl rfl) ?_
 refine Qd ?_
 refine Q2 rfl ?_
 refine Qc ?_
 refine Rr (mvS rfl) ?_
 refine Rr (mvS rfl) ?_
 refine Rr (QK underlying43 rfl) ?_
 refine Rr (o_sub rfl rfl omg) ?_
 refine Rr (mvI rfl) ?_
 refine Rr (o_remT (a := 3) (b := 64) rfl rfl (by decide) (by decide) (by unfold I64; decide)) ?_
 refine Rr (o_shlU (a := BitVec.ofNat 64 1) rfl rfl (by decide)) ?_
 refine Rr (o_subU (b := BitVec.ofNat 64 1) rfl rfl) ?_
 refine Rr (Zf (i := 0) underlying43 sizeOf67 hown11 rfl rfl (by decide)) ?_
 refine Rg_elst (u := 7#64) rfl Zd sizeOf67 rfl rfl rfl hown11 (by simp) ?_
 intro w14 x15 hown11
 have z16 := x15.size
 replace hX := Bel.out hX x15 om2
 replace hb2 := hb2.keep x15 om1
 refine Qd (Qe (Qc ?_))
 refine Rr (mvS rfl) ?_
 refine Rr (QZ (cells := encSV ⟨a11, 1, 7⟩) (vs := [(0, .slice _ _ _)]) rfl (by kernel_rfl)) ?_
 refine QX (v := .agg _) rfl sizeOf45 rfl rfl hb2 rfl rfl rfl ?_
 intro w17 c18 hb2
 change Box _ _ _ (encSV _) at hb2
 have z19 := Bel.size c18
 replace hX := Bel.out hX c18 om2
 replace hown11 := hown11.keepD c18 om3
 refine Qd (Qy ?_)
 refine ⟨_, res_1 (v := .agg _) rfl (rv_cellS isAgg45 sizeOf45 rfl hb2.at rfl), ?_⟩
 have h := (hown11.slA Zd).mono (F' := Fsh w w17) (fun g h1 h2 => ⟨by omega, by omega⟩)
 exact ⟨_, _, rfl, h, hX⟩

theorem bminus6_ok (a : Option Addr) (c : Nat) (G : Nat → Prop) (a2 : Option Addr) (c2 : Nat) (w : World) (hs : Sl encU 1 G w a c (wl 6)) (ho : OkS a2 c2) : Ok Tryz.prog 111 #[.agg (encSV ⟨a, c, 6⟩).toArray, .agg (encSV ⟨a2, c2, 0⟩).toArray] w fun v w' => ∃ a c, v = .agg (encSV ⟨a, c, 6⟩).toArray ∧ Sl encU 1 (Fsh w w') w' a c (wl 6) ∧ Ext False w w' := by
 replace hs := hs.mono (F' := fun g => g < w.heap.size) (fun g h1 h2 => h1)
 have hl6 : (wl 6).length = 1 := rfl
 refine Qz 31 func111 rfl rfl rfl ?_
 have hX := xRf w
 refine Qe (Qc ?_)
 refine QJ rfl (Q4 (v := .agg _) rfl) ?_
 intro b2 w1 x2 hge2 hb2
 have hlt2 := hb2.lt
 change Box _ _ _ (encSV _) at hb2
 have z3 := x2.size
 replace hX := hX.ex x2
 replace hs := hs.ext x2
 refine QJ rfl (Q4 (v := .agg _) rfl) ?_
 intro b3 w4 x5 hge3 hb3
 have hlt3 := hb3.lt
 change Box _ _ _ (encSV _) at hb3
 have z6 := x5.size
 replace hX := hX.ex x5
 replace hs := hs.ext x5
 replace hb2 := hb2.ext x5
 refine QJ rfl (Zh zeroValue45) ?_
 intro b4 w7 x8 hge4 hb4
 have hlt4 := hb4.lt
 change Box _ _ _ ([.slice _ _ _]) at hb4
 have z9 := x8.size
 replace hX := hX.ex x8
 replace hs := hs.ext x8
 replace hb2 := hb2.ext x8
 replace hb3 := hb3.ext x8
 refine Qd (Qe (Qc ?_))
 refine Rr (Qx underlying45 rfl sizeOf43 rfl) ?_
 refine Rr (Qn isAgg43 rfl (hb2.at.get 0 rfl)) ?_
 refine Rr (QK underlying43 rfl) ?_
 obtain ⟨n0, hn0⟩ : ∃ n, n = w7.heap.size := ⟨_, rfl⟩
 refine Rg_make (m := 1) (0 : W64) rfl Zd el_word rfl rfl rfl (by decide) ?_
 intro a10 w10 x11 hown10
 have z12 := x11.size
 replace hX := hX.ex x11
 replace hs := hs.ext x11
 replace hb2 := hb2.ext x11
 replace hb3 := hb3.ext x11
 replace hb4 := hb4.ext x11
 replace hown10 := hown10.mono (D' := fun g => n0 ≤ g) (fun g h1 h2 => by omega)
 refine Rr (asS rfl) ?_
 refine Qd (Qe (Qe (Qc ?_)))
 refine Rr (mvS rfl) ?_
 refine Rr (QK underlying43 rfl) ?_
 refine Rr QT ?_
 refine Qd (QB ?_)
 refine Za (α := Nat) [(6, 6), (13, 28)] (fun k => [(13, .int .i64 (k : Int))]) (fun k w' => (k ≤ 1) ∧ Bel False (fun g => n0 ≤ g) w10 w' ∧ (Own encU 1 67 (fun g => n0 ≤ g) w' (.slice a10 1 1) [if k = 0 then 0#64 else 6#64])) (fun k => 1 - k) 0 ⟨rfl, trivial⟩ ⟨Nat.zero_le _, Bel.refl _ _, hown10⟩ ?_
 rintro k fb15 w14 ⟨hk, hXL13, hown10⟩
 have z16 := Bel.size hXL13
 replace hX := Bel.out hX hXL13 om2
 replace hs := hs.keep hXL13 om3
 replace hb2 := hb2.keep hXL13 om1
 replace hb3 := hb3.keep hXL13 om1
 replace hb4 := hb4.keep hXL13 om1
 refine Qe (Qc ?_)
 refine Rr (QQ rfl rfl) ?_
 refine Qd (Qe ?_)
 refine QD rfl (fun hc1 => ?_) (fun hc1 => ?_)
 ·replace hc1 := dcT hc1
  have hk0 : k = 0 := by omega
  subst hk0
  refine Qu (Qe (QB (Qe (Qc ?_))))
  refine Rr (mvI rfl) ?_
  refine Rr (asI rfl) ?_
  refine Qd ?_
  apply W_draw (β := False) [peq _, peq _, peq _, peq _, peq _, peq _, peq _, peq _, peq _, peq _, peq _, peq _] 12 Q9 (by kernel_rfl) rfl ⟨Qf _, Qf _, Qf _, Qf _, Qf _, Qf _, Qf _, Qf _, Qf _, Qf _, Qf _, Qf _, trivial⟩ ?ob5 ?fin5
  case ob5 =>
   refine Qh (fun w17 x18 => ?_) ?_
   ·have z19 := x18.size
    refine Qg ?_
    exact Qt rfl (mvS rfl)
   refine Qh (fun w20 x21 => ?_) ?_
   ·have z22 := x21.size
    refine Qg ?_
    exact Qt rfl (mvI rfl)
   refine Qh (fun w23 x24 => ?_) ?_
   ·have z25 := x24.size
    refine Qg ?_
    exact Qt rfl (Qx underlying45 rfl sizeOf43 rfl)
   refine Qh (fun w26 x27 => ?_) ?_
   ·have z28 := x27.size
    have hb2 := hb2.ext x27
    refine Qa (Qg ?_)
    exact Qt rfl (Qn isAgg43 rfl (hb2.at.get 0 rfl))
   refine Qh (fun w29 x30 => ?_) ?_
   ·have z31 := x30.size
    refine Qg ?_
    exact Qt rfl (mvI rfl)
   refine Qh (fun w32 x33 => ?_) ?_
   ·have z34 := x33.size
    have hs := hs.ext x33
    refine Qa (Qa (Qg ?_))
    exact Qt rfl (Zg underlying43 sizeOf67 hs rfl rfl omg)
   refine Qh (fun w35 x36 => ?_) ?_
   ·have z37 := x36.size
    have hs := hs.ext x36
    refine Qa (Qg ?_)
    exact Qt rfl (o_ldR isAgg67 hs rfl rfl (show (wl 6)[0]? = some (6 : W64) from rfl) rfl)
   refine Qh (fun w38 x39 => ?_) ?_
   ·have z40 := x39.size
    have hb3 := hb3.ext x39
    refine Qg ?_
    exact Qt rfl (QO isAgg45 sizeOf45 rfl hb3.at rfl)
   refine Qh (fun w41 x42 => ?_) ?_
   ·have z43 := x42.size
    refine Qg ?_
    exact Qt rfl (mvI rfl)
   refine Qh (fun w44 x45 => ?_) ?_
   ·have z46 := x45.size
    refine Qa (Qa (Qg ?_))
    exact OpS_call rfl (QM call112 rfl rfl) (bword_ok _ ⟨a2, c2, 0⟩ (fun _ => True) ho.set 0)
   refine Qh (fun w47 x48 => ?_) ?_
   ·have z49 := x48.size
    refine Qa (Qa (Qg ?_))
    exact Qt rfl (o_bandn rfl rfl)
   refine Qh (fun w50 x51 => ?_) ?_
   ·have z52 := x51.size
    have hown10 := hown10.ext x51
    refine Qa (Qa (Qa (Qa (Qa (Qa (Qa (Qa (Qa ?_))))))))
    refine Qa (Qa (Qa (Qa (Qg ?_))))
    exact Qt rfl (Zf (i := 0) underlying43 sizeOf67 hown10 rfl rfl (by decide))
   exact Q7
  case fin5 =>
   intro w53 x54
   have z55 := x54.size
   replace hX := hX.ex x54
   replace hXL13 := Bel.ex hXL13 x54
   replace hown10 := hown10.ext x54
   refine Qa (Qa (Qa (Qa (Qa (Qa (Qa (Qa (Qa ?_))))))))
   refine Qa (Qa (Qa (Qg ?_)))
   refine Rg_elst (u := ((6 : W64) &&& ~~~((wl 0).getD 0 0))) rfl Zd sizeOf67 rfl rfl rfl hown10 (by simp) ?_
   intro w56 x57 hown10
   have z58 := x57.size
   replace hX := Bel.out hX x57 om2
   replace hXL13 := Bel.out hXL13 x57 om2
   rw [show ((6 : W64) &&& ~~~((wl 0).getD 0 0)) = 6#64 by decide] at hown10
   refine Qd (Qc ?_)
   refine Rr (Q6 rfl rfl omg) ?_
   refine Rr (mvI rfl) ?_
   refine Qd ?_
   refine ⟨1, ⟨sT, trivial⟩, oT, ⟨?_, hXL13, ?_⟩, ?_⟩
   ·show 1 ≤ 1; omega
   ·exact hown10
   ·omega
 replace hc1 := dcF hc1
 refine QS (QL (Qe (Qc ?_)))
 obtain rfl : k = 1 := by omega
 rw [if_neg (by decide)] at hown10
 refine Rr (mvS rfl) ?_
 refine Qo rfl (QA call42 rfl) (Ok.mono (btrim_ok _ _ _ [6] _ (hown10.slA Zd) (by simp)) ?_)
 rintro _ w59 ⟨rfl, x60⟩
 have z61 := x60.size
 replace hX := hX.ex x60
 replace hb4 := hb4.ext x60
 replace hown10 := hown10.ext x60
 refine QX (v := .agg _) rfl sizeOf45 rfl rfl hb4 rfl rfl rfl ?_
 intro w62 c63 hb4
 change Box _ _ _ (encSV _) at hb4
 have z64 := Bel.size c63
 replace hX := Bel.out hX c63 om2
 replace hown10 := hown10.keepD c63 om3
 refine Qd (Qy ?_)
 refine ⟨_, res_1 (v := .agg _) rfl (rv_cellS isAgg45 sizeOf45 rfl hb4.at rfl), ?_⟩
 have h := trim_sl (hown10.slA Zd) (by simp)
 exact ⟨_, _, rfl, h.mono (fun g h1 h2 => ⟨by omega, by omega⟩), hX⟩

