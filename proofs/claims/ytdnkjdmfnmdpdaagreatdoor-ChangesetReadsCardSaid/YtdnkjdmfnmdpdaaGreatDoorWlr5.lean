/- Walks: what functions return. -/
import Derived.Test.YtdnkjdmfnmdpdaaGreatDoorWcb
import Derived.Test.YtdnkjdmfnmdpdaaGreatDoorWak5
import Derived.Test.YtdnkjdmfnmdpdaaGreatDoorWl50
import Derived.Test.YtdnkjdmfnmdpdaaGreatDoorWmk50
import Derived.Test.YtdnkjdmfnmdpdaaGreatDoorWmk24m
set_option linter.unusedVariables false
set_option linter.unusedSimpArgs false
set_option linter.unnecessarySimpa false
namespace Go.Proofs.YtdnkjdmfnmdpdaaGreatDoor
open Go Go.Lx Go.RowKit Tryz
set_option maxRecDepth 100000
theorem ceqb_ok (a b : Option Addr) (c d : Nat) (A C : Nat → Prop) (x y : List UInt8) (w : World) (hx : Sl encB 1 A w a c x) (hy : Sl encB 1 C w b d y) : Ok Tryz.prog 30 #[.slice a x.length c, .slice b y.length d] w fun v w' => v = .bool (x == y) ∧ Ext False w w' := by
 have hlx := hx.len; have hly := hy.len
 replace hx := hx.mono (F' := fun g => g < w.heap.size) (fun g h1 h2 => h1)
 replace hy := hy.mono (F' := fun g => g < w.heap.size) (fun g h1 h2 => h1)
 refine QD 26 func30 rfl rfl rfl ?_
 have hX : Ext False w w := Bel.refl _ _
 refine Qd (Qa ?_)
 refine Rr Qf ?_
 refine Qb (Qd (Qd (Qa ?_)))
 refine Rr (mvS rfl) ?_
 refine Rr (QM underlying22 rfl) ?_
 refine Rr (mvS rfl) ?_
 refine Rr (QM underlying22 rfl) ?_
 refine Rr (Zn rfl rfl) ?_
 refine Qb ?_
 refine Qt rfl (fun hc1 => ?_) (fun hc1 => ?_)
 ·skip
  refine Qd (Qa ?_)
  refine Rr Qf ?_
  refine Qb (Qx ?_)
  refine ⟨_, Qu rfl rfl, ?_⟩
  refine ⟨congrArg Value.bool ?_, hX⟩
  all_goals (exact (eqT_len (by simpa using hc1)).symm)
 have hle : (x.length : Int) = y.length := by simpa using hc1
 refine Qs (Qd (Qd (Qa ?_)))
 refine Rr (mvS rfl) ?_
 refine Rr (QM underlying22 rfl) ?_
 refine Rr Zc ?_
 refine Qb (Qz ?_)
 refine Zd (α := Nat) [(4, 5), (13, 25)] (fun k => [(13, .int .i64 (k : Int))]) (fun k w' => (k ≤ x.length ∧ x.take k = y.take k) ∧ Ext False w w') (fun k => x.length - k) 0 ⟨rfl, trivial⟩ ⟨⟨by omega, by simp⟩, Bel.refl _ _⟩ ?_
 rintro k fb3 w2 ⟨⟨hk, hall⟩, hXL1⟩
 replace hX := hX.ex hXL1
 replace hx := hx.ext hXL1
 replace hy := hy.ext hXL1
 refine Qd (Qa ?_)
 refine Rr (QV rfl rfl) ?_
 refine Qb (Qd ?_)
 refine Qt rfl (fun hc2 => ?_) (fun hc2 => ?_)
 ·replace hc2 := of_decide_eq_true hc2
  refine Qs (Qd (Qz (Qd (Qa ?_))))
  refine Rr (mvI rfl) ?_
  refine Rr (asI rfl) ?_
  refine Qb (Qd ?_)
  apply W_draw (β := False) [peq _, peq _, peq _, peq _, peq _, peq _, peq _, peq _, peq _] 9 Zq (by kernel_rfl) rfl ⟨Qg _, Qg _, Qg _, Qg _, Qg _, Qg _, Qg _, Qg _, Qg _, trivial⟩ ?ob6 ?fin6
  case ob6 =>
   refine Qk (fun w4 x5 => ?_) ?_
   ·refine Qi ?_
    exact QH rfl (mvS rfl)
   refine Qk (fun w6 x7 => ?_) ?_
   ·refine Qi ?_
    exact QH rfl (mvI rfl)
   refine Qk (fun w8 x9 => ?_) ?_
   ·have hx := hx.ext x9
    refine Qc (Qc (Qi ?_))
    exact QH rfl (Ze underlying22 sizeOf5 hx rfl rfl omg)
   refine Qk (fun w10 x11 => ?_) ?_
   ·have hx := hx.ext x11
    refine Qc (Qi ?_)
    exact QH rfl (o_ldR isAgg5 hx rfl rfl (Zh (0 : UInt8) (by omega)) rfl)
   refine Qk (fun w12 x13 => ?_) ?_
   ·refine Qi ?_
    exact QH rfl (mvS rfl)
   refine Qk (fun w14 x15 => ?_) ?_
   ·refine Qi ?_
    exact QH rfl (mvI rfl)
   refine Qk (fun w16 x17 => ?_) ?_
   ·have hy := hy.ext x17
    refine Qc (Qc (Qi ?_))
    exact QH rfl (Ze underlying22 sizeOf5 hy rfl rfl omg)
   refine Qk (fun w18 x19 => ?_) ?_
   ·have hy := hy.ext x19
    refine Qc (Qi ?_)
    exact QH rfl (o_ldR isAgg5 hy rfl rfl (Zh (0 : UInt8) (by omega)) rfl)
   refine Qk (fun w20 x21 => ?_) ?_
   ·refine Qc (Qc (Qi ?_))
    exact QH rfl (Zn rfl rfl)
   exact Zt
  case fin6 =>
   intro w22 x23
   replace hX := hX.ex x23
   replace hXL1 := Bel.ex hXL1 x23
   refine Qc (Qc (Qc (Qc (Qc (Qc (Qc (Qc (Qc ?_))))))))
   refine Qi (Qb ?_)
   refine Qt rfl (fun hc3 => ?_) (fun hc3 => ?_)
   ·refine Qd (Qa ?_)
    refine Rr Qf ?_
    refine Qb (Qx ?_)
    refine ⟨_, Qu rfl rfl, ?_⟩
    refine ⟨congrArg Value.bool ?_, hX⟩
    all_goals (exact (eqT_ne (z := (0 : UInt8)) (k := k) (fun e => by have h := bne_iff_ne.1 hc3; rw [e] at h; exact h rfl)).symm)
   refine Qs (Qa ?_)
   refine Rr (QN rfl rfl omg) ?_
   refine Rr (mvI rfl) ?_
   refine Qb ?_
   refine ⟨k + 1, ⟨sT, trivial⟩, oT, ⟨?_, hXL1⟩, ?_⟩
   ·exact ⟨by omega, eqT_succ (z := (0 : UInt8)) (by omega) (by omega) hall (UInt8.toNat_inj.1 (by have h := bne_eq_false_iff_eq.1 hc3; omega))⟩
   ·omega
 replace hc2 := of_decide_eq_false hc2
 refine QS (QJ (Qd (Qa ?_)))
 refine Rr Qf ?_
 refine Qb (Qx ?_)
 refine ⟨_, Qu rfl rfl, ?_⟩
 refine ⟨congrArg Value.bool ?_, hX⟩
 all_goals (exact (eqT_end (k := k) (by omega) (by omega) hall).symm)

theorem ceqb_okV (v1 v2 : Value) (A C : Nat → Prop) (x y : List UInt8) (w : World) (hx : Rd encB 1 A w v1 x) (hy : Rd encB 1 C w v2 y) : Ok Tryz.prog 30 #[v1, v2] w fun v w' => v = .bool (x == y) ∧ Ext False w w' := by
 obtain ⟨a, c, rfl, h1⟩ := hx
 obtain ⟨b, d, rfl, h2⟩ := hy
 exact ceqb_ok _ _ _ _ _ _ _ _ _ h1 h2
theorem el_s3 : ElT Tryz.prog 84 22 1 24 (.slice none 0 0) := ⟨underlying84, ⟨Tryz.t22, by kernel_rfl, rfl, rfl, rfl⟩, rfl, by decide, by decide⟩
set_option maxHeartbeats 4000000 in
theorem law_ChangesetReads (w : World) (v0 : Value) (p : List UInt8) (hp0 : Rd encB 1 (Lt w.heap.size) w v0 p) (v1 : Value) (l : List RawC) (hl0 : Rd encRaw 6 (Lt w.heap.size) w v1 l) (x y : UInt8) : Ok Tryz.prog 5 #[v0, v1, .agg #[.int .u8 (x.toNat : Int), .int .u8 (y.toNat : Int)]] w fun v w' => v = .bool true ∧ Ext False w w' := by
 obtain ⟨ap, cpp, rfl, hp0⟩ := hp0; obtain ⟨ar, cr, rfl, hl0⟩ := hl0
 have hlp := hp0.len; have hll := hl0.len
 replace hp0 := hp0.mono (F' := fun g => g < w.heap.size) (fun g h1 h2 => h1)
 replace hl0 := hl0.mono (F' := fun g => g < w.heap.size) (fun g h1 h2 => h1)
 refine QD 77 func5 rfl rfl rfl ?_
 have hX : Ext False w w := Bel.refl _ _
 refine Qd (Qa ?_)
 refine QT rfl (Zw (v := .agg _) rfl) ?_
 intro b5 w1 x2 hge5 hb5
 have hlt5 := hb5.lt
 have z3 := x2.size
 replace hX := hX.ex x2
 replace hp0 := hp0.ext x2
 replace hl0 := hl0.ext x2
 refine Rr Qf ?_
 refine Qb (Qd (Qd (Qa ?_)))
 change Box _ _ _ [.int .u8 (x.toNat : Int), .int .u8 (y.toNat : Int)] at hb5
 refine Qn rfl (o_call0 call7) (Ok.mono (awake50_ok _) ?_)
 rintro _ w4 ⟨rfl, x5⟩
 have z6 := x5.size
 replace hX := hX.ex x5
 replace hp0 := hp0.ext x5
 replace hl0 := hl0.ext x5
 replace hb5 := hb5.ext x5
 refine Rr (QQ rfl) ?_
 refine Qb ?_
 refine QK rfl ?_
 refine Qs (Qd (Qa ?_))
 refine Rr (mvS rfl) ?_
 refine Rr (mvS rfl) ?_
 refine Qn rfl (Qy call9 rfl) (Ok.mono (make24_ok _ _ p _ ⟨_, _, rfl, hp0⟩) ?_)
 rintro v17 w7 ⟨hst17, x8⟩
 have z9 := x8.size
 replace hX := hX.ex x8
 replace hp0 := hp0.ext x8
 replace hl0 := hl0.ext x8
 replace hb5 := hb5.ext x8
 obtain ⟨aU, nU, cU, aR, nR, cR, ad, aX, nX, cX, aY, nY, cY, aZ, nZ, cZ, aL, cL, L0, aM, cM, M0, aG, cG, G0, hv17, hL, hM, hG, hGk, hl1, hl2⟩ := hst17
 subst hv17
 refine Qn rfl (QI call8 rfl rfl) (Ok.mono (make50_ok _ _ l _ _ _ ⟨_, _, rfl, hl0⟩ (st_pack hL hM hG hGk (by omega) (by omega))) ?_)
 rintro v18 w10 ⟨⟨O18, hown18, hO18, hOk18⟩, x11⟩
 have z12 := x11.size
 replace hX := hX.ex x11
 replace hp0 := hp0.ext x11
 replace hb5 := hb5.ext x11
 replace hown18 := hown18.mono (D' := fun g => w.heap.size ≤ g) (fun g h1 h2 => by omega)
 refine Qn rfl (Qy call23 rfl) (Ok.mono (rset5_ok _ _ O18 (hown18.trd QG) (by omega) (fun o ho => (hOk18 o ho).1)) ?_)
 rintro v19 w13 ⟨⟨X19, hvs19, hxl19, hown19⟩, x14⟩
 have z15 := x14.size
 replace hX := hX.ex x14
 replace hp0 := hp0.ext x14
 replace hb5 := hb5.ext x14
 replace hown19 := hown19.mono (D' := fun g => w.heap.size ≤ g) (fun g h1 h2 => by omega)
 refine Qn rfl (Qy call28 rfl) (Ok.mono (rbytes50_ok _ _ X19 _ (hown19.rd QG) hvs19.v (by omega)) ?_)
 rintro v20 w16 ⟨hown20, x17⟩
 have z18 := x17.size
 replace hX := hX.ex x17
 replace hp0 := hp0.ext x17
 replace hb5 := hb5.ext x17
 refine Rr (Qq (v := v20) rfl) ?_
 refine Qb (Qd (Qa ?_))
 have hQp := obytes_pos X19
 have hQl := obytes_sh hvs19.v
 obtain ⟨Q, hQ⟩ : ∃ Q, Q = obytes X19 := ⟨_, rfl⟩
 rw [← hQ] at hown20 hQp hQl
 obtain ⟨a20, c20, hv20, -⟩ := hown20.sl QL
 subst hv20
 obtain ⟨n4, hn4⟩ : ∃ n, n = w16.heap.size := ⟨_, rfl⟩
 replace hown20 := hown20.mono (D' := fun g => w.heap.size ≤ g ∧ g < n4) (fun g h1 h2 => ⟨by omega, by omega⟩)
 have hix := Nat.mod_lt x.toNat hQp
 have hx8 := x.toNat_lt
 refine Q7 (vs := []) (([] : List UInt8)) rfl QL el_b8 rfl rfl trivial rfl rfl rfl rfl ?_
 intro a21 w19 x20 hown21
 have z21 := x20.size
 replace hX := hX.ex x20
 replace hp0 := hp0.ext x20
 replace hb5 := hb5.ext x20
 replace hown20 := hown20.ext x20
 replace hown21 := hown21.mono (D' := fun g => n4 ≤ g) (fun g h1 h2 => by omega)
 refine Rr (Qh (v := .slice a20 Q.length c20) rfl) ?_
 refine Rr (o_iaA (i := 0) underlying82 sizeOf5 rfl rfl (by decide)) ?_
 refine Rr (Qo isAgg5 rfl (hb5.at.get 0 rfl)) ?_
 refine Rr (o_convS underlying5 underlying3 rfl (wrapB _)) ?_
 refine Rr (Qh (v := .slice a20 Q.length c20) rfl) ?_
 refine Rr (o_llenO underlying22 rfl hown20) ?_
 refine Rr (Zj (a := x.toNat) (b := Q.length) rfl rfl (by omega) (by omega)) ?_
 refine Rr (o_slto (j := (x.toNat % Q.length)) underlying22 sizeOf5 rfl rfl (by have := (hown20.slA QL).le; omega)) ?_
 refine Q3 rfl QL el_b8 rfl rfl hown21 ((hown20.slA QL).take (x.toNat % Q.length)) (by rw [List.length_take]; omega) (by rw [List.length_take, List.length_nil]; omega) omU ?_
 intro v30 w22 x23 hown21
 have z24 := x23.size
 replace hX := Bel.out hX x23 om2
 replace hp0 := hp0.keep x23 om3
 replace hb5 := hb5.keep x23 om1
 replace hown20 := hown20.keepD x23 om3
 refine Rr (Qq (v := v30) rfl) ?_
 refine Qb (Qd ?_)
 apply W_draw (β := False) [peq _, peq _, peq _, peq _, peq _, peq _, peq _, peq _, peq _, peq _, peq _, peq _, peq _] 13 Zq (by kernel_rfl) rfl ⟨Qg _, Qg _, Qg _, Qg _, Qg _, Qg _, Qg _, Qg _, Qg _, Qg _, Qg _, Qg _, Qg _, trivial⟩ ?ob5 ?fin5
 case ob5 =>
  refine Qk (fun w25 x26 => ?_) ?_
  ·have z27 := x26.size
   refine Qi ?_
   exact QH rfl (Qh (v := .slice a20 Q.length c20) rfl)
  refine Qk (fun w28 x29 => ?_) ?_
  ·have z30 := x29.size
   refine Qi ?_
   exact QH rfl (o_iaA (i := 0) underlying82 sizeOf5 rfl rfl (by decide))
  refine Qk (fun w31 x32 => ?_) ?_
  ·have z33 := x32.size
   have hb5 := hb5.ext x32
   refine Qc (Qi ?_)
   exact QH rfl (Qo isAgg5 rfl (hb5.at.get 0 rfl))
  refine Qk (fun w34 x35 => ?_) ?_
  ·have z36 := x35.size
   refine Qc (Qi ?_)
   exact QH rfl (o_convS underlying5 underlying3 rfl (wrapB _))
  refine Qk (fun w37 x38 => ?_) ?_
  ·have z39 := x38.size
   refine Qi ?_
   exact QH rfl (Qh (v := .slice a20 Q.length c20) rfl)
  refine Qk (fun w40 x41 => ?_) ?_
  ·have z42 := x41.size
   have hown20 := hown20.ext x41
   refine Qc (Qi ?_)
   exact QH rfl (o_llenO underlying22 rfl hown20)
  refine Qk (fun w43 x44 => ?_) ?_
  ·have z45 := x44.size
   refine Qc (Qc (Qi ?_))
   exact QH rfl (Zj (a := x.toNat) (b := Q.length) rfl rfl (by omega) (by omega))
  refine Qk (fun w46 x47 => ?_) ?_
  ·have z48 := x47.size
   have hown20 := hown20.ext x47
   refine Qc (Qc (Qi ?_))
   exact QH rfl (o_iaO (i := (x.toNat % Q.length)) underlying22 sizeOf5 hown20 rfl rfl hix)
  refine Qk (fun w49 x50 => ?_) ?_
  ·have z51 := x50.size
   have hown20 := hown20.ext x50
   refine Qc (Qi ?_)
   exact QH rfl (o_ldR isAgg5 (hown20.slA QL) rfl rfl (Zh 0 hix) rfl)
  refine Qk (fun w52 x53 => ?_) ?_
  ·have z54 := x53.size
   refine Qi ?_
   exact QH rfl (o_iaA (i := 1) underlying82 sizeOf5 rfl rfl (by decide))
  refine Qk (fun w55 x56 => ?_) ?_
  ·have z57 := x56.size
   have hb5 := hb5.ext x56
   refine Qc (Qi ?_)
   exact QH rfl (Qo isAgg5 rfl (hb5.at.get 1 rfl))
  refine Qk (fun w58 x59 => ?_) ?_
  ·have z60 := x59.size
   refine Qc (Qc (Qi ?_))
   exact QH rfl (o_xorB (a' := Q.getD (x.toNat % Q.length) 0) (b' := y) rfl rfl)
  refine Qk (fun w61 x62 => ?_) ?_
  ·have z63 := x62.size
   have hown20 := hown20.ext x62
   refine Qc (Qc (Qc (Qc (Qc (Qc (Qc (Qc (Qc ?_))))))))
   refine Qc (Qc (Qc (Qc (Qc (Qi ?_)))))
   exact QH rfl (o_iaO (i := (x.toNat % Q.length)) underlying22 sizeOf5 hown20 rfl rfl hix)
  exact Zt
 case fin5 =>
  intro w64 x65
  have z66 := x65.size
  replace hX := hX.ex x65
  replace hp0 := hp0.ext x65
  replace hown20 := hown20.ext x65
  replace hown21 := hown21.ext x65
  refine Qc (Qc (Qc (Qc (Qc (Qc (Qc (Qc (Qc ?_))))))))
  refine Qc (Qc (Qc (Qc (Qi ?_))))
  refine Rg_elst (u := (Q.getD (x.toNat % Q.length) 0 ^^^ y)) rfl QL sizeOf5 rfl rfl rfl hown20 hix ?_
  intro w67 x68 hown20
  have z69 := x68.size
  replace hX := Bel.out hX x68 om2
  replace hp0 := hp0.keep x68 om3
  replace hown21 := hown21.keepD x68 om3
  refine Qb (Qd (Qd (Qa ?_)))
  obtain ⟨R, hR⟩ : ∃ R, R = Q.set (x.toNat % Q.length) (Q.getD (x.toNat % Q.length) 0 ^^^ y) := ⟨_, rfl⟩
  have hRl : R.length = Q.length := by rw [hR, List.length_set]
  rw [← hR] at hown20
  rw [List.nil_append] at hown21
  obtain ⟨C, hC⟩ : ∃ C, C = Q.take (x.toNat % Q.length) := ⟨_, rfl⟩
  have hCl : C.length ≤ Q.length := by rw [hC, List.length_take]; omega
  rw [← hC] at hown21
  rw [← hRl] at hown20 ⊢
  obtain ⟨a30, c30, hv30, hsC⟩ := hown21.sl QL
  subst hv30
  have hsR := hown20.slA QL
  obtain ⟨pm, hpm⟩ : ∃ pm, pm = p.take (min p.length 40) := ⟨_, rfl⟩
  have hpl : pm.length = min p.length 40 := by rw [hpm, List.length_take]; omega
  have hsP := (hp0.take (min p.length 40))
  rw [← hpm] at hsP
  refine Rr (mvS rfl) ?_
  refine Rr (mvS rfl) ?_
  refine Rr (QM underlying22 rfl) ?_
  refine Rr (o_minN (a := p.length) (b := 40) rfl rfl) ?_
  refine Rr (o_slto (j := min p.length 40) underlying22 sizeOf5 rfl rfl (by have := hp0.le; omega)) ?_
  rw [← hpl]
  refine Rr (mvS rfl) ?_
  refine Rr (mvS rfl) ?_
  refine Q7 (vs := [.slice _ _ _, .slice _ _ _, .slice _ _ _]) (([(ap, pm.length, cpp), (a20, R.length, c20), (a30, C.length, c30)] : List S3)) rfl encS3_ok el_s3 rfl rfl ⟨rfl, ⟨rfl, ⟨rfl, trivial⟩⟩⟩ rfl rfl rfl rfl ?_
  intro a51 w70 x71 hown51
  have z72 := x71.size
  replace hX := hX.ex x71
  replace hsC := hsC.ext x71
  replace hsR := hsR.ext x71
  replace hsP := hsP.ext x71
  replace hown51 := hown51.mono (D' := fun g => w.heap.size ≤ g) (fun g h1 h2 => by omega)
  refine Rr (QM underlying84 rfl) ?_
  refine Rr Zc ?_
  refine Qb (Qz ?_)
  refine Zd (α := Nat) [(6, 6), (10, 12), (53, 76)] (fun k => [(53, .int .i64 (k : Int))]) (fun k w' => (k ≤ 3) ∧ Ext False w70 w') (fun k => 3 - k) 0 ⟨rfl, trivial⟩ ⟨Nat.zero_le _, Bel.refl _ _⟩ ?_
  rintro k fb75 w74 ⟨hk, hXL73⟩
  have z76 := Bel.size hXL73
  replace hX := hX.ex hXL73
  replace hsC := hsC.ext hXL73
  replace hsR := hsR.ext hXL73
  replace hsP := hsP.ext hXL73
  replace hown51 := hown51.ext hXL73
  refine Qd (Qa ?_)
  refine Rr (QV rfl rfl) ?_
  refine Qb (Qd ?_)
  refine Qt rfl (fun hc2 => ?_) (fun hc2 => ?_)
  ·have hk3 : k < 3 := by have h := of_decide_eq_true hc2; first | omega | (simp only [List.length_cons, List.length_nil] at h; omega)
   refine Qs (Qd (Qz (Qd (Qa ?_))))
   refine Rr (o_iaO (i := k) underlying84 sizeOf22 hown51 rfl rfl hk3) ?_
   refine Rr (o_ldR isAgg22 (hown51.slA encS3_ok) rfl rfl (Zh ((none, 0, 0) : S3) hk3) rfl) ?_
   refine Rr (asS rfl) ?_
   refine Qb (Qd (Qa ?_))
   refine (Decidable.em (k = 0)).elim (fun hk0 => ?_) (fun hk0 => ?_)
   ·refine Rr (mvS rfl) ?_
    subst hk0
    refine Qn rfl (Qy call29 rfl) (Ok.mono (cread_ok _ _ pm _ ⟨_, _, rfl, hsP⟩ (by omega)) ?_)
    rintro _ w77 ⟨⟨a59, c59, L59, e59, rfl, hs59, hok59⟩, x78⟩
    have z79 := x78.size
    replace hX := hX.ex x78
    replace hXL73 := Bel.ex hXL73 x78
    replace hsP := hsP.ext x78
    refine Rr (Qh (v := .tuple _) rfl) ?_
    refine Rr (QC rfl rfl) ?_
    refine Rr (QC rfl rfl) ?_
    refine QR rfl rfl zeroValue63 rfl sizeOf63 (fun _ => rfl) rfl rfl ?_
    intro b11 w80 x81 hge11 hb11
    have hlt11 := hb11.lt
    change Box _ _ _ (wsS _ _ _) at hb11
    have z82 := x81.size
    replace hX := hX.ex x81
    replace hXL73 := Bel.ex hXL73 x81
    replace hsP := hsP.ext x81
    replace hs59 := hs59.ext x81
    refine Rr (asI rfl) ?_
    refine Qb (Qd (Qd (Qa ?_)))
    refine Rr (mvI rfl) ?_
    refine Rr (Zn rfl rfl) ?_
    refine Qb ?_
    refine Qt rfl (fun hc3 => ?_) (fun hc3 => ?_)
    ·have he : e59 ≠ 0 := bne_iff_ne.1 hc3
     obtain ⟨he6, -, hL0⟩ := hok59.resolve_left (fun h => he h.1)
     subst he6 hL0
     refine Qd (Qd (Qa ?_))
     refine Rr (mvI rfl) ?_
     refine Rr (Zn rfl rfl) ?_
     refine Rr (mvB rfl) ?_
     refine Qv 2 66 rfl rfl ?_
     refine Rr (QA isAgg63 sizeOf63 rfl hb11.at rfl) ?_
     refine Qv 2 66 rfl rfl ?_
     refine Qn rfl (Qy call20 rfl) (Ok.mono (cempty_ok a59 c59 _ [] _ hs59) ?_)
     rintro _ w83 ⟨rfl, x84⟩
     have z85 := x84.size
     replace hX := hX.ex x84
     replace hXL73 := Bel.ex hXL73 x84
     refine Qv 2 66 rfl rfl ?_
     refine Rr (QQ rfl) ?_
     refine Rr (Q0 (v := .bool _) rfl rfl) ?_
     refine Qb ?_
     refine QK rfl ?_
     refine Qs (QS (QJ (Qa ?_)))
     refine Rr (QN rfl rfl omg) ?_
     refine Rr (mvI rfl) ?_
     refine Qb ?_
     refine ⟨0 + 1, ⟨sT, trivial⟩, oT, ⟨?_, hXL73⟩, ?_⟩
     ·show 0 + 1 ≤ 3; omega
     ·show 3 - (0 + 1) < 3 - 0; omega
    have he : e59 = 0 := bne_eq_false_iff_eq.1 hc3
    obtain ⟨-, hyes, hL1⟩ := hok59.resolve_right (fun h => by have := h.1; omega)
    have hrb := okR_vs (by omega) hyes
    rw [← hL1] at hrb
    refine Qs (Qd (Qa ?_))
    refine Rr (QA isAgg63 sizeOf63 rfl hb11.at rfl) ?_
    refine Qn rfl (Qy call31 rfl) (Ok.mono (cbytes_ok a59 c59 _ L59 _ hs59 hrb.1.v (by omega)) ?_)
    rintro v72 w86 ⟨hown72, x87⟩
    have z88 := x87.size
    replace hX := hX.ex x87
    replace hXL73 := Bel.ex hXL73 x87
    replace hsP := hsP.ext x87
    replace hown72 := hown72.mono (D' := fun g => w.heap.size ≤ g) (fun g h1 h2 => by omega)
    refine Rr (mvS rfl) ?_
    refine Qn rfl (QI call30 rfl rfl) (Ok.mono (ceqb_okV _ _ _ _ (obytes L59) pm _ (hown72.rd QL) ⟨_, _, rfl, hsP⟩) ?_)
    rintro _ w89 ⟨rfl, x90⟩
    have z91 := x90.size
    replace hX := hX.ex x90
    replace hXL73 := Bel.ex hXL73 x90
    refine Rr (QQ rfl) ?_
    refine Qb ?_
    refine QK (congrArg Value.bool (by rw [hrb.2.2, beq_self_eq_true]; rfl)) ?_
    refine Qs (Qa ?_)
    refine Rr (QN rfl rfl omg) ?_
    refine Rr (mvI rfl) ?_
    refine Qb ?_
    refine ⟨0 + 1, ⟨sT, trivial⟩, oT, ⟨?_, hXL73⟩, ?_⟩
    ·show 0 + 1 ≤ 3; omega
    ·show 3 - (0 + 1) < 3 - 0; omega
   refine Rr (mvS rfl) ?_
   refine (Decidable.em (k = 1)).elim (fun hk1 => ?_) (fun hk1 => ?_)
   ·subst hk1
    refine Qn rfl (Qy call29 rfl) (Ok.mono (cread_ok _ _ R _ ⟨_, _, rfl, hsR⟩ (by omega)) ?_)
    rintro _ w92 ⟨⟨a59, c59, L59, e59, rfl, hs59, hok59⟩, x93⟩
    have z94 := x93.size
    replace hX := hX.ex x93
    replace hXL73 := Bel.ex hXL73 x93
    replace hsR := hsR.ext x93
    refine Rr (Qh (v := .tuple _) rfl) ?_
    refine Rr (QC rfl rfl) ?_
    refine Rr (QC rfl rfl) ?_
    refine QR rfl rfl zeroValue63 rfl sizeOf63 (fun _ => rfl) rfl rfl ?_
    intro b11 w95 x96 hge11 hb11
    have hlt11 := hb11.lt
    change Box _ _ _ (wsS _ _ _) at hb11
    have z97 := x96.size
    replace hX := hX.ex x96
    replace hXL73 := Bel.ex hXL73 x96
    replace hsR := hsR.ext x96
    replace hs59 := hs59.ext x96
    refine Rr (asI rfl) ?_
    refine Qb (Qd (Qd (Qa ?_)))
    refine Rr (mvI rfl) ?_
    refine Rr (Zn rfl rfl) ?_
    refine Qb ?_
    refine Qt rfl (fun hc6 => ?_) (fun hc6 => ?_)
    ·have he : e59 ≠ 0 := bne_iff_ne.1 hc6
     obtain ⟨he6, -, hL0⟩ := hok59.resolve_left (fun h => he h.1)
     subst he6 hL0
     refine Qd (Qd (Qa ?_))
     refine Rr (mvI rfl) ?_
     refine Rr (Zn rfl rfl) ?_
     refine Rr (mvB rfl) ?_
     refine Qv 2 66 rfl rfl ?_
     refine Rr (QA isAgg63 sizeOf63 rfl hb11.at rfl) ?_
     refine Qv 2 66 rfl rfl ?_
     refine Qn rfl (Qy call20 rfl) (Ok.mono (cempty_ok a59 c59 _ [] _ hs59) ?_)
     rintro _ w98 ⟨rfl, x99⟩
     have z100 := x99.size
     replace hX := hX.ex x99
     replace hXL73 := Bel.ex hXL73 x99
     refine Qv 2 66 rfl rfl ?_
     refine Rr (QQ rfl) ?_
     refine Rr (Q0 (v := .bool _) rfl rfl) ?_
     refine Qb ?_
     refine QK rfl ?_
     refine Qs (QS (QJ (Qa ?_)))
     refine Rr (QN rfl rfl omg) ?_
     refine Rr (mvI rfl) ?_
     refine Qb ?_
     refine ⟨1 + 1, ⟨sT, trivial⟩, oT, ⟨?_, hXL73⟩, ?_⟩
     ·show 1 + 1 ≤ 3; omega
     ·show 3 - (1 + 1) < 3 - 1; omega
    have he : e59 = 0 := bne_eq_false_iff_eq.1 hc6
    obtain ⟨-, hyes, hL1⟩ := hok59.resolve_right (fun h => by have := h.1; omega)
    have hrb := okR_vs (by omega) hyes
    rw [← hL1] at hrb
    refine Qs (Qd (Qa ?_))
    refine Rr (QA isAgg63 sizeOf63 rfl hb11.at rfl) ?_
    refine Qn rfl (Qy call31 rfl) (Ok.mono (cbytes_ok a59 c59 _ L59 _ hs59 hrb.1.v (by omega)) ?_)
    rintro v72 w101 ⟨hown72, x102⟩
    have z103 := x102.size
    replace hX := hX.ex x102
    replace hXL73 := Bel.ex hXL73 x102
    replace hsR := hsR.ext x102
    replace hown72 := hown72.mono (D' := fun g => w.heap.size ≤ g) (fun g h1 h2 => by omega)
    refine Rr (mvS rfl) ?_
    refine Qn rfl (QI call30 rfl rfl) (Ok.mono (ceqb_okV _ _ _ _ (obytes L59) R _ (hown72.rd QL) ⟨_, _, rfl, hsR⟩) ?_)
    rintro _ w104 ⟨rfl, x105⟩
    have z106 := x105.size
    replace hX := hX.ex x105
    replace hXL73 := Bel.ex hXL73 x105
    refine Rr (QQ rfl) ?_
    refine Qb ?_
    refine QK (congrArg Value.bool (by rw [hrb.2.2, beq_self_eq_true]; rfl)) ?_
    refine Qs (Qa ?_)
    refine Rr (QN rfl rfl omg) ?_
    refine Rr (mvI rfl) ?_
    refine Qb ?_
    refine ⟨1 + 1, ⟨sT, trivial⟩, oT, ⟨?_, hXL73⟩, ?_⟩
    ·show 1 + 1 ≤ 3; omega
    ·show 3 - (1 + 1) < 3 - 1; omega
   obtain rfl : k = 2 := by omega
   refine Qn rfl (Qy call29 rfl) (Ok.mono (cread_ok _ _ C _ ⟨_, _, rfl, hsC⟩ (by omega)) ?_)
   rintro _ w107 ⟨⟨a59, c59, L59, e59, rfl, hs59, hok59⟩, x108⟩
   have z109 := x108.size
   replace hX := hX.ex x108
   replace hXL73 := Bel.ex hXL73 x108
   replace hsC := hsC.ext x108
   refine Rr (Qh (v := .tuple _) rfl) ?_
   refine Rr (QC rfl rfl) ?_
   refine Rr (QC rfl rfl) ?_
   refine QR rfl rfl zeroValue63 rfl sizeOf63 (fun _ => rfl) rfl rfl ?_
   intro b11 w110 x111 hge11 hb11
   have hlt11 := hb11.lt
   change Box _ _ _ (wsS _ _ _) at hb11
   have z112 := x111.size
   replace hX := hX.ex x111
   replace hXL73 := Bel.ex hXL73 x111
   replace hsC := hsC.ext x111
   replace hs59 := hs59.ext x111
   refine Rr (asI rfl) ?_
   refine Qb (Qd (Qd (Qa ?_)))
   refine Rr (mvI rfl) ?_
   refine Rr (Zn rfl rfl) ?_
   refine Qb ?_
   refine Qt rfl (fun hc9 => ?_) (fun hc9 => ?_)
   ·have he : e59 ≠ 0 := bne_iff_ne.1 hc9
    obtain ⟨he6, -, hL0⟩ := hok59.resolve_left (fun h => he h.1)
    subst he6 hL0
    refine Qd (Qd (Qa ?_))
    refine Rr (mvI rfl) ?_
    refine Rr (Zn rfl rfl) ?_
    refine Rr (mvB rfl) ?_
    refine Qv 2 66 rfl rfl ?_
    refine Rr (QA isAgg63 sizeOf63 rfl hb11.at rfl) ?_
    refine Qv 2 66 rfl rfl ?_
    refine Qn rfl (Qy call20 rfl) (Ok.mono (cempty_ok a59 c59 _ [] _ hs59) ?_)
    rintro _ w113 ⟨rfl, x114⟩
    have z115 := x114.size
    replace hX := hX.ex x114
    replace hXL73 := Bel.ex hXL73 x114
    refine Qv 2 66 rfl rfl ?_
    refine Rr (QQ rfl) ?_
    refine Rr (Q0 (v := .bool _) rfl rfl) ?_
    refine Qb ?_
    refine QK rfl ?_
    refine Qs (QS (QJ (Qa ?_)))
    refine Rr (QN rfl rfl omg) ?_
    refine Rr (mvI rfl) ?_
    refine Qb ?_
    refine ⟨2 + 1, ⟨sT, trivial⟩, oT, ⟨?_, hXL73⟩, ?_⟩
    ·show 2 + 1 ≤ 3; omega
    ·show 3 - (2 + 1) < 3 - 2; omega
   have he : e59 = 0 := bne_eq_false_iff_eq.1 hc9
   obtain ⟨-, hyes, hL1⟩ := hok59.resolve_right (fun h => by have := h.1; omega)
   have hrb := okR_vs (by omega) hyes
   rw [← hL1] at hrb
   refine Qs (Qd (Qa ?_))
   refine Rr (QA isAgg63 sizeOf63 rfl hb11.at rfl) ?_
   refine Qn rfl (Qy call31 rfl) (Ok.mono (cbytes_ok a59 c59 _ L59 _ hs59 hrb.1.v (by omega)) ?_)
   rintro v72 w116 ⟨hown72, x117⟩
   have z118 := x117.size
   replace hX := hX.ex x117
   replace hXL73 := Bel.ex hXL73 x117
   replace hsC := hsC.ext x117
   replace hown72 := hown72.mono (D' := fun g => w.heap.size ≤ g) (fun g h1 h2 => by omega)
   refine Rr (mvS rfl) ?_
   refine Qn rfl (QI call30 rfl rfl) (Ok.mono (ceqb_okV _ _ _ _ (obytes L59) C _ (hown72.rd QL) ⟨_, _, rfl, hsC⟩) ?_)
   rintro _ w119 ⟨rfl, x120⟩
   have z121 := x120.size
   replace hX := hX.ex x120
   replace hXL73 := Bel.ex hXL73 x120
   refine Rr (QQ rfl) ?_
   refine Qb ?_
   refine QK (congrArg Value.bool (by rw [hrb.2.2, beq_self_eq_true]; rfl)) ?_
   refine Qs (Qa ?_)
   refine Rr (QN rfl rfl omg) ?_
   refine Rr (mvI rfl) ?_
   refine Qb ?_
   refine ⟨2 + 1, ⟨sT, trivial⟩, oT, ⟨?_, hXL73⟩, ?_⟩
   ·show 2 + 1 ≤ 3; omega
   ·show 3 - (2 + 1) < 3 - 2; omega
  skip
  refine QS (QJ (Qd (Qa ?_)))
  refine Rr Qf ?_
  refine Qb (Qx ?_)
  refine ⟨_, Qu rfl rfl, ?_⟩
  refine ⟨congrArg Value.bool ?_, hX⟩
  all_goals (rfl)

end Go.Proofs.YtdnkjdmfnmdpdaaGreatDoor
