/- Walks: what functions return. -/
import Derived.Test.YtgmpgfokblehdaaGreatDoorWref13
import Derived.Test.YtgmpgfokblehdaaGreatDoorWlaw11a
set_option linter.unusedVariables false
set_option linter.unusedSimpArgs false
set_option linter.unnecessarySimpa false
namespace Go.Proofs.YtgmpgfokblehdaaGreatDoor
open Go Go.Lx Go.RowKit Tryz
set_option maxRecDepth 100000
theorem lrole_ok (w : World) (n : UInt8) : Ok Tryz.prog 30 #[.int .u8 (n.toNat : Int)] w fun v w' => v = .int .i64 (roleN n) ∧ Ext False w w' := by
 have hn := n.toNat_lt
 refine Qv 14 func30 rfl rfl rfl ?_
 have hX := xRf w
 refine Qf (Qb (Rr Qj (Qc (Qf (Qf (Qb (Rr (mvI rfl) (Rr (ZU rfl rfl) (Qc (Qw rfl (fun hc1 => ?_) (fun hc1 => ?_)))))))))))
 ·have h25 : 250 ≤ n.toNat := by have := dcT hc1; omega
  refine Qf (Qb (ZP (vs := [.int _ _, .int _ _, .int _ _, .int _ _, .int _ _, .int _ _]) (roleL) rfl ZH JT rfl rfl ⟨rfl, ⟨rfl, ⟨rfl, ⟨rfl, ⟨rfl, ⟨rfl, trivial⟩⟩⟩⟩⟩⟩ rfl rfl rfl rfl ?_))
  intro a5 w1 x2 hown5
  replace hX := hX.ex x2
  refine Rr (mvI rfl) (Rr (o_subU8 (a := n.toNat) (b := 250) rfl rfl (by omega)) (Rr (ZE (i := n.toNat - 250) underlying153 sizeOf3 hown5 rfl rfl (show _ < 6 by omega)) (Rr (Zx isAgg3 (hown5.slA ZH) rfl rfl (Ze 0 (show _ < 6 by omega)) rfl) (Rr (asI rfl) (Qc (Qu ⟨_, Qr rfl rfl, ⟨congrArg (Value.int .i64) ?_, hX⟩⟩))))))
  all_goals (rw [roleN, if_pos h25])
 have h25 : ¬ 250 ≤ n.toNat := by have := dcF hc1; omega
 refine Qp (Qf (Qb (Rr (mvI rfl) (Rr (o_remU (a := n.toNat) (b := 6) rfl rfl (by decide)) ?_))))
 refine Rr (o_convS underlying5 underlying3 rfl (JM (by unfold I64; omega))) ?_
 refine Rr (QO rfl rfl (by unfold I64; omega)) ?_
 refine Rr (asI rfl) (Qc (Qu ⟨_, Qr rfl rfl, ⟨congrArg (Value.int .i64) ?_, hX⟩⟩))
 all_goals (rw [roleN, if_neg h25])
theorem lentry_ok (e : Ent) (w : World) : Ok Tryz.prog 144 #[.agg (encE e).toArray] w fun v w' => v = .agg (encE e).toArray ∧ Ext False w w' := by
 refine Qv 8 func144 rfl rfl rfl ?_
 have hX := xRf w
 refine Qf (Qb (QH rfl (QX (v := .agg _) rfl) ?_))
 intro b1 w1 x2 hge1 hb1
 have hlt1 := hb1.lt
 have z3 := x2.size
 replace hX := hX.ex x2
 refine QH rfl (Q4 zeroValue52) ?_
 intro b2 w4 x5 hge2 hb2
 have hlt2 := hb2.lt
 have z6 := x5.size
 replace hX := hX.ex x5
 replace hb1 := hb1.ext x5
 refine Qc (Qf (Qb (Rr (Qy underlying88 rfl sizeOf3 rfl) (Rr (Qm isAgg3 rfl (hb1.at.get 0 rfl)) (Rr (Qy underlying88 rfl sizeOf78 rfl) (Rr (QF isAgg78 sizeOf78 rfl (hb1.at.sub 1 3) rfl) (Rr (Q2 (cells := encE e) (vs := [(0, .int _ _), (1, .agg _)]) rfl (by kernel_rfl)) (QS (v := .agg _) rfl sizeOf52 rfl rfl hb2 rfl rfl rfl ?_))))))))
 intro w7 c8 hb2
 have z9 := Bel.size c8
 replace hX := Bel.out hX c8 om2
 exact Qc (Qu ⟨_, ZN (v := .agg _) rfl (Zb isAgg52 sizeOf52 rfl hb2.at rfl), ⟨rfl, hX⟩⟩)
theorem lsame13_ok (a b : Option Addr) (c d : Nat) (A C : Nat → Prop) (x y : List Ent) (w : World) (hx : Sl encE 4 A w a c x) (hy : Sl encE 4 C w b d y) : Ok Tryz.prog 86 #[.slice a x.length c, .slice b y.length d] w fun v w' => v = .bool (x == y) ∧ Ext False w w' := by
 have hlx := hx.len; have hly := hy.len
 replace hx := hx.mono (F' := fun g => g < w.heap.size) (fun g h1 h2 => h1)
 replace hy := hy.mono (F' := fun g => g < w.heap.size) (fun g h1 h2 => h1)
 refine Qv 27 func86 rfl rfl rfl ?_
 have hX := xRf w
 refine Qf (Qb (Rr Qj (Qc (Qf (Qf (Qb (Rr (mvS rfl) (Rr (QC underlying47 rfl) (Rr (mvS rfl) (Rr (QC underlying26 rfl) (Rr (Zv rfl rfl) (Qc (Qw rfl (fun hc1 => ?_) (fun hc1 => ?_))))))))))))))
 ·skip
  refine Qf (Qb (Rr Qj (Qc (Qu ⟨_, Qr rfl rfl, ⟨cvB ?_, hX⟩⟩))))
  all_goals (exact (Yf (by simpa using hc1)).symm)
 have hle : (x.length : Int) = y.length := by simpa using hc1
 refine Qp (Qf (Qf (Qb (Rr (mvS rfl) (Rr (QC underlying26 rfl) (Rr QP (Qc (Qt ?_))))))))
 refine QU (α := Nat) [(4, 6), (14, 26)] (fun k => [(14, .int .i64 (k : Int))]) (fun k w' => (k ≤ y.length ∧ x.take k = y.take k) ∧ Ext False w w') (fun k => y.length - k) 0 ⟨rfl, trivial⟩ ⟨⟨by omega, by simp⟩, Bel.refl _ _⟩ ?_
 rintro k fb3 w2 ⟨⟨hk, hall⟩, hXL1⟩
 have z4 := Bel.size hXL1
 replace hX := hX.ex hXL1
 replace hx := hx.ext hXL1
 replace hy := hy.ext hXL1
 refine Qf (Qb (Rr (QM rfl rfl) (Qc (Qf (Qw rfl (fun hc2 => ?_) (fun hc2 => ?_))))))
 ·replace hc2 := dcT hc2
  refine Qp (Qf (Qt (Qf (Qb (Rr (mvI rfl) (Rr (QW underlying26 sizeOf88 hy rfl rfl omg) (Rr (QY isAgg88 sizeOf88 hy rfl (Ze ez (by omega))) (QH rfl (Q4 zeroValue88) ?_))))))))
  intro b6 w5 x6 hge6 hb6
  have hlt6 := hb6.lt
  have z7 := x6.size
  replace hX := hX.ex x6
  replace hXL1 := Bel.ex hXL1 x6
  replace hx := hx.ext x6
  refine Rr (asI rfl) (QS (v := .agg _) rfl sizeOf88 rfl rfl hb6 rfl rfl rfl ?_)
  intro w8 c9 hb6
  have z10 := Bel.size c9
  replace hX := Bel.out hX c9 om2
  replace hXL1 := Bel.out hXL1 c9 om2
  replace hx := hx.keep c9 om3
  refine Qc (Qf ?_)
  apply Q3 (β := False) [peq _, peq _, peq _, peq _, peq _, peq _, peq _] 7 QV (by kernel_rfl) rfl ⟨Qd _, Qd _, Qd _, Qd _, Qd _, Qd _, Qd _, trivial⟩ ?ob6 ?fin6
  case ob6 =>
   refine Qg (fun _ _ => Qe (Qn rfl (mvS rfl))) (Qg (fun _ _ => Qe (Qn rfl (mvI rfl))) (Qg (fun w17 x18 => ?_) ?_))
   ·have hx := hx.ext x18
    exact Qa (Qa (Qe (Qn rfl (QW underlying47 sizeOf52 hx rfl rfl omg))))
   refine Qg (fun w20 x21 => ?_) ?_
   ·have hx := hx.ext x21
    exact Qa (Qe (Qn rfl (QY isAgg52 sizeOf52 hx rfl (Ze ez (by omega)))))
   refine Qg (fun w23 x24 => ?_) ?_
   ·have hb6 := hb6.ext x24
    exact Qe (Qn rfl (QF isAgg88 sizeOf88 rfl hb6.at rfl))
   exact Qg (fun _ _ => Qa (Qe (Zj rfl (QD call144 rfl) (lentry_ok (y.getD k ez) _)))) (Qg (fun _ _ => Qa (Qa (Qe (Qn rfl (JV eq_ent rfl rfl))))) QR)
  case fin6 =>
   intro w32 x33
   replace hX := hX.ex x33
   replace hXL1 := Bel.ex hXL1 x33
   refine Qa (Qa (Qa (Qa (Qa (Qa (Qa (Qe (Qc (Qw rfl (fun hc3 => ?_) (fun hc3 => ?_))))))))))
   ·refine Qf (Qb (Rr Qj (Qc (Qu ⟨_, Qr rfl rfl, ⟨cvB ?_, hX⟩⟩))))
    all_goals (exact (YX (z := ez) (k := k) (by simpa using hc3)).symm)
   refine Qp (Qb (Rr (QO rfl rfl omg) (Rr (mvI rfl) (Qc ⟨k + 1, ⟨sT, trivial⟩, oT, ⟨?_, hXL1⟩, ?_⟩))))
   ·exact ⟨by omega, JL (z := ez) (by omega) (by omega) hall (by simpa using hc3)⟩
   ·omega
 replace hc2 := dcF hc2
 refine QN (QI (Qf (Qb (Rr Qj (Qc (Qu ⟨_, Qr rfl rfl, ⟨cvB ?_, hX⟩⟩))))))
 all_goals (exact (Yg (k := k) (by omega) (by omega) hall).symm)
theorem lis13_ok (v0 : Value) (m : List Ent) (w : World) (hb0 : GbIs w v0 m) (hm : OkG m) (v1 : Value) (hs : Rd encE 4 (Lt w.heap.size) w v1 m) : Ok Tryz.prog 34 #[v0, v1] w fun v w' => v = .bool true ∧ Ext False w w' := by
 obtain ⟨a, c, rfl, hs⟩ := hs
 have hml := hm.len
 replace hs := hs.mono (F' := fun g => g < w.heap.size) (fun g h1 h2 => h1)
 refine Qv 16 func34 rfl rfl rfl ?_
 have hX := xRf w
 refine Qf (Qb (Rr Qj (Qc (Qf (Qb (Rr (QG (v := v0) rfl) (Qo rfl (QD call85 rfl) (Ok.mono (glen_ok _ _ _ hb0 hm) ?_))))))))
 rintro _ w1 ⟨rfl, x2⟩
 have z3 := x2.size
 replace hX := hX.ex x2
 replace hb0 := hb0.ext x2
 replace hs := hs.ext x2
 refine Rr (mvS rfl) (Rr (QC underlying26 rfl) (Rr (Zu rfl rfl) (Rr (mvB rfl) (QA 5 10 rfl (cvB (by simp)) (Rr (QG (v := v0) rfl) (QA 5 10 rfl (cvB (by simp)) (Qo rfl (QD call10 rfl) (Ok.mono (JE _ _ _ hb0 hm) ?_))))))))
 rintro v12 w4 ⟨hown12, x5⟩
 have z6 := x5.size
 replace hX := hX.ex x5
 replace hs := hs.ext x5
 replace hown12 := hown12.mono (D' := fun g => w.heap.size ≤ g) (fun g h1 h2 => by omega)
 obtain ⟨a12, c12, hv12, hs12⟩ := hown12.sl QZ
 subst hv12
 refine QA 5 10 rfl (cvB (by simp)) (Rr (mvS rfl) (QA 5 10 rfl (cvB (by simp)) (Qo rfl (QB call86 rfl rfl) (Ok.mono (lsame13_ok _ _ _ _ _ _ _ _ _ hs12 hs) ?_))))
 rintro _ w7 ⟨rfl, x8⟩
 replace hX := hX.ex x8
 refine Rr (Q7 (v := .bool _) (cvB (by simp)) rfl) (Rr (asB rfl) (Qc (Qu ⟨_, Qr rfl rfl, ⟨cvB ?_, hX⟩⟩)))
 all_goals (simp)
theorem lplay13_ok (w : World) (vl : Value) (l : List GOp) (hl : Rd encGo 5 (Lt w.heap.size) w vl l) (dl : ∀ z ∈ l, Sl encB 1 (Lt w.heap.size) w z.p.a z.p.c z.p.names) : Ok Tryz.prog 5 #[vl] w fun v w' => (∃ p q m, v = .tuple #[.pointer (some ⟨p, 0, none⟩), q] ∧ OkG m ∧ GbF (Lt w'.heap.size) w' (.pointer (some ⟨p, 0, none⟩)) m ∧ Rd encE 4 (Lt w'.heap.size) w' q m) ∧ Ext False w w' := by
 obtain ⟨al, cl, rfl, hl⟩ := hl; have ml := hl.len
 refine Qv 102 func5 rfl rfl rfl ?_
 have hX := xRf w
 refine Qf (Qb (Rr Qj (Rr Qj (Qc (Qf (Qb (Qo rfl (Z1 call9) (Ok.mono (gnew_ok _) ?_))))))))
 rintro _ w1 ⟨p14, rfl, hbk14, x2⟩
 have z3 := x2.size
 replace hX := hX.ex x2
 replace dl := (fun z hz => (dl z hz).ext x2)
 replace hl := hl.ext x2
 refine Rr (asP rfl) (Qc (Qf (Qb (Rr Qj (Qc (Qf (Qf (Qb (Rr Qj (Qc (Qt (QU (α := Nat × List Ent × Nat × Value) [(2, 13), (15, 99)] (fun q => [(6, .int .i64 (q.1 : Int)), (4, .pointer (some ⟨q.2.2.1, 0, none⟩)), (5, q.2.2.2)]) (fun q w' => (OkG q.2.1) ∧ Ext False w1 w' ∧ (GbIs w' (.pointer (some ⟨q.2.2.1, 0, none⟩)) q.2.1 ∧ Rd encE 4 (Lt w'.heap.size) w' q.2.2.2 q.2.1)) (fun q => 14 - q.1) (0, [], p14, .slice none 0 0) ⟨rfl, rfl, rfl, trivial⟩ ⟨OkG.nil, Bel.refl _ _, ⟨hbk14, Rd.none⟩⟩ ?_))))))))))))
 rintro ⟨k, m, pb, vm⟩ fb6 w5 ⟨hm, hXL4, ⟨hbk, hrq⟩⟩
 dsimp only at *
 have z7 := Bel.size hXL4
 replace hX := hX.ex hXL4
 replace dl := (fun z hz => (dl z hz).ext hXL4)
 replace hl := hl.ext hXL4
 obtain ⟨n0, hn0⟩ : ∃ n, n = w5.heap.size := ⟨_, rfl⟩
 replace hbk : GbF (fun g => g < n0) _ _ _ := hbk.f.mono (fun g h1 h2 => by omega)
 replace hrq := hrq.mono (F' := fun g => g < n0) (fun g h1 h2 => by omega)
 refine Qf (Qf (Qb (Rr (mvI rfl) (Rr (mvS rfl) (Rr (QC underlying22 rfl) (Rr (QM rfl rfl) (Rr (mvB rfl) (Qs 4 19 rfl rfl rfl (fun hg => mvI rfl) (Qs 4 19 rfl rfl rfl (fun hg => QM (QK (u := undef) hg) rfl) (Rr (Zt (u := undef) rfl rfl) (Rr (mvB rfl) (Qs 8 23 rfl rfl rfl (fun hg => mvP rfl) (Qs 8 23 rfl rfl rfl (fun hg => o_pne underlying25 (QK (u := undef) hg) rfl) (Rr (Zt (u := undef) rfl rfl) (Qc (Qw rfl (fun hc1 => ?_) (fun hc1 => ?_)))))))))))))))))
 ·have hkl : k < l.length := by rw [Bool.and_eq_true, Bool.and_eq_true] at hc1; have := dcT hc1.1.1; omega
  have hk14 : k < 14 := by rw [Bool.and_eq_true, Bool.and_eq_true] at hc1; have := dcT hc1.1.2; omega
  refine Qp (Qf (Qt (Qf (Qb (Rr (mvS rfl) (Rr (mvI rfl) (Rr (QW underlying22 sizeOf85 hl rfl rfl omg) (Rr (o_faE underlying85 rfl sizeOf83 hl rfl (Ze goz hkl)) (Rr (o_ldES (j := 2) isAgg83 sizeOf83 hl rfl (Ze goz hkl) rfl rfl) (Qo rfl (QD call29 rfl) (Ok.mono (make_ok _ (l.getD k goz).p (dl _ (getD_mem hkl)).top) ?_)))))))))))
  rintro _ w8 ⟨rfl, x9⟩
  have z10 := x9.size
  replace hXL4 := Bel.ex hXL4 x9
  replace hl := hl.ext x9
  replace hbk := hbk.ext x9
  replace hrq := hrq.ext x9
  refine Rr (QG (v := .tuple _) rfl) (Rr (QE rfl rfl) (Rr (QE rfl rfl) (QH rfl (Q4 zeroValue50) ?_)))
  intro b7 w11 x12 hge7 hb7
  have hlt7 := hb7.lt
  have z13 := x12.size
  replace hXL4 := Bel.ex hXL4 x12
  replace hl := hl.ext x12
  replace hbk := hbk.ext x12
  replace hrq := hrq.ext x12
  refine QH rfl (Q4 zeroValue78) ?_
  intro b8 w14 x15 hge8 hb8
  have hlt8 := hb8.lt
  have z16 := x15.size
  replace hXL4 := Bel.ex hXL4 x15
  replace hl := hl.ext x15
  replace hbk := hbk.ext x15
  replace hrq := hrq.ext x15
  replace hb7 := hb7.ext x15
  refine QS (v := .agg _) rfl sizeOf50 rfl rfl hb7 rfl rfl rfl ?_
  intro w17 c18 hb7
  have z19 := Bel.size c18
  replace hXL4 := Bel.out hXL4 c18 om2
  replace hl := hl.keep c18 om3
  replace hbk := hbk.keep c18 om1
  replace hrq := hrq.keep c18 om3
  replace hb8 := hb8.keep c18 om1
  refine QS (v := .agg _) rfl sizeOf78 rfl rfl hb8 rfl rfl rfl ?_
  intro w20 c21 hb8
  have z22 := Bel.size c21
  replace hXL4 := Bel.out hXL4 c21 om2
  replace hl := hl.keep c21 om3
  replace hbk := hbk.keep c21 om1
  replace hrq := hrq.keep c21 om3
  replace hb7 := hb7.keep c21 om1
  refine Qc (Qf ?_)
  apply Zl (β := False) (fun _ => 0) [peqC _, peqC _, peqC _, peqC _, peqC _, peqC _, peqC _, peqC _, (postBox w20 88 [.int .i64 0, str [], str [], .bool false])] [0, 0, 0, 0, 0, 0, 0, 0, 0] 9 QV (by kernel_rfl) (by kernel_rfl) rfl ⟨Qk _ _, Qk _ _, Qk _ _, Qk _ _, Qk _ _, Qk _ _, Qk _ _, Qk _ _, (Je), trivial⟩ ?ob7 ?fin7
  case ob7 =>
   refine Ql (fun w23 c25 x24 hc026 hk27 => Qi (Qx rfl (mvS rfl))) (Ql (fun w29 c31 x30 hc032 hk33 => Qi (Qx rfl (mvI rfl))) (Ql (fun w35 c37 x36 hc038 hk39 => ?_) ?_))
   ·replace x36 := RelG.ext0 x36
    have hl := hl.ext x36
    exact Qh (Qh (Qi (Qx rfl (QW underlying22 sizeOf85 hl rfl rfl omg))))
   refine Ql (fun w41 c43 x42 hc044 hk45 => ?_) ?_
   ·replace x42 := RelG.ext0 x42
    have hl := hl.ext x42
    exact Qh (Qi (Qx rfl (o_faE underlying85 rfl sizeOf5 hl rfl (Ze goz hkl))))
   refine Ql (fun w47 c49 x48 hc050 hk51 => ?_) ?_
   ·replace x48 := RelG.ext0 x48
    have hl := hl.ext x48
    exact Qh (Qi (Qx rfl (o_ldE (j := 1) isAgg5 hl rfl (Ze goz hkl) rfl)))
   refine Ql (fun w53 c55 x54 hc056 hk57 => Qh (Qi (Jf rfl (QD call30 rfl) (lrole_ok _ (l.getD k goz).rl)))) (Ql (fun w59 c61 x60 hc062 hk63 => ?_) ?_)
   ·replace x60 := RelG.ext0 x60
    have hb8 := hb8.ext x60
    exact Qi (Qx rfl (QF isAgg78 sizeOf78 rfl hb8.at rfl))
   refine Ql (fun w65 c67 x66 hc068 hk69 => Qh (Qh (Qi (Qx rfl (Q2 (cells := encE (l.getD k goz).ent) (vs := [(0, .int _ _), (1, .agg _)]) rfl (by kernel_rfl)))))) (Ql (fun w71 c73 x72 hc074 hk75 => ?_) ?_)
   ·replace x72 := RelG.ext0 x72
    exact Qi (OpC_box (Bel.size x72) rfl (Q4 zeroValue88))
   exact Q8
  case fin7 =>
   intro w77 c79 x78 hc080
   replace x78 := RelG.ext0 x78
   have z81 := x78.size
   replace hXL4 := Bel.ex hXL4 x78
   replace hl := hl.ext x78
   replace hbk := hbk.ext x78
   replace hrq := hrq.ext x78
   replace hb7 := hb7.ext x78
   refine Qh (Qh (Qh (Qh (Qh (Qh (Qh (Qh (Qz (fun v9 hv9 => Qi ?_)))))))))
   obtain ⟨b9, rfl, hge9, hb9, hcb9⟩ := hv9
   have hlt9 := hb9.lt
   refine QS (v := .agg _) rfl sizeOf88 rfl rfl hb9 rfl rfl rfl ?_
   intro w82 c83 hb9
   have z84 := Bel.size c83
   replace hXL4 := Bel.out hXL4 c83 om2
   replace hl := hl.keep c83 om3
   replace hbk := hbk.keep c83 om1
   replace hrq := hrq.keep c83 om3
   replace hb7 := hb7.keep c83 om1
   refine Qc (Qf (Qb (Rr Qj (Qc (Qf (Qb (Rr Qj (Qc (Qf (Qb (Rr (QG (v := vm) rfl) (Rr (QL (v := vm) rfl) (Rr Qj (Qc (Qf (Qf (Qb (Rr (mvS rfl) (Rr (mvI rfl) (Rr (QW underlying22 sizeOf85 hl rfl rfl omg) (Rr (o_faE underlying85 rfl sizeOf4 hl rfl (Ze goz hkl)) (Rr (o_ldE (j := 0) isAgg4 hl rfl (Ze goz hkl) rfl) (Qc (Qw rfl (fun hc2 => ?_) (fun hc2 => ?_)))))))))))))))))))))))))
   ·refine Qf (Qb (Rr (mvP rfl) (Rr (Qy underlying88 rfl sizeOf3 rfl) (Rr (Qm isAgg3 rfl (hb9.at.get 0 rfl)) (Rr (QF isAgg50 sizeOf50 rfl hb7.at rfl) (Qo rfl (Zg call31 rfl rfl rfl) (Ok.mono (gdrop_ok _ m _ hbk.is hm (l.getD k goz).ent (l.getD k goz).okp) ?_)))))))
    rintro _ w85 ⟨⟨p57, rfl, hp57⟩, x86⟩
    replace hXL4 := Bel.ex hXL4 x86
    replace hbk := hbk.ext x86
    replace hrq := hrq.ext x86
    replace hb9 := hb9.ext x86
    refine Rr (QG (v := .tuple _) rfl) (Rr (QE rfl rfl) (Rr (QE rfl rfl) (Rr (QL (v := p57) rfl) (Rr (asI rfl) (Qc (Qb (Rr (QG (v := vm) rfl) (Rr (QF isAgg88 sizeOf88 rfl hb9.at rfl) (Qo rfl (QB call32 rfl rfl) (Ok.mono (r13drop_ok _ _ m _ hrq hm (l.getD k goz).ent) ?_))))))))))
    rintro _ w88 ⟨⟨u63, rfl, hr63⟩, x89⟩
    replace hXL4 := Bel.ex hXL4 x89
    replace hbk := hbk.ext x89
    replace hrq := hrq.ext x89
    replace hp57 := hp57.ext x89
    refine Rr (QG (v := .tuple _) rfl) (Rr (QE rfl rfl) (Rr (QE rfl rfl) (Rr (QL (v := u63) rfl) (Rr (asI rfl) (Qc (Qf (Qf (Qb (Rr (mvI rfl) (Rr (mvI rfl) (Rr (Zv rfl rfl) (Rr (mvB rfl) ((Decidable.em ((dropR m (l.getD k goz).ent).2 = 0)).elim (fun hf => ?_) (fun hf => ?_))))))))))))))
    ·refine QA 3 83 rfl (cvB (by simp)) (Rr (QG (v := p57) rfl) ?_)
     have hbk2 : GbIs w88 p57 (dropR m (l.getD k goz).ent).1 := hp57.1 hf
     obtain ⟨pb2, _, _, hpe, _, _⟩ := hp57.1 hf
     subst hpe
     refine QA 3 83 rfl (cvB (by simp)) (Rr (Zi underlying25 rfl rfl) (QA 3 83 rfl (cvB (by simp)) (Rr (mvI rfl) (QA 3 83 rfl (cvB (by simp)) (Rr (Zv rfl rfl) (QA 3 83 rfl (cvB (by simp)) (Rr (o_bneq underlying4 rfl rfl) (Rr (Q0 (v := .bool _) (cvB (by simp)) rfl) (Qc ?_)))))))))
     refine Qq (cvB (by have hf9 := hf; generalize (dropR m (l.getD k goz).ent).2 = z at hf9 ⊢; simp [hf9])) ?_
     refine Qp (Qf (Qb (Rr (mvI rfl) (Rr (Zu rfl rfl) (Qc ?_)))))
     refine Za (cvB (by have hf9 := hf; generalize (dropR m (l.getD k goz).ent).2 = z at hf9 ⊢; simp [hf9])) ?_
     refine Qf (Qf (Qb (Rr (mvP rfl) (Rr (QG (v := vm) rfl) (Qo rfl (QB call34 rfl rfl) (Ok.mono (lis13_ok _ _ _ hbk.is hm _ hrq.top) ?_))))))
     rintro _ w91 ⟨rfl, x92⟩
     replace hXL4 := Bel.ex hXL4 x92
     replace hr63 := (hr63.ext x92).top
     replace hbk2 := hbk2.ext x92
     refine Rr (Zp rfl) (Qc (Qq rfl (Qp (Qb (Rr (QG (v := .pointer (some ⟨pb2, 0, none⟩)) rfl) (Rr (QG (v := u63) rfl) (Rr (QL (v := .pointer (some ⟨pb2, 0, none⟩)) rfl) (Rr (QL (v := u63) rfl) (Qc (Qb (Rr (mvI rfl) ?_)))))))))))
     refine Rr (QO rfl rfl (by unfold I64; omega)) ?_
     refine Rr (asI rfl) (Qc ⟨(k + 1, (dropR m (l.getD k goz).ent).1, pb2, u63), ⟨sT, sT, sT, trivial⟩, oT, ⟨?_, hXL4, ?_⟩, ?_⟩)
     ·exact (by have h := hm.step (l.getD k goz); have e : (stepGr m (l.getD k goz)).1 = (dropR m (l.getD k goz).ent).1 := (by rw [stepGr, if_pos hc2]); rw [e] at h; exact h)
     ·exact ⟨hbk2, hr63⟩
     ·show 14 - (k + 1) < 14 - k; omega
    refine QA 3 83 rfl (cvB (by simp)) (Rr (QG (v := p57) rfl) ?_)
    obtain hpe := hp57.2 hf
    subst hpe
    refine QA 3 83 rfl (cvB (by simp)) (Rr (Zi underlying25 rfl rfl) (QA 3 83 rfl (cvB (by simp)) (Rr (mvI rfl) (QA 3 83 rfl (cvB (by simp)) (Rr (Zv rfl rfl) (QA 3 83 rfl (cvB (by simp)) (Rr (o_bneq underlying4 rfl rfl) (Rr (Q0 (v := .bool _) (cvB (by simp)) rfl) (Qc ?_)))))))))
    refine Qq (cvB (by have hf9 := hf; generalize (dropR m (l.getD k goz).ent).2 = z at hf9 ⊢; simp [hf9])) ?_
    refine Qp (Qf (Qb (Rr (mvI rfl) (Rr (Zu rfl rfl) (Qc ?_)))))
    refine Qq (cvB (by have hf9 := hf; generalize (dropR m (l.getD k goz).ent).2 = z at hf9 ⊢; simp [hf9])) ?_
    refine Qp (Qb (Rr (mvI rfl) ?_))
    refine Rr (QO rfl rfl (by unfold I64; omega)) ?_
    refine Rr (asI rfl) (Qc ⟨(k + 1, m, pb, vm), ⟨sT, sT, sT, trivial⟩, oT, ⟨?_, hXL4, ?_⟩, ?_⟩)
    ·exact hm
    ·exact ⟨hbk.is, hrq.top⟩
    ·show 14 - (k + 1) < 14 - k; omega
   refine Qf (Qb (Rr (mvP rfl) (Rr (Qy underlying88 rfl sizeOf3 rfl) (Rr (Qm isAgg3 rfl (hb9.at.get 0 rfl)) (Rr (QF isAgg50 sizeOf50 rfl hb7.at rfl) (Qo rfl (Zg call11 rfl rfl rfl) (Ok.mono (ggrant_ok _ m _ hbk.is hm (l.getD k goz).ent (l.getD k goz).okp) ?_)))))))
   rintro _ w94 ⟨⟨p71, rfl, hp71⟩, x95⟩
   replace hXL4 := Bel.ex hXL4 x95
   replace hbk := hbk.ext x95
   replace hrq := hrq.ext x95
   replace hb9 := hb9.ext x95
   refine Rr (QG (v := .tuple _) rfl) (Rr (QE rfl rfl) (Rr (QE rfl rfl) (Rr (QL (v := p71) rfl) (Rr (asI rfl) (Qc (Qb (Rr (QG (v := vm) rfl) (Rr (QF isAgg88 sizeOf88 rfl hb9.at rfl) (Qo rfl (QB call33 rfl rfl) (Ok.mono (r13grant_ok _ _ m _ hrq hm (l.getD k goz).ent (l.getD k goz).okp) ?_))))))))))
   rintro _ w97 ⟨⟨u77, rfl, hr77⟩, x98⟩
   replace hXL4 := Bel.ex hXL4 x98
   replace hbk := hbk.ext x98
   replace hrq := hrq.ext x98
   replace hp71 := hp71.ext x98
   refine Rr (QG (v := .tuple _) rfl) (Rr (QE rfl rfl) (Rr (QE rfl rfl) (Rr (QL (v := u77) rfl) (Rr (asI rfl) (Qc (Qf (Qf (Qb (Rr (mvI rfl) (Rr (mvI rfl) (Rr (Zv rfl rfl) (Rr (mvB rfl) ((Decidable.em ((grantR m (l.getD k goz).ent).2 = 0)).elim (fun hf => ?_) (fun hf => ?_))))))))))))))
   ·refine QA 3 83 rfl (cvB (by simp)) (Rr (QG (v := p71) rfl) ?_)
    have hbk2 : GbIs w97 p71 (grantR m (l.getD k goz).ent).1 := hp71.1 hf
    obtain ⟨pb2, _, _, hpe, _, _⟩ := hp71.1 hf
    subst hpe
    refine QA 3 83 rfl (cvB (by simp)) (Rr (Zi underlying25 rfl rfl) (QA 3 83 rfl (cvB (by simp)) (Rr (mvI rfl) (QA 3 83 rfl (cvB (by simp)) (Rr (Zv rfl rfl) (QA 3 83 rfl (cvB (by simp)) (Rr (o_bneq underlying4 rfl rfl) (Rr (Q0 (v := .bool _) (cvB (by simp)) rfl) (Qc ?_)))))))))
    refine Qq (cvB (by have hf9 := hf; generalize (grantR m (l.getD k goz).ent).2 = z at hf9 ⊢; simp [hf9])) ?_
    refine Qp (Qf (Qb (Rr (mvI rfl) (Rr (Zu rfl rfl) (Qc ?_)))))
    refine Za (cvB (by have hf9 := hf; generalize (grantR m (l.getD k goz).ent).2 = z at hf9 ⊢; simp [hf9])) ?_
    refine Qf (Qf (Qb (Rr (mvP rfl) (Rr (QG (v := vm) rfl) (Qo rfl (QB call34 rfl rfl) (Ok.mono (lis13_ok _ _ _ hbk.is hm _ hrq.top) ?_))))))
    rintro _ w100 ⟨rfl, x101⟩
    replace hXL4 := Bel.ex hXL4 x101
    replace hr77 := (hr77.ext x101).top
    replace hbk2 := hbk2.ext x101
    refine Rr (Zp rfl) (Qc (Qq rfl (Qp (Qb (Rr (QG (v := .pointer (some ⟨pb2, 0, none⟩)) rfl) (Rr (QG (v := u77) rfl) (Rr (QL (v := .pointer (some ⟨pb2, 0, none⟩)) rfl) (Rr (QL (v := u77) rfl) (Qc (Qb (Rr (mvI rfl) ?_)))))))))))
    refine Rr (QO rfl rfl (by unfold I64; omega)) ?_
    refine Rr (asI rfl) (Qc ⟨(k + 1, (grantR m (l.getD k goz).ent).1, pb2, u77), ⟨sT, sT, sT, trivial⟩, oT, ⟨?_, hXL4, ?_⟩, ?_⟩)
    ·exact (by have h := hm.step (l.getD k goz); have e : (stepGr m (l.getD k goz)).1 = (grantR m (l.getD k goz).ent).1 := (by rw [stepGr, if_neg (by rw [hc2]; simp)]); rw [e] at h; exact h)
    ·exact ⟨hbk2, hr77⟩
    ·show 14 - (k + 1) < 14 - k; omega
   refine QA 3 83 rfl (cvB (by simp)) (Rr (QG (v := p71) rfl) ?_)
   obtain hpe := hp71.2 hf
   subst hpe
   refine QA 3 83 rfl (cvB (by simp)) (Rr (Zi underlying25 rfl rfl) (QA 3 83 rfl (cvB (by simp)) (Rr (mvI rfl) (QA 3 83 rfl (cvB (by simp)) (Rr (Zv rfl rfl) (QA 3 83 rfl (cvB (by simp)) (Rr (o_bneq underlying4 rfl rfl) (Rr (Q0 (v := .bool _) (cvB (by simp)) rfl) (Qc ?_)))))))))
   refine Qq (cvB (by have hf9 := hf; generalize (grantR m (l.getD k goz).ent).2 = z at hf9 ⊢; simp [hf9])) ?_
   refine Qp (Qf (Qb (Rr (mvI rfl) (Rr (Zu rfl rfl) (Qc ?_)))))
   refine Qq (cvB (by have hf9 := hf; generalize (grantR m (l.getD k goz).ent).2 = z at hf9 ⊢; simp [hf9])) ?_
   refine Qp (Qb (Rr (mvI rfl) ?_))
   refine Rr (QO rfl rfl (by unfold I64; omega)) ?_
   refine Rr (asI rfl) (Qc ⟨(k + 1, m, pb, vm), ⟨sT, sT, sT, trivial⟩, oT, ⟨?_, hXL4, ?_⟩, ?_⟩)
   ·exact hm
   ·exact ⟨hbk.is, hrq.top⟩
   ·show 14 - (k + 1) < 14 - k; omega
 skip
 exact QN (QI (Qf (Qb (Rr (mvP rfl) (Rr (QG (v := vm) rfl) (Rr (asP rfl) (Rr (QL (v := vm) rfl) (Qc (Qu ⟨_, QT rfl rfl rfl, ⟨⟨_, _, m, rfl, hm, hbk.is.f, hrq.top⟩, hX⟩⟩)))))))))
