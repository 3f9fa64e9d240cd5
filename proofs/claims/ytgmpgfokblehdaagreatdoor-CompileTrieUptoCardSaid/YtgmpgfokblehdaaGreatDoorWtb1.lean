/- Walks: what functions return. -/
import Derived.Test.YtgmpgfokblehdaaGreatDoorWeq7
import Derived.Test.YtgmpgfokblehdaaGreatDoorWtr
set_option linter.unusedVariables false
set_option linter.unusedSimpArgs false
set_option linter.unnecessarySimpa false
namespace Go.Proofs.YtgmpgfokblehdaaGreatDoor
open Go Go.Lx Go.RowKit Tryz
set_option maxRecDepth 100000
theorem tget_ok (a : Option Addr) (c : Nat) (G : Nat → Prop) (l : List SV) (i : Int) (w : World) (hs : Sl encSV 1 G w a c l) : Ok Tryz.prog 70 #[.slice a l.length c, .int .i64 i] w fun v w' => v = .agg (encSV (getV l i)).toArray ∧ Ext False w w' := by
 replace hs := hs.mono (F' := fun g => g < w.heap.size) (fun g h1 h2 => h1)
 refine Qv 18 func70 rfl rfl rfl ?_
 have hX := xRf w
 refine Qf (Qb (QH rfl (Q4 zeroValue32) ?_))
 intro b4 w1 x2 hge4 hb4
 replace hX := hX.ex x2
 replace hs := hs.ext x2
 refine Qc (Qf (Qf (Qb (Rr (mvI rfl) (Rr (QM rfl rfl) (Rr (mvB rfl) (Qs 2 7 rfl rfl rfl (fun hg => mvI rfl) (Qs 2 7 rfl rfl rfl (fun hg => mvS rfl) (Qs 2 7 rfl rfl rfl (fun hg => QC underlying114 (QK (u := undef) hg)) (Qs 2 7 rfl rfl rfl (fun hg => ZU (QK (u := undef) hg) (QK (u := undef) hg)) (Rr (ZS (u := undef) rfl rfl) (Qc (Qw rfl (fun hc1 => ?_) (fun hc1 => ?_))))))))))))))
 ·have ho : ¬ (0 ≤ i ∧ i < (l.length : Int)) := by simp at hc1; omega
  refine Qf (Qb (Rr (Q2 (cells := encSV ⟨none, 0, 0⟩) (vs := []) rfl (by kernel_rfl)) (QS (v := .agg _) rfl sizeOf32 rfl rfl hb4 rfl rfl rfl ?_)))
  intro w4 c5 hb4
  replace hX := Bel.out hX c5 om2
  refine Qc (Qu ⟨_, ZN (v := .agg _) rfl (Zb isAgg32 sizeOf32 rfl hb4.at rfl), ?_⟩)
  rw [getV_out ho]; exact ⟨rfl, hX⟩
 have hin : 0 ≤ i ∧ i < (l.length : Int) := by simp at hc1; omega
 obtain ⟨k, rfl⟩ : ∃ k : Nat, i = (k : Int) := ⟨i.toNat, by omega⟩
 have hk1 : k < l.length := by omega
 refine Qp (Qf (Qb (Rr (mvS rfl) (Rr (mvI rfl) (Rr (QW underlying114 sizeOf32 hs rfl rfl omg) (Rr (QY isAgg32 sizeOf32 hs rfl (Ze sz hk1)) (QS (v := .agg _) rfl sizeOf32 rfl rfl hb4 rfl rfl rfl ?_)))))))
 intro w7 c8 hb4
 replace hX := Bel.out hX c8 om2
 refine Qc (Qu ⟨_, ZN (v := .agg _) rfl (Zb isAgg32 sizeOf32 rfl hb4.at rfl), ?_⟩)
 rw [getV_in hk1]; exact ⟨rfl, hX⟩
theorem JO (b : Nat) (o e1 e2 e3 e4 e5 e6 : Value) (i : Int) (a : Option Addr) (c : Nat) (G : Nat → Prop) (l : List SV) (u : Int) (hu : I64 (u - 1)) (w : World) (hb : At w b 0 [o, .int .i64 i, e1, .slice a l.length c, e3, e4, e5, e6]) (hs : Sl encSV 1 G w a c l) : Ok Tryz.prog 24 #[pB b, .int .i64 u] w fun v w' => v = .agg (encSV (getV l (u - 1))).toArray ∧ Ext False w w' := by
 replace hs := hs.mono (F' := fun g => g < w.heap.size) (fun g h1 h2 => h1)
 have hbl := hb.lt
 refine Qv 15 func24 rfl rfl rfl ?_
 have hX := xRf w
 refine Qf (Qb (QH rfl (Q4 zeroValue32) ?_))
 intro b4 w1 x2 hge4 hb4
 replace hX := hX.ex x2
 replace hb := hb.ext x2
 replace hs := hs.ext x2
 refine Qc (Qf (Qf (Qb (Rr (mvP rfl) (Rr (Zi underlying57 rfl rfl) (Qc (Qq rfl (Qp (Qf (Qb (Rr (mvP rfl) (Rr (QJ rfl) (Rr (Qy underlying119 rfl sizeOf114 rfl) (Rr (Qm isAgg114 rfl (hb.get 3 rfl)) (Rr (mvI rfl) (Rr (Yh rfl rfl hu) (Qo rfl (QB call70 rfl rfl) (Ok.mono (tget_ok a c _ l (u - 1) _ hs) ?_))))))))))))))))))
 rintro _ w4 ⟨rfl, x5⟩
 replace hX := hX.ex x5
 replace hb4 := hb4.ext x5
 refine QS (v := .agg _) rfl sizeOf32 rfl rfl hb4 rfl rfl rfl ?_
 intro w7 c8 hb4
 replace hX := Bel.out hX c8 om2
 exact Qc (Qu ⟨_, ZN (v := .agg _) rfl (Zb isAgg32 sizeOf32 rfl hb4.at rfl), ⟨rfl, hX⟩⟩)
theorem tjun_ok (b : Nat) (o e1 e2 e3 e4 e5 e6 : Value) (i : Int) (a : Option Addr) (c : Nat) (G : Nat → Prop) (l : List SV) (u : Int) (hu : I64 (u - 1)) (w : World) (hb : At w b 0 [o, .int .i64 i, e1, e2, .slice a l.length c, e4, e5, e6]) (hs : Sl encSV 1 G w a c l) : Ok Tryz.prog 172 #[pB b, .int .i64 u] w fun v w' => v = .agg (encSV (getV l (u - 1))).toArray ∧ Ext False w w' := by
 replace hs := hs.mono (F' := fun g => g < w.heap.size) (fun g h1 h2 => h1)
 have hbl := hb.lt
 refine Qv 15 func172 rfl rfl rfl ?_
 have hX := xRf w
 refine Qf (Qb (QH rfl (Q4 zeroValue32) ?_))
 intro b4 w1 x2 hge4 hb4
 replace hX := hX.ex x2
 replace hb := hb.ext x2
 replace hs := hs.ext x2
 refine Qc (Qf (Qf (Qb (Rr (mvP rfl) (Rr (Zi underlying57 rfl rfl) (Qc (Qq rfl (Qp (Qf (Qb (Rr (mvP rfl) (Rr (QJ rfl) (Rr (Qy underlying119 rfl sizeOf114 rfl) (Rr (Qm isAgg114 rfl (hb.get 4 rfl)) (Rr (mvI rfl) (Rr (Yh rfl rfl hu) (Qo rfl (QB call70 rfl rfl) (Ok.mono (tget_ok a c _ l (u - 1) _ hs) ?_))))))))))))))))))
 rintro _ w4 ⟨rfl, x5⟩
 replace hX := hX.ex x5
 replace hb4 := hb4.ext x5
 refine QS (v := .agg _) rfl sizeOf32 rfl rfl hb4 rfl rfl rfl ?_
 intro w7 c8 hb4
 replace hX := Bel.out hX c8 om2
 exact Qc (Qu ⟨_, ZN (v := .agg _) rfl (Zb isAgg32 sizeOf32 rfl hb4.at rfl), ⟨rfl, hX⟩⟩)
theorem teff_ok (b mo : Nat) (o e1 e2 e3 e4 e5 e6 : Value) (i : Int) (M : List (Int × RowV)) (u : Int) (w : World) (hb : At w b 0 [o, .int .i64 i, e1, e2, e3, .map (some mo), e5, e6]) (hM : Mp ekI rowE w mo M) : Ok Tryz.prog 26 #[pB b, .int .i64 u] w fun v w' => v = .agg (encSV ((getM M u).getD rwz0).s).toArray ∧ Ext False w w' := by
 have hbl := hb.lt
 have hml := hM.lt
 refine Qv 15 func26 rfl rfl rfl ?_
 have hX := xRf w
 refine Qf (Qb (QH rfl (Q4 zeroValue32) ?_))
 intro b4 w1 x2 hge4 hb4
 replace hX := hX.ex x2
 replace hb := hb.ext x2
 replace hM := hM.ext x2
 refine Qc (Qf (Qf (Qb (Rr (mvP rfl) (Rr (Zi underlying57 rfl rfl) (Qc (Qq rfl (Qp (Qf (Qb (Rr (mvP rfl) (Rr (QJ rfl) (Rr (Qy underlying119 rfl sizeOf115 rfl) (Rr (Qm isAgg115 rfl (hb.get 5 rfl)) (Rr (mvI rfl) (Rr (o_olook underlying115 underlying3 zeroValue156 hM rfl rfl rfl) (Rr (o_fieldA underlying156 rfl isAgg32 sizeOf32 rfl rfl) (QS (v := .agg _) rfl sizeOf32 rfl rfl hb4 rfl rfl rfl ?_))))))))))))))))))
 intro w4 c5 hb4
 replace hX := Bel.out hX c5 om2
 exact Qc (Qu ⟨_, ZN (v := .agg _) rfl (Zb isAgg32 sizeOf32 rfl hb4.at rfl), ⟨rfl, hX⟩⟩)
theorem Vl (b : Nat) (o e1 e2 e4 e5 e6 : Value) (i0 : Int) (aj : Option Addr) (cj : Nat) (Gj : Nat → Prop) (J : List SV) (s : SV) (Gs : Nat → Prop) (w : World) (hb : At w b 0 [o, .int .i64 i0, e1, e2, .slice aj J.length cj, e4, e5, e6]) (hj : Sl encSV 1 Gj w aj cj J) (hw : WdsAt Gj w J) (hs : Sl encU 1 Gs w s.a s.c (wl s.x)) (hT : Tb w) : Ok Tryz.prog 111 #[pB b, .agg (encSV s).toArray] w fun v w' => ∃ x c, v = .agg (encSV ⟨x, c, clW J (memW s.x 64)⟩).toArray ∧ Sl encU 1 (Fsh w w') w' x c (wl (clW J (memW s.x 64))) ∧ Ext False w w' := by
 have hbl := hb.lt
 replace hj := hj.mono (F' := fun g => g < w.heap.size) (fun g h1 h2 => h1)
 replace hw := WdsAt.mono hw (F' := fun g => g < w.heap.size) (fun g h1 h2 => h1)
 replace hs := hs.mono (F' := fun g => Gs g ∧ g < w.heap.size) (fun g h1 h2 => ⟨h2, h1⟩)
 have hTl := hT.lt
 refine Ok_of_WM 17 func111 rfl rfl rfl ?_
 have hX := xRf w
 refine Qf (Qb (QH rfl (QX (v := .pointer _) rfl) ?_))
 intro b2 w1 x2 hge2 hb2
 have hlt2 := hb2.lt
 have z3 := x2.size
 replace hX := hX.ex x2
 replace hb := hb.ext x2
 replace hj := hj.ext x2
 replace hw := hw.ext x2
 replace hs := hs.ext x2
 replace hT := hT.ext x2
 refine QH rfl (QX (v := .agg _) rfl) ?_
 intro b3 w4 x5 hge3 hb3
 have hlt3 := hb3.lt
 have z6 := x5.size
 replace hX := hX.ex x5
 replace hb := hb.ext x5
 replace hj := hj.ext x5
 replace hw := hw.ext x5
 replace hs := hs.ext x5
 replace hT := hT.ext x5
 replace hb2 := hb2.ext x5
 refine QH rfl (Q4 zeroValue32) ?_
 intro b4 w7 x8 hge4 hb4
 have hlt4 := hb4.lt
 have z9 := x8.size
 replace hX := hX.ex x8
 replace hb := hb.ext x8
 replace hj := hj.ext x8
 replace hw := hw.ext x8
 replace hs := hs.ext x8
 replace hT := hT.ext x8
 replace hb2 := hb2.ext x8
 replace hb3 := hb3.ext x8
 refine Qc (Qf (Qb (Rr (Q2 (cells := encSV ⟨none, 0, 0⟩) (vs := []) rfl (by kernel_rfl)) (Zk rfl rfl zeroValue32 rfl sizeOf32 (fun _ => rfl) rfl rfl ?_))))
 intro b5 w10 x11 hge5 hb5
 have hlt5 := hb5.lt
 have z12 := x11.size
 replace hX := hX.ex x11
 replace hb := hb.ext x11
 replace hj := hj.ext x11
 replace hw := hw.ext x11
 replace hs := hs.ext x11
 replace hT := hT.ext x11
 replace hb2 := hb2.ext x11
 replace hb3 := hb3.ext x11
 replace hb4 := hb4.ext x11
 refine Qc (Qf (Qf (Qb (Rr (QF isAgg32 sizeOf32 rfl hb3.at rfl) (Qo rfl (QD call171 rfl) (Ok.mono (ball_ok _ ⟨_, _, _⟩ _ hs) ?_))))))
 rintro v9 w13 ⟨b9, rfl, hge9, hb9, x14⟩
 have z15 := x14.size
 replace hX := hX.ex x14
 replace hb := hb.ext x14
 replace hj := hj.ext x14
 replace hw := hw.ext x14
 replace hs := hs.ext x14
 replace hT := hT.ext x14
 replace hb2 := hb2.ext x14
 replace hb4 := hb4.ext x14
 replace hb5 := hb5.ext x14
 have hlt9 := hb9.lt
 refine Qc (Qt ?_)
 obtain ⟨m0, hm0⟩ : ∃ m, m = w13.heap.size := ⟨_, rfl⟩
 refine W_range (memW s.x 64) (fun i => Value.int .i64 i) (fun g => g = b5) (fun i w' => Bel False (fun g => g = b5) w13 w' ∧ ∃ a c, Box w' b5 32 (encSV ⟨a, c, clW J ((memW s.x 64).take i)⟩) ∧ Sl encU 1 (fun g => m0 + 2 ≤ g) w' a c (wl (clW J ((memW s.x 64).take i)))) rfl rfl call208 (ball_iter _ _ ⟨_, _, _⟩ _ _ hb9 hs hT (by omega) (by omega) (fun g h1 h2 h3 => by omega)) (fun g h => by omega) (fun i a b hsz hi x => ?_) (fun a x hsz => ?_) (fun l i y w16 hy hsz hi => ?_) (fun w17 hsz hi hmkm0 => ?_)
 ·obtain ⟨hB, ⟨ao, co, hb5, hq5⟩⟩ := hi; exact ⟨Bel.out hB x (fun g h1 h2 => by omega), _, _, hb5.keep x (by omega), hq5.keep x (fun g h1 h2 h3 => by omega)⟩
 ·exact ⟨x.mono fun _ _ h => h.elim, _, _, hb5.ext x, Sl.none⟩
 ·obtain ⟨hXR18, ⟨ao, co, hb5, hq5⟩⟩ := hi
  have z19 := Bel.size hXR18
  replace hX := Bel.out hX hXR18 om2
  replace hb := hb.keep hXR18 om1
  replace hj := hj.keep hXR18 om3
  replace hw := hw.keep hXR18 om3
  replace hb2 := hb2.keep hXR18 om1
  refine Qb (Rr (asI rfl) (Qc ⟨Ext.rfl' _, fun w20 x21 => ?_⟩))
  have z22 := x21.size
  replace hb := hb.keep x21 om1
  replace hj := hj.keep x21 om3
  replace hw := hw.keep x21 om3
  replace hb2 := hb2.keep x21 om1
  replace hb5 := hb5.keep x21 om1
  replace hq5 := hq5.keep x21 om3
  have hXB : Bel False (fun g => g = b5) w20 w20 := Bel.refl _ _
  refine Qt ?_
  apply Q3 (β := False) [peq _, peq _, peq _, (postSV (fun g => g < w.heap.size) (getV J (y - 1)).x), (postSV (fun g => m0 + 2 ≤ g) (clW J ((memW s.x 64).take i) ||| (getV J (y - 1)).x))] 5 QV (by kernel_rfl) rfl ⟨Qd _, Qd _, Qd _, (Zf _ _), (Zf _ _), trivial⟩ ?ob4 ?fin4
  case ob4 =>
   refine Qg (fun w23 x24 => ?_) ?_
   ·have hb5 := hb5.ext x24
    exact Qe (Qn rfl (QF isAgg32 sizeOf32 rfl hb5.at rfl))
   refine Qg (fun w26 x27 => ?_) ?_
   ·have hb2 := hb2.ext x27
    exact Qe (Qn rfl (Qm isAgg57 rfl (hb2.at.get 0 rfl)))
   refine Qg (fun _ _ => Qe (Qn rfl (mvI rfl))) (Qg (fun w32 x33 => ?_) ?_)
   ·have hb := hb.ext x33
    have hj := hj.ext x33
    have hw := hw.ext x33
    refine Qa (Qa (Qe ?_))
    exact ZK rfl (QB call172 rfl rfl) ((tjun_ok b o e1 e2 e2 e4 e5 e6 i0 aj cj _ J y (by have := memW_ok s.x y (List.mem_of_getElem? hy); unfold I64; omega) _ hb hj).mono (fun v w2 ⟨e, x⟩ => ⟨x, _, _, e, (Jx hw (y - 1)).ext x⟩))
   refine Qg (fun w35 x36 => ?_) ?_
   ·have z37 := x36.size
    have hq5 := hq5.ext x36
    refine Qa (QQ (fun v14 hv14 => ?_))
    obtain ⟨a14, c14, rfl, hq14⟩ := hv14
    refine QQ (fun v14 hv14 => ?_)
    obtain ⟨a14, c14, rfl, hq14⟩ := hv14
    exact Qe (ZK rfl (QB call53 rfl rfl) ((bor_ok _ ⟨_, _, _⟩ _ hq5 ⟨_, _, _⟩ _ hq14).mono (fun v w2 ⟨a, c, e, h, x⟩ => ⟨x, a, c, e, h.mono (fun g h1 h2 => by omega)⟩)))
   exact QR
  case fin4 =>
   intro w38 x39
   have z40 := x39.size
   replace hXB := Bel.ex hXB x39
   replace hb5 := hb5.ext x39
   refine Qa (Qa (Qa (QQ (fun v14 hv14 => ?_))))
   obtain ⟨a14, c14, rfl, hq14⟩ := hv14
   refine QQ (fun v15 hv15 => ?_)
   obtain ⟨a15, c15, rfl, hq15⟩ := hv15
   refine Qe (QS (v := .agg _) rfl sizeOf32 rfl rfl hb5 rfl rfl rfl ?_)
   intro w41 c42 hb5
   have z43 := Bel.size c42
   replace hXB := Bel.out hXB c42 om2
   replace hq15 := hq15.keep c42 om3
   refine Qc ⟨hXB, Bel.out (Bel.out hXR18 x21 (fun g h1 h2 => by omega)) hXB (fun g h1 h2 => by first | exact h2 | omega), ?_⟩
   rw [clW_succ hy]; exact ⟨_, _, hb5, hq15⟩
 obtain ⟨hXR44, ⟨ao, co, hb5, hq5⟩⟩ := hi
 have z45 := Bel.size hXR44
 replace hX := Bel.out hX hXR44 om2
 replace hb4 := hb4.keep hXR44 om1
 rw [List.take_length] at hb5 hq5
 rw [← hm0]
 have hmk : Mks w17 [m0] := ⟨by simp, (congrArg (fun k => w17.heap[k]?) hm0).trans hmkm0, trivial⟩
 refine Qf (Qb (Rr (QF isAgg32 sizeOf32 rfl hb5.at rfl) (QS (v := .agg _) rfl sizeOf32 rfl rfl hb4 rfl rfl rfl ?_)))
 intro w46 c47 hb4
 have z48 := Bel.size c47
 replace hX := Bel.out hX c47 om2
 replace hq5 := hq5.keep c47 om3
 replace hmk := hmk.kp c47 (fun g h1 h2 => by simp only [List.mem_singleton] at h1; omega)
 refine Qc (Qu ?_)
 obtain ⟨w49, hw49⟩ : ∃ u, u = shut w46 [m0] := ⟨_, rfl⟩
 have x50 : Bel False (fun g => g ∈ [m0]) w46 w49 := by rw [hw49]; exact shut_bel _ _
 refine ⟨[m0], ?_⟩
 rw [← hw49]
 have hmk0 := hmk
 replace x50 := x50.mono (D' := fun g => g = m0) (fun g _ h => by simpa using h)
 have z51 := x50.size
 replace hX := Bel.out hX x50 om2
 replace hb4 := hb4.keep x50 om1
 replace hq5 := hq5.keep x50 om3
 exact ⟨_, hmk0, ZN (v := .agg _) rfl (Zb isAgg32 sizeOf32 rfl hb4.at rfl), ⟨_, _, rfl, hq5.mono (fun g h1 h2 => ⟨by omega, by omega⟩), hX⟩⟩
