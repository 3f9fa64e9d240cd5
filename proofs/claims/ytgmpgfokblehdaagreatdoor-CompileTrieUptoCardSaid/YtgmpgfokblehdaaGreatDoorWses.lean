/- Walks: what functions return. -/
import Derived.Test.YtgmpgfokblehdaaGreatDoorWsli
import Derived.Test.YtgmpgfokblehdaaGreatDoorWnew
set_option linter.unusedVariables false
set_option linter.unusedSimpArgs false
set_option linter.unnecessarySimpa false
namespace Go.Proofs.YtgmpgfokblehdaaGreatDoor
open Go Go.Lx Go.RowKit Tryz
set_option maxRecDepth 100000
theorem bwithout_ok (w : World) (s : SV) (Gs : Nat → Prop) (hs : Sl encU 1 Gs w s.a s.c (wl s.x)) (i : Nat) (hi : i < 64) (hb : s.x.getLsbD i = true) : Ok Tryz.prog 158 #[.agg (encSV s).toArray, .int .i64 (i : Int)] w fun v w' => ∃ a c, v = .agg (encSV ⟨a, c, s.x &&& ~~~(oneW i)⟩).toArray ∧ Sl encU 1 (Fsh w w') w' a c (wl (s.x &&& ~~~(oneW i))) ∧ Ext False w w' := by
 replace hs := hs.mono (F' := fun g => Gs g ∧ g < w.heap.size) (fun g h1 h2 => ⟨h2, h1⟩)
 have hw1 : wl s.x = [s.x] := JN (by rintro e; rw [e] at hb; simp at hb)
 have hl1 : (wl s.x).length = 1 := by rw [hw1]; rfl
 refine Qv 27 func158 rfl rfl rfl ?_
 have hX := xRf w
 refine Qf (Qb (QH rfl (QX (v := .agg _) rfl) ?_))
 intro b2 w1 x2 hge2 hb2
 have hlt2 := hb2.lt
 have z3 := x2.size
 replace hX := hX.ex x2
 replace hs := hs.ext x2
 refine QH rfl (Q4 zeroValue32) ?_
 intro b4 w4 x5 hge4 hb4
 have hlt4 := hb4.lt
 have z6 := x5.size
 replace hX := hX.ex x5
 replace hs := hs.ext x5
 replace hb2 := hb2.ext x5
 refine Qc (Qf (Qf (Qb (Rr (QF isAgg32 sizeOf32 rfl hb2.at rfl) (Rr (mvI rfl) ?_)))))
 refine Qo rfl (QB call65 rfl rfl) (Ok.mono (Jr _ ⟨_, _, _⟩ _ hs _ (by unfold I64; omega)) ?_)
 rintro _ w7 ⟨rfl, x8⟩
 have z9 := x8.size
 replace hX := hX.ex x8
 replace hs := hs.ext x8
 replace hb2 := hb2.ext x8
 replace hb4 := hb4.ext x8
 refine Rr (Zp rfl) (Qc ?_)
 refine Qq (cvB (by rw [Vg, hb]; rfl)) ?_
 refine Qp (Qf (Qb ?_))
 obtain ⟨n0, hn0⟩ : ∃ n, n = w7.heap.size := ⟨_, rfl⟩
 refine ZP (vs := []) (([] : List W64)) rfl Zh Jh rfl rfl trivial rfl rfl rfl rfl ?_
 intro a11 w10 x11 hown11
 have z12 := x11.size
 replace hX := hX.ex x11
 replace hs := hs.ext x11
 replace hb2 := hb2.ext x11
 replace hb4 := hb4.ext x11
 replace hown11 := hown11.mono (D' := fun g => n0 ≤ g) (fun g h1 h2 => by omega)
 refine Rr (Qy underlying32 rfl sizeOf30 rfl) (Rr (Qm isAgg30 rfl (hb2.at.get 0 rfl)) ?_)
 refine ZZ rfl Zh Jh rfl rfl hown11 hs rfl (by simp; omega) omU ?_
 intro v14 w13 x14 hown11
 have z15 := x14.size
 replace hX := Bel.out hX x14 om2
 replace hb4 := hb4.keep x14 om1
 refine Rr (QL (v := v14) rfl) (Qc (Qf ?_))
 rw [List.nil_append, hw1] at hown11
 obtain ⟨a11, c11, hv11, -⟩ := hown11.sl Zh
 subst hv11
 apply Q3 (β := False) [peq _, peq _, peq _, peq _, peq _, peq _, peq _, peq _, peq _, peq _] 10 QV (by kernel_rfl) rfl ⟨Qd _, Qd _, Qd _, Qd _, Qd _, Qd _, Qd _, Qd _, Qd _, Qd _, trivial⟩ ?ob4 ?fin4
 case ob4 =>
  refine Qg (fun _ _ => Qe (Qn rfl (QG (v := .slice a11 1 c11) rfl))) (Qg (fun _ _ => Qe (Qn rfl (mvI rfl))) (Qg (fun w22 x23 => ?_) ?_))
  ·refine Qa (Qe ?_)
   exact Qn rfl (o_quoZ (b := 64) rfl rfl (by omega) (by omega) (by unfold I64; omega))
  refine Qg (fun w25 x26 => ?_) ?_
  ·have hown11 := hown11.ext x26
   exact Qa (Qa (Qe (Qn rfl (ZE (i := 0) underlying30 sizeOf126 hown11 rfl rfl (by simp)))))
  refine Qg (fun w28 x29 => ?_) ?_
  ·have hown11 := hown11.ext x29
   exact Qa (Qe (Qn rfl (Zx isAgg126 (hown11.slA Zh) rfl rfl (i := 0) rfl rfl)))
  refine Qg (fun _ _ => Qe (Qn rfl (mvI rfl))) (Qg (fun w34 x35 => ?_) ?_)
  ·refine Qa (Qe ?_)
   exact Qn rfl (Yq (b := 64) rfl rfl (by omega) (by decide) (by unfold I64; omega))
  refine Qg (fun w37 x38 => Qa (Qe (Qn rfl (o_shlU (a := BitVec.ofNat 64 1) rfl rfl (Nat.mod_lt _ (by decide)))))) (Qg (fun _ _ => Qa (Qa (Qe (Qn rfl (o_bandn rfl rfl))))) (Qg (fun w43 x44 => ?_) ?_))
  ·have hown11 := hown11.ext x44
   exact Qa (Qa (Qa (Qa (Qa (Qa (Qa (Qa (Qa (Qa (Qa (Qe (Qn rfl (ZE (i := 0) underlying30 sizeOf126 hown11 rfl rfl (by simp))))))))))))))
  exact QR
 case fin4 =>
  intro w46 x47
  have z48 := x47.size
  replace hX := hX.ex x47
  replace hb4 := hb4.ext x47
  replace hown11 := hown11.ext x47
  refine Qa (Qa (Qa (Qa (Qa (Qa (Qa (Qa (Qa (Qa (Qe (ZG (u := s.x &&& ~~~(1#64 <<< ((i : Int).toNat % 64))) rfl Zh sizeOf126 rfl rfl rfl hown11 (by simp) ?_)))))))))))
  intro w49 x50 hown11
  have z51 := x50.size
  replace hX := Bel.out hX x50 om2
  replace hb4 := hb4.keep x50 om1
  rw [show (i : Int).toNat % 64 = i by omega] at hown11
  refine Qc (Qf (Qb (Rr (QG (v := .slice a11 1 c11) rfl) (Qo rfl (QD call71 rfl) (Ok.mono (Yk _ _ _ [s.x &&& ~~~(oneW i)] _ (hown11.slA Zh) (by simp)) ?_)))))
  rintro _ w52 ⟨rfl, x53⟩
  have z54 := x53.size
  replace hX := hX.ex x53
  replace hb4 := hb4.ext x53
  replace hown11 := hown11.ext x53
  refine QS (v := .agg _) rfl sizeOf32 rfl rfl hb4 rfl rfl rfl ?_
  intro w55 c56 hb4
  have z57 := Bel.size c56
  replace hX := Bel.out hX c56 om2
  replace hown11 := hown11.keepD c56 om3
  exact Qc (Qu ⟨_, ZN (v := .agg _) rfl (Zb isAgg32 sizeOf32 rfl hb4.at rfl), ⟨_, _, rfl, (Vh (hown11.slA Zh) (by simp)).mono (fun g h1 h2 => ⟨by omega, by omega⟩), hX⟩⟩)
theorem sclone_ok (w : World) (vl : Value) (l : List SE) (hl : Rd encSe 3 (Lt w.heap.size) w vl l) (nl : l.length ≤ 100000) : Ok Tryz.prog 62 #[vl] w fun v w' => Own encSe 3 145 (Fsh w w') w' v (l) ∧ Ext False w w' := by
 obtain ⟨al, cl, rfl, hl⟩ := hl; have ml := hl.len
 refine Qv 8 func62 rfl rfl rfl ?_
 have hX := xRf w
 refine Qf (Qb (Rr Qj (Qc (Qf (Qf (Qb (Rr (mvS rfl) (Rr (o_lnil underlying141 rfl) (Qc (Qw rfl (fun hc1 => ?_) (fun hc1 => ?_)))))))))))
 ·have hnl := Vb hl hc1; subst hnl
  exact Qf (Qb (Rr Qj (Qc (Qu ⟨_, Qr rfl rfl, ⟨Own.nil _ _, hX⟩⟩))))
 refine Qp (Qf (Qb (ZP (vs := []) (([] : List SE)) rfl Zw J3 rfl rfl trivial rfl rfl rfl rfl ?_)))
 intro a5 w1 x2 hown5
 have z3 := x2.size
 replace hX := hX.ex x2
 replace hl := hl.ext x2
 replace hown5 := hown5.mono (D' := fun g => w.heap.size ≤ g) (fun g h1 h2 => by omega)
 refine Rr (mvS rfl) ?_
 refine ZZ rfl Zw J3 rfl rfl hown5 hl rfl (by simp; omega) omU ?_
 intro v7 w4 x5 hown5
 replace hX := Bel.out hX x5 om2
 refine Rr (QL (v := v7) rfl) (Qc (Qu ⟨_, Qr rfl rfl, ?_⟩))
 rw [List.nil_append] at hown5; exact ⟨hown5.mono (fun g h1 h2 => by omega), hX⟩
theorem srole_ok (w : World) (r : Int) : Ok Tryz.prog 63 #[.int .i64 r] w fun v w' => v = .bool (decide (1 ≤ r) && decide (r ≤ 63)) ∧ Ext False w w' := by
 refine Qv 9 func63 rfl rfl rfl ?_
 have hX := xRf w
 refine Qf (Qb (Rr Qj (Qc (Qf (Qb (Rr (mvI rfl) (Rr (ZU rfl rfl) (Rr (mvB rfl) (Qs 2 5 rfl rfl rfl (fun hg => mvI rfl) (Qs 2 5 rfl rfl rfl (fun hg => Jk (QK (u := undef) hg) rfl) (Rr (Zt (u := undef) rfl rfl) (Rr (asB rfl) (Qc (Qu ⟨_, Qr rfl rfl, ⟨cvB ?_, hX⟩⟩))))))))))))))
 all_goals (rfl)
theorem sfind1_ok (s : SE) (n : Int) (w : World) (hr : I64 (s.n - n)) : Ok Tryz.prog 132 #[.agg (encSe s).toArray, .int .i64 n] w fun v w' => v = .int .i64 (s.n - n) ∧ Ext False w w' := by
 refine Qv 9 func132 rfl rfl rfl ?_
 have hX := xRf w
 refine Qf (Qb (QH rfl (QX (v := .agg _) rfl) ?_))
 intro b2 w1 x2 hge2 hb2
 replace hX := hX.ex x2
 refine Rr Qj (Qc (Qf (Qb (Rr (Qy underlying145 rfl sizeOf3 rfl) (Rr (Qm isAgg3 rfl (hb2.at.get 0 rfl)) (Rr (mvI rfl) (Rr (Yh rfl rfl hr) (Rr (asI rfl) (Qc (Qu ⟨_, Qr rfl rfl, ⟨congrArg (Value.int .i64) ?_, hX⟩⟩))))))))))
 all_goals (rfl)
theorem sbs_ok (a : Option Addr) (c : Nat) (G : Nat → Prop) (l : List SE) (n : Int) (w : World) (hs : Sl encSe 3 G w a c l) (hm : OkM (l.map SE.rs)) (hn : -1000 ≤ n ∧ n ≤ 1000) : Ok Tryz.prog 131 #[.slice a l.length c, .int .i64 n, .func (.func 132) #[] #[]] w fun v w' => ∃ i : Nat, v = .tuple #[.int .i64 (i : Int), .bool (decide (0 ≤ fnd (l.map SE.rs) n))] ∧ i ≤ l.length ∧ (0 ≤ fnd (l.map SE.rs) n → fnd (l.map SE.rs) n = i) ∧ Ext False w w' := by
 have hlen : l.length ≤ 64 := by have := hm.len; simpa using this
 refine Qv 49 func131 rfl rfl rfl ?_
 have hX := xRf w
 refine Qf (Qb (Rr Qj (Rr Qj (Qc (Qf (Qb (Rr (mvS rfl) (Rr (QC underlying141 rfl) (Rr (asI rfl) (Qc (Qf (Qb (Rr (mvI rfl) (Rr Qj (Rr (asI rfl) (Qc (Qf (Qt (QU (α := Nat × Nat) [(9, 11), (15, 34)] (fun q => [(9, .int .i64 (q.1 : Int)), (10, .int .i64 (q.2 : Int))]) (fun q w' => (BsI (l.map SE.rs) n q.1 q.2) ∧ Ext False w w') (fun q => q.2 - q.1) (0, l.length) ⟨rfl, rfl, trivial⟩ ⟨BsI.start _ _ (by simp), Bel.refl _ _⟩ ?_)))))))))))))))))))
 rintro ⟨i, j⟩ fb3 w2 ⟨hb, hXL1⟩
 dsimp only at *
 replace hX := hX.ex hXL1
 replace hs := hs.ext hXL1
 have hb1 := hb.le
 have hb2 := hb.len
 simp only [List.length_map] at hb2
 refine Qf (Qf (Qb (Rr (mvI rfl) (Rr (mvI rfl) (Rr (QM rfl rfl) (Qc (Qw rfl (fun hc1 => ?_) (fun hc1 => ?_))))))))
 ·replace hc1 := dcT hc1
  have hij : i < j := by omega
  refine Qp (Qt (Qf (Qb (Rr (mvI rfl) (Rr (mvI rfl) (Rr (ZB (p := i) (b := j) rfl rfl (by omega)) (Rr (o_convV (n := i + j) underlying3 underlying187 rfl (by omega)) (Rr (o_shrU (a := BitVec.ofNat 64 (i + j)) (n := 1) rfl rfl (by decide)) (Rr (o_convU (n := ((i + j) / 2)) underlying187 underlying3 rfl (half_nat (by omega)) (by omega)) (Rr (asI rfl) (Qc (Qf (Qb (Rr (QG (v := .func _ _ _) rfl) (Rr (mvS rfl) (Rr (mvI rfl) (Rr (QW underlying141 sizeOf145 hs rfl rfl omg) (Rr (QY isAgg145 sizeOf145 hs rfl (Ze sez (by omega))) (Rr (mvI rfl) ?_)))))))))))))))))))
  refine Qo rfl (JR call132 rfl rfl rfl) (Ok.mono (sfind1_ok (l.getD ((i + j) / 2) sez) n _ (by have h := hm.rng _ (gm (z := rz) (show ((i + j) / 2) < (l.map SE.rs).length by simp; omega)); rw [Yd] at h; have h2 : (l.getD ((i + j) / 2) sez).rs.n = (l.getD ((i + j) / 2) sez).n := rfl; rw [h2] at h; unfold I64; omega)) ?_)
  rintro _ w4 ⟨rfl, x5⟩
  replace hXL1 := Bel.ex hXL1 x5
  refine Rr (QM rfl rfl) (Qc (Qw rfl (fun hc2 => ?_) (fun hc2 => ?_)))
  ·replace hc2 := dcT hc2
   refine Qb (Rr (mvI rfl) (Rr (QO rfl rfl omg) (Rr (asI rfl) (Qc ⟨(((i + j) / 2) + 1, j), ⟨sT, sT, trivial⟩, oT, ⟨?_, hXL1⟩, ?_⟩))))
   ·exact hb.lo hm (by omega) (by omega) (by rw [Yd]; show (l.getD ((i + j) / 2) sez).n < n; omega)
   ·show j - (((i + j) / 2) + 1) < j - i; omega
  replace hc2 := dcF hc2
  refine Qb (Rr (mvI rfl) (Rr (asI rfl) (Qc ⟨(i, ((i + j) / 2)), ⟨sT, sT, trivial⟩, oT, ⟨?_, hXL1⟩, ?_⟩)))
  ·exact hb.hi hm (by omega) (by omega) (by rw [Yd]; show n ≤ (l.getD ((i + j) / 2) sez).n; omega)
  ·show ((i + j) / 2) - i < j - i; omega
 replace hc1 := dcF hc1
 obtain rfl : i = j := by omega
 refine QN (QI (Qf (Qb (Rr (mvI rfl) (Rr (mvI rfl) (Rr (mvI rfl) (Rr (QM rfl rfl) (Rr (mvB rfl) (Qs 4 39 rfl rfl rfl (fun hg => QG (v := .func _ _ _) rfl) (Qs 4 39 rfl rfl rfl (fun hg => mvS rfl) (Qs 4 39 rfl rfl rfl (fun hg => mvI rfl) (Qs 4 39 rfl rfl rfl (fun hg => QW underlying141 sizeOf145 hs (QK (u := undef) hg) (QK (u := undef) hg) omg) (Qs 4 39 rfl rfl rfl (fun hg => QY isAgg145 sizeOf145 hs (QK (u := undef) hg) (Ze sez (by simpa using hg))) (Qs 4 39 rfl rfl rfl (fun hg => mvI rfl) ?_))))))))))))))
 refine Zy 4 39 rfl rfl rfl (fun hg => ⟨(JR call132 (QK (u := undef) hg) (QK (u := undef) hg) (QK (u := undef) hg)), sfind1_ok (l.getD i sez) n _ (by have hil : i < l.length := (by simpa using hg); exact (by have h := hm.rng _ (gm (z := rz) (show i < (l.map SE.rs).length by simp; omega)); rw [Yd] at h; have h2 : (l.getD i sez).rs.n = (l.getD i sez).n := rfl; rw [h2] at h; unfold I64; omega))⟩) ?_
 intro w6 x7
 replace hX := hX.ex x7
 refine Qs 4 39 rfl rfl rfl (fun hg => Zu (QK (u := undef) hg) rfl) (Rr (Zt (u := undef) rfl rfl) (Rr (asI rfl) (Rr (asB rfl) (Qc (Qu ⟨_, QT rfl rfl rfl, ?_⟩)))))
 have he := hb.fin hm
 have e : (decide ((i : Int) < (l.length : Int)) && ((l.getD i sez).n - n == 0)) = decide (0 ≤ fnd (l.map SE.rs) n) := by
  rw [he.1, Yd]
  show _ = (decide (i < (l.map SE.rs).length) && decide ((l.getD i sez).n = n))
  rw [List.length_map]
  congr 1
  ·simp
  ·rw [Bool.eq_iff_iff]; simp; omega
 rw [e]
 exact ⟨i, rfl, hb2, he.2, hX⟩
theorem sfind_ok (v0 : Value) (m : List RS) (w : World) (hb0 : BkIs w v0 m) (hm : OkM m) (n : Int) (hn : -1000 ≤ n ∧ n ≤ 1000) : Ok Tryz.prog 64 #[v0, .int .i64 n] w fun v w' => ∃ i : Nat, v = .tuple #[.int .i64 (i : Int), .bool (decide (0 ≤ fnd m n))] ∧ (0 ≤ fnd m n → fnd m n = i) ∧ Ext False w w' := by
 obtain ⟨pb, b, rfl, hb, rfl⟩ := hb0
 have hba := hb.at'
 have hbl := hb.lt
 have hml := b.mlen
 have hlen : b.l.length ≤ 64 := by have := hm.len; omega
 refine Qv 14 func64 rfl rfl rfl ?_
 have hX := xRf w
 refine Qf (Qb (Rr Qj (Rr Qj (Qc (Qf (Qb (Rr (mvP rfl) (Rr (QJ rfl) (Rr (Qy underlying143 rfl sizeOf141 rfl) (Rr (Qm isAgg141 rfl (hba.get 0 rfl)) (Rr (mvI rfl) (Qo rfl (Zg call131 rfl rfl rfl) (Ok.mono (sbs_ok _ _ _ b.l n _ hb.sl hm hn) ?_)))))))))))))
 rintro _ w1 ⟨i11, rfl, hi11, hf11, x2⟩
 replace hX := hX.ex x2
 exact Rr (QE rfl rfl) (Rr (QE rfl rfl) (Rr (asI rfl) (Rr (asB rfl) (Qc (Qu ⟨_, QT rfl rfl rfl, ⟨i11, rfl, hf11, hX⟩⟩)))))
theorem swith_ok (v0 : Value) (m : List RS) (w : World) (hb0 : BkIs w v0 m) (hm : OkM m) (i : Nat) (s : SE) (G : Nat → Prop) (hs : Sl encU 1 G w s.a s.c (wl s.x)) (hi : i < m.length) : Ok Tryz.prog 66 #[v0, .int .i64 (i : Int), .agg (encSe s).toArray] w fun v w' => BkIs w' v (m.set i s.rs) ∧ Ext False w w' := by
 obtain ⟨pb, b, rfl, hb, rfl⟩ := hb0
 have hba := hb.at'
 have hbl := hb.lt
 have hml := b.mlen
 have hlen : b.l.length ≤ 64 := by have := hm.len; omega
 replace hs := hs.top
 have hib : i < b.l.length := by omega
 refine Qv 20 func66 rfl rfl rfl ?_
 have hX := xRf w
 refine Qf (Qb (QH rfl (QX (v := .agg _) rfl) ?_))
 intro b5 w1 x2 hge5 hb5
 have hlt5 := hb5.lt
 have z3 := x2.size
 replace hX := hX.ex x2
 replace hb := hb.ext x2
 replace hba := hba.ext x2
 replace hs := hs.ext x2
 refine Rr Qj (Qc (Qf (Qb (Rr (mvP rfl) (Rr (QJ rfl) (Rr (Qy underlying143 rfl sizeOf141 rfl) (Rr (Qm isAgg141 rfl (hba.get 0 rfl)) (Qo rfl (QD call62 rfl) (Ok.mono (sclone_ok _ _ _ hb.sl.trd (by omega)) ?_)))))))))
 rintro v12 w4 ⟨hown12, x5⟩
 have z6 := x5.size
 replace hX := hX.ex x5
 replace hb := hb.ext x5
 replace hs := hs.ext x5
 replace hb5 := hb5.ext x5
 replace hown12 := hown12.mono (D' := fun g => w.heap.size ≤ g) (fun g h1 h2 => by omega)
 refine Rr (QL (v := v12) rfl) (Qc (Qf (Qb ?_)))
 obtain ⟨a12, c12, hv12, -⟩ := hown12.sl Zw
 subst hv12
 refine Rr (QG (v := .slice a12 b.l.length c12) rfl) (Rr (mvI rfl) (Rr (QF isAgg145 sizeOf145 rfl hb5.at rfl) (Rr (ZE (i := i) underlying141 sizeOf145 hown12 rfl rfl (by omega)) (ZG (u := s) rfl Zw sizeOf145 rfl rfl rfl hown12 hib ?_))))
 intro w7 x8 hown12
 replace hX := Bel.out hX x8 om2
 replace hb := hb.keep x8 om3
 replace hs := hs.keep x8 om3
 refine Qc (Qf (Qb (Rr (QG (v := .slice a12 b.l.length c12) rfl) (Rr (Q2 (cells := [.slice a12 b.l.length c12]) (vs := [(0, .slice _ _ _)]) rfl (by kernel_rfl)) (QH rfl (QX (v := .agg _) rfl) ?_)))))
 intro b19 w10 x11 hge19 hb19
 replace hX := hX.ex x11
 replace hb := hb.ext x11
 replace hs := hs.ext x11
 replace hown12 := hown12.ext x11
 refine Rr (asP rfl) (Qc (Qu ⟨_, Qr rfl rfl, ?_⟩))
 change Box _ _ _ [.slice a12 b.l.length c12] at hb19
 exact ⟨bk_new (l := b.l.set i s) hb19 (by simp) hown12 (hb.ws.top.set hs.top) mset, hX⟩
theorem sopen_ok (v0 : Value) (m : List RS) (w : World) (hb0 : BkIs w v0 m) (hm : OkM m) (u : Int) : Ok Tryz.prog 20 #[v0, .int .i64 u] w fun v w' => (∃ p, v = .tuple #[p, .int .i64 (openR m u).2.1, .int .i64 (openR m u).2.2] ∧ BkP w' p (openR m u).2.2 (openR m u).1) ∧ Ext False w w' := by
 obtain ⟨pb, b, rfl, hb, rfl⟩ := hb0
 have hba := hb.at'
 have hbl := hb.lt
 have hml := b.mlen
 have hlen : b.l.length ≤ 64 := by have := hm.len; omega
 refine Qv 62 func20 rfl rfl rfl ?_
 have hX := xRf w
 refine Qf (Qb (Rr Qj (Rr Qj (Rr Qj (Qc (Qf (Qf (Qb (Rr (mvP rfl) (Rr (Zi underlying37 rfl rfl) (Rr (mvB rfl) (QA 2 10 rfl rfl (Rr (mvI rfl) (QA 2 10 rfl rfl (Rr (QM rfl rfl) (Rr (Q0 (v := .bool _) rfl rfl) (Rr (mvB rfl) (Qs 6 14 rfl rfl rfl (fun hg => mvI rfl) (Qs 6 14 rfl rfl rfl (fun hg => ZM (QK (u := undef) hg) rfl) (Rr (ZS (u := undef) rfl rfl) (Qc (Qw rfl (fun hc1 => ?_) (fun hc1 => ?_)))))))))))))))))))))))
 ·have hu : u < 1 ∨ 256 < u := by simpa using hc1
  refine Qf (Qb (Rr Qj (Rr Qj (Rr Qj (Qc (Qu ⟨_, res_T (vs := [.pointer _, .int _ _, .int _ _]) rfl ⟨rfl, rfl, rfl, trivial⟩ (by simp), ?_⟩))))))
  have e : openR b.m u = (b.m, 0, 1) := by rw [openR, if_pos hu]
  rw [e]
  exact ⟨⟨_, rfl, ⟨fun h => by simp at h, fun _ => rfl⟩⟩, hX⟩
 have hu : ¬ (u < 1 ∨ 256 < u) := by simpa using hc1
 refine Qp (Qf (Qf (Qb (Rr (mvP rfl) (Rr (QJ rfl) (Rr (Qy underlying143 rfl sizeOf141 rfl) (Rr (Qm isAgg141 rfl (hba.get 0 rfl)) (Rr (QC underlying141 rfl) (Rr (ZU rfl rfl) (Qc (Qw rfl (fun hc2 => ?_) (fun hc2 => ?_))))))))))))
 ·replace hc2 := dcT hc2
  refine Qf (Qb (Rr Qj (Rr Qj (Rr Qj (Qc (Qu ⟨_, res_T (vs := [.pointer _, .int _ _, .int _ _]) rfl ⟨rfl, rfl, rfl, trivial⟩ (by simp), ?_⟩))))))
  have e : openR b.m u = (b.m, 0, 14) := by rw [openR, if_neg hu, if_pos (by omega)]
  rw [e]
  exact ⟨⟨_, rfl, ⟨fun h => by simp at h, fun _ => rfl⟩⟩, hX⟩
 replace hc2 := dcF hc2
 refine Qp (Qf (Qb (Rr Qj (Qc (Qf (Qt (QU (α := Nat) [(7, 7), (24, 45)] (fun k => [(7, .int .i64 (k : Int))]) (fun k w' => (k ≤ b.l.length ∧ ∀ j, j < k → (b.m.getD j rz).n = (j : Int) + 1) ∧ Ext False w w') (fun k => b.l.length - k) 0 ⟨rfl, trivial⟩ ⟨⟨Nat.zero_le _, fun j h => absurd h (Nat.not_lt_zero _)⟩, Bel.refl _ _⟩ ?_)))))))
 rintro k fb3 w2 ⟨⟨hk, hall⟩, hXL1⟩
 have z4 := Bel.size hXL1
 replace hX := hX.ex hXL1
 replace hb := hb.ext hXL1
 replace hba := hba.ext hXL1
 refine Qf (Qf (Qb (Rr (mvI rfl) (Rr (mvP rfl) (Rr (QJ rfl) (Rr (Qy underlying143 rfl sizeOf141 rfl) (Rr (Qm isAgg141 rfl (hba.get 0 rfl)) (Rr (QC underlying141 rfl) (Rr (QM rfl rfl) (Rr (mvB rfl) (Qs 7 31 rfl rfl rfl (fun hg => mvP rfl) (Qs 7 31 rfl rfl rfl (fun hg => QJ (QK (u := undef) hg)) (Qs 7 31 rfl rfl rfl (fun hg => Qy underlying143 rfl sizeOf141 (QK (u := undef) hg)) (Qs 7 31 rfl rfl rfl (fun hg => Qm isAgg141 (QK (u := undef) hg) (hba.get 0 rfl)) (Qs 7 31 rfl rfl rfl (fun hg => mvI rfl) (Qs 7 31 rfl rfl rfl (fun hg => QW underlying141 sizeOf145 hb.sl (QK (u := undef) hg) (QK (u := undef) hg) omg) (Qs 7 31 rfl rfl rfl (fun hg => o_faE underlying145 rfl sizeOf3 hb.sl (QK (u := undef) hg) (Ze sez (by simpa using hg))) (Qs 7 31 rfl rfl rfl (fun hg => o_ldE (j := 0) isAgg3 hb.sl (QK (u := undef) hg) (Ze sez (by simpa using hg)) rfl) (Qs 7 31 rfl rfl rfl (fun hg => mvI rfl) (Qs 7 31 rfl rfl rfl (fun hg => QO (QK (u := undef) hg) rfl omg) (Qs 7 31 rfl rfl rfl (fun hg => Zu (QK (u := undef) hg) (QK (u := undef) hg)) (Rr (Zt (u := undef) rfl rfl) (Qc (Qw rfl (fun hc3 => ?_) (fun hc3 => ?_)))))))))))))))))))))))))
 ·rw [Bool.and_eq_true] at hc3
  have hkl : k < b.l.length := by have := dcT hc3.1; omega
  have hkn : (b.l.getD k sez).n = (k : Int) + 1 := eq_of_beq hc3.2
  refine Qp (Qt (Qb (Rr (mvI rfl) ?_)))
  refine Rr (QO rfl rfl (by unfold I64; omega)) ?_
  refine Rr (asI rfl) (Qc ⟨k + 1, ⟨sT, trivial⟩, oT, ⟨?_, hXL1⟩, ?_⟩)
  ·exact ⟨by omega, fun j hj => (Nat.lt_or_ge j k).elim (hall j) (fun h => by rw [show j = k by omega, BV.mget]; exact hkn)⟩
  ·omega
 have hgap : k = gap b.m := gap_uniq (by omega) hall (fun h e => by
  rw [BV.mget] at e
  have h1 : (decide ((k : Int) < (b.l.length : Int)) && ((b.l.getD k sez).n == (k : Int) + 1)) = true := by
   rw [Bool.and_eq_true]; exact ⟨decide_eq_true (by omega), beq_iff_eq.2 e⟩
  rw [h1] at hc3; cases hc3)
 refine QN (QI (Qf (Qb (Rr (mvP rfl) (Rr (QJ rfl) (Rr (Qy underlying143 rfl sizeOf141 rfl) (Rr (Qm isAgg141 rfl (hba.get 0 rfl)) (Qo rfl (QD call62 rfl) (Ok.mono (sclone_ok _ _ _ hb.sl.trd (by omega)) ?_)))))))))
 rintro v50 w5 ⟨hown50, x6⟩
 have z7 := x6.size
 replace hX := hX.ex x6
 replace hb := hb.ext x6
 refine Rr (mvI rfl) (Rr (mvI rfl) (Rr (QO rfl rfl omg) (Rr (mvI rfl) (Rr (Q2 (cells := [.int .i64 ((k : Int) + 1), .int .i64 u, .slice none 0 0]) (vs := [(0, .int _ _), (1, .int _ _)]) rfl (by kernel_rfl)) (ZP (vs := [.agg _]) (([⟨(k : Int) + 1, u, none, 0, 0⟩] : List SE)) rfl Zw J3 rfl rfl ⟨rfl, trivial⟩ rfl rfl rfl rfl ?_)))))
 intro a56 w8 x9 hown56
 have z10 := x9.size
 replace hX := hX.ex x9
 replace hb := hb.ext x9
 replace hown50 := hown50.ext x9
 refine Qo rfl (Zg call61 rfl rfl rfl) (Ok.mono (sesinsV_ok _ _ _ k _ _ _ _ _ hown50 hown56 hk (by omega) (fun q h1 h2 => by omega)) ?_)
 rintro v57 w11 ⟨hown57, x12⟩
 have z13 := x12.size
 replace hX := Bel.out hX x12 om2
 replace hb := hb.keep x12 om3
 obtain ⟨a57, c57, hv57, -⟩ := hown57.sl Zw
 subst hv57
 refine Rr (Q2 (cells := [.slice a57 (b.l.take k ++ ([⟨(k : Int) + 1, u, none, 0, 0⟩] : List SE) ++ b.l.drop k).length c57]) (vs := [(0, .slice _ _ _)]) rfl (by kernel_rfl)) (QH rfl (QX (v := .agg _) rfl) ?_)
 intro b59 w14 x15 hge59 hb59
 replace hX := hX.ex x15
 replace hb := hb.ext x15
 replace hown57 := hown57.ext x15
 refine Rr (mvI rfl) (Rr (QO rfl rfl omg) (Rr (asP rfl) (Rr (asI rfl) (Rr Qj (Qc (Qu ⟨_, res_T (vs := [.pointer _, .int _ _, .int _ _]) rfl ⟨rfl, rfl, rfl, trivial⟩ (by simp), ?_⟩))))))
 change Box _ _ _ [.slice a57 (b.l.take k ++ ([⟨(k : Int) + 1, u, none, 0, 0⟩] : List SE) ++ b.l.drop k).length c57] at hb59
 have e : openR b.m u = (openM b.m u, (k : Int) + 1, 0) := by rw [openR, if_neg hu, if_neg (by omega), ← hgap]
 rw [e]
 refine ⟨⟨_, rfl, ⟨fun _ => bk_new hb59 rfl hown57 (F := Lt w14.heap.size) (SesAt.app (SesAt.app (hb.ws.top.sub fun s h => List.mem_of_mem_take h) (SesAt.cons Sl.none SesAt.nil)) (hb.ws.top.sub fun s h => List.mem_of_mem_drop h)) ?_, fun h => absurd rfl h⟩⟩, hX⟩
 ·rw [List.append_assoc, List.singleton_append, hgap]; exact map_open
theorem sact_ok (v0 : Value) (m : List RS) (w : World) (hb0 : BkIs w v0 m) (hm : OkM m) (n r : Int) (hn : -1000 ≤ n ∧ n ≤ 1000) (hrr : I64 r) : Ok Tryz.prog 21 #[v0, .int .i64 n, .int .i64 r] w fun v w' => (∃ p, v = .tuple #[p, .int .i64 (setR m n r true).2] ∧ BkP w' p (setR m n r true).2 (setR m n r true).1) ∧ Ext False w w' := by
 obtain ⟨pb, b, rfl, hb, rfl⟩ := hb0
 have hba := hb.at'
 have hbl := hb.lt
 have hml := b.mlen
 have hlen : b.l.length ≤ 64 := by have := hm.len; omega
 refine Qv 46 func21 rfl rfl rfl ?_
 have hX := xRf w
 refine Qf (Qb (Rr Qj (Rr Qj (Qc (Qf (Qf (Qb (Rr (mvP rfl) (Rr (Zi underlying37 rfl rfl) (Rr (mvB rfl) (QA 2 13 rfl rfl (Rr (mvI rfl) (QA 2 13 rfl rfl (Qo rfl (QD call63 rfl) (Ok.mono (srole_ok _ _) ?_)))))))))))))))
 rintro _ w1 ⟨rfl, x2⟩
 have z3 := x2.size
 replace hX := hX.ex x2
 replace hb := hb.ext x2
 replace hba := hba.ext x2
 refine QA 2 13 rfl rfl (Rr (Zp rfl) (Rr (Q0 (v := .bool _) rfl rfl) (Qc (Qw rfl (fun hc1 => ?_) (fun hc1 => ?_)))))
 ·have hr : r < 1 ∨ 63 < r := by simp at hc1; omega
  refine Qf (Qb (Rr Qj (Rr Qj (Qc (Qu ⟨_, QT rfl rfl rfl, ?_⟩)))))
  have e : setR b.m n r true = (b.m, 1) := by rw [setR, if_pos hr]
  rw [e]
  exact ⟨⟨_, rfl, ⟨fun h => by simp at h, fun _ => rfl⟩⟩, hX⟩
 have hr : ¬ (r < 1 ∨ 63 < r) := by simp at hc1; omega
 obtain ⟨rn, rfl⟩ : ∃ q : Nat, r = q := ⟨r.toNat, by omega⟩
 refine Qp (Qf (Qb (Rr (mvP rfl) (Rr (mvI rfl) (Qo rfl (QB call64 rfl rfl) (Ok.mono (sfind_ok _ _ _ hb.is hm n hn) ?_))))))
 rintro _ w4 ⟨i21, rfl, hf21, x5⟩
 have z6 := x5.size
 replace hX := hX.ex x5
 replace hb := hb.ext x5
 replace hba := hba.ext x5
 refine Rr (QG (v := .tuple _) rfl) (Rr (QE rfl rfl) (Rr (QE rfl rfl) (Rr (asI rfl) (Rr (asB rfl) (Qc (Qf (Qf (Qb (Rr (mvB rfl) (Rr (Zp rfl) (Qc (Qw rfl (fun hc2 => ?_) (fun hc2 => ?_)))))))))))))
 ·have hf : fnd b.m n < 0 := by simpa using hc2
  refine Qf (Qb (Rr Qj (Rr Qj (Qc (Qu ⟨_, QT rfl rfl rfl, ?_⟩)))))
  have e : setR b.m n (rn : Int) true = (b.m, 4) := by rw [setR, if_neg hr, if_pos hf]
  rw [e]
  exact ⟨⟨_, rfl, ⟨fun h => by simp at h, fun _ => rfl⟩⟩, hX⟩
 have hf : ¬ fnd b.m n < 0 := by simpa using hc2
 have hfi := hf21 (by omega)
 obtain ⟨i, hi1, hi2, hi3⟩ := fnd_some (m := b.m) (n := n) (by omega)
 obtain rfl : i21 = i := by omega
 have hib : i21 < b.l.length := by omega
 refine Qp (Qf (Qb (Rr (mvP rfl) (Rr (QJ rfl) (Rr (Qy underlying143 rfl sizeOf141 rfl) (Rr (Qm isAgg141 rfl (hba.get 0 rfl)) (Rr (mvI rfl) (Rr (QW underlying141 sizeOf145 hb.sl rfl rfl omg) (Rr (QY isAgg145 sizeOf145 hb.sl rfl (Ze sez hib)) (Zk rfl rfl zeroValue145 rfl sizeOf145 (fun _ => rfl) rfl rfl ?_))))))))))
 intro b10 w7 x8 hge10 hb10
 have hlt10 := hb10.lt
 have z9 := x8.size
 replace hX := hX.ex x8
 replace hb := hb.ext x8
 refine Qc (Qf (Qf (Qb (Rr (Qy underlying145 rfl sizeOf32 rfl) (Rr (QF isAgg32 sizeOf32 rfl (hb10.at.sub 2 1) rfl) (Rr (mvI rfl) ?_))))))
 refine Qo rfl (QB call65 rfl rfl) (Ok.mono (Jr _ ⟨(b.l.getD i21 sez).a, (b.l.getD i21 sez).c, (b.l.getD i21 sez).x⟩ _ (hb.ws _ (gm (z := sez) hib)) _ (by unfold I64; omega)) ?_)
 rintro _ w10 ⟨rfl, x11⟩
 have z12 := x11.size
 replace hX := hX.ex x11
 replace hb := hb.ext x11
 replace hb10 := hb10.ext x11
 refine Qc (Qw rfl (fun hc3 => ?_) (fun hc3 => ?_))
 ·have hh := hc3; rw [Vg] at hh
  refine Qf (Qb (Rr Qj (Rr Qj (Qc (Qu ⟨_, QT rfl rfl rfl, ?_⟩)))))
  have hfn : (fnd b.m n).toNat = i21 := by omega
  have hx0 : (b.m.getD i21 rz).x = (b.l.getD i21 sez).x := by rw [BV.mget]; rfl
  have e : setR b.m n (rn : Int) true = (b.m, 5) := by rw [setR, if_neg hr, if_neg hf, hfn, hx0, if_pos (by rw [hasB, Int.toNat_natCast]; exact hh)]; rfl
  rw [e]
  exact ⟨⟨_, rfl, ⟨fun h => by simp at h, fun _ => rfl⟩⟩, hX⟩
 have hh := hc3; rw [Vg] at hh
 refine Qp (Qf (Qb (Rr (Qy underlying145 rfl sizeOf32 rfl) (Rr (QF isAgg32 sizeOf32 rfl (hb10.at.sub 2 1) rfl) (Rr (mvI rfl) (Qo rfl (QB call55 rfl rfl) (Ok.mono (JX _ ⟨(b.l.getD i21 sez).a, (b.l.getD i21 sez).c, (b.l.getD i21 sez).x⟩ _ (hb.ws _ (gm (z := sez) hib)) rn (by omega)) ?_)))))))
 rintro _ w13 ⟨a40, c40, rfl, hq40, x14⟩
 have z15 := x14.size
 replace hX := hX.ex x14
 replace hb := hb.ext x14
 replace hb10 := hb10.ext x14
 refine Rr (Qy underlying145 rfl sizeOf32 rfl) (Q6 (v := .agg _) rfl sizeOf32 rfl rfl hb10 rfl rfl rfl ?_)
 intro w16 c17 hb10
 have z18 := Bel.size c17
 replace hX := Bel.out hX c17 om2
 replace hb := hb.keep c17 om3
 replace hq40 := hq40.keep c17 om3
 refine Qc (Qf (Qb (Rr (mvP rfl) (Rr (mvI rfl) (Rr (QF isAgg145 sizeOf145 rfl hb10.at rfl) (Qo rfl (Zg call66 rfl rfl rfl) (Ok.mono (swith_ok _ b.m _ hb.is hm i21 ⟨(b.l.getD i21 sez).n, (b.l.getD i21 sez).u, a40, c40, (b.l.getD i21 sez).x ||| oneW rn⟩ _ hq40 (by omega)) ?_)))))))
 rintro v45 w19 ⟨hbk45, x20⟩
 replace hX := hX.ex x20
 refine Rr (QL (v := v45) rfl) (Rr Qj (Qc (Qu ⟨_, QT rfl rfl rfl, ?_⟩)))
 have hfn : (fnd b.m n).toNat = i21 := by omega
 have hx0 : (b.m.getD i21 rz).x = (b.l.getD i21 sez).x := by rw [BV.mget]; rfl
 have e : setR b.m n (rn : Int) true = (b.m.set i21 (⟨(b.l.getD i21 sez).n, (b.l.getD i21 sez).u, (b.l.getD i21 sez).x ||| oneW rn⟩ : RS), 0) := by
  rw [setR, if_neg hr, if_neg hf, hfn, hx0, if_neg (by rw [hasB, Int.toNat_natCast, hh]; simp), Int.toNat_natCast, xor_or (by omega) hh, setM, BV.mget]; rfl
 rw [e]
 exact ⟨⟨v45, rfl, ⟨fun _ => hbk45, fun h => absurd rfl h⟩⟩, hX⟩
