/- Walks: what functions return. -/
import Derived.Test.YtgmpgfokblehdaaGreatDoorWtb3
set_option linter.unusedVariables false
set_option linter.unusedSimpArgs false
set_option linter.unnecessarySimpa false
namespace Go.Proofs.YtgmpgfokblehdaaGreatDoor
open Go Go.Lx Go.RowKit Tryz
set_option maxRecDepth 100000
theorem roweq_ok (r : RowV) (G : Nat → Prop) (w : World) (hs : Sl encU 1 G w r.s.a r.s.c (wl r.s.x)) : Ok Tryz.prog 77 #[rowE r, rowE r] w fun v w' => v = .bool true ∧ Ext False w w' := by
 replace hs := hs.mono (F' := fun g => G g ∧ g < w.heap.size) (fun g h1 h2 => ⟨h2, h1⟩)
 refine Qv 17 func77 rfl rfl rfl ?_
 have hX := xRf w
 refine Qf (Qb (QH rfl (QX (v := .agg _) rfl) ?_))
 intro b2 w1 x2 hge2 hb2
 replace hX := hX.ex x2
 replace hs := hs.ext x2
 refine QH rfl (QX (v := .agg _) rfl) ?_
 intro b3 w3 x4 hge3 hb3
 replace hX := hX.ex x4
 replace hs := hs.ext x4
 replace hb2 := hb2.ext x4
 refine Rr Qj (Qc (Qf (Qb (Rr (Qy underlying156 rfl sizeOf3 rfl) (Rr (Qm isAgg3 rfl (hb2.at.get 0 rfl)) (Rr (Qy underlying156 rfl sizeOf3 rfl) (Rr (Qm isAgg3 rfl (hb3.at.get 0 rfl)) (Rr (Zu rfl rfl) (Rr (mvB rfl) (QA 5 10 rfl (cvB (beq_self_eq_true _)) (Rr (Qy underlying156 rfl sizeOf32 rfl) (QA 5 10 rfl (cvB (beq_self_eq_true _)) (Rr (QF isAgg32 sizeOf32 rfl (hb2.at.sub 1 1) rfl) (QA 5 10 rfl (cvB (beq_self_eq_true _)) (Rr (Qy underlying156 rfl sizeOf32 rfl) (QA 5 10 rfl (cvB (beq_self_eq_true _)) (Rr (QF isAgg32 sizeOf32 rfl (hb3.at.sub 1 1) rfl) (QA 5 10 rfl (cvB (beq_self_eq_true _)) (Qo rfl (QB call16 rfl rfl) (Ok.mono (Z5 _ r.s _ hs r.s _ hs) ?_))))))))))))))))))))
 rintro _ w5 ⟨rfl, x6⟩
 replace hX := hX.ex x6
 refine Rr (Q7 (v := .bool _) (cvB (beq_self_eq_true _)) rfl) (Rr (asB rfl) (Qc (Qu ⟨_, Qr rfl rfl, ⟨cvB ?_, hX⟩⟩)))
 all_goals (exact beq_self_eq_true _)
theorem sveqf_ok (a : Option Addr) (c : Nat) (A : Nat → Prop) (x : List SV) (w : World) (hx : Sl encSV 1 A w a c x) (hw : WdsAt A w x) : Ok Tryz.prog 75 #[.slice a x.length c, .slice a x.length c, .func (.func 16) #[] #[]] w fun v w' => v = .bool true ∧ Ext False w w' := by
 have hlx := hx.len
 replace hx := hx.mono (F' := fun g => g < w.heap.size) (fun g h1 h2 => h1)
 replace hw := WdsAt.mono hw (F' := fun g => g < w.heap.size) (fun g h1 h2 => h1)
 refine Qv 32 func75 rfl rfl rfl ?_
 have hX := xRf w
 refine Qf (Qb (Rr Qj (Qc (Qf (Qf (Qb (Rr (mvS rfl) (Rr (QC underlying114 rfl) (Rr (mvS rfl) (Rr (QC underlying114 rfl) (Rr (Zv rfl rfl) (Qc (Qq (cvB (by simp)) (Qp (Qf (Qf (Qb (Rr (mvS rfl) (Rr (QC underlying114 rfl) (Rr QP (Qc (Qt (QU (α := Nat) [(6, 9), (17, 31)] (fun k => [(17, .int .i64 (k : Int))]) (fun k w' => (k ≤ x.length) ∧ Ext False w w') (fun k => x.length - k) 0 ⟨rfl, trivial⟩ ⟨Nat.zero_le _, Bel.refl _ _⟩ ?_)))))))))))))))))))))))
 rintro k fb3 w2 ⟨hk, hXL1⟩
 have z4 := Bel.size hXL1
 replace hX := hX.ex hXL1
 replace hx := hx.ext hXL1
 replace hw := hw.ext hXL1
 refine Qf (Qb (Rr (QM rfl rfl) (Qc (Qf (Qw rfl (fun hc2 => ?_) (fun hc2 => ?_))))))
 ·have hk1 : k < x.length := by have := dcT hc2; omega
  refine Qp (Qf (Qt (Qf (Qb (Rr (mvI rfl) (Rr (QW underlying114 sizeOf32 hx rfl rfl omg) (Rr (QY isAgg32 sizeOf32 hx rfl (Ze sz hk1)) (QH rfl (Q4 zeroValue32) ?_))))))))
  intro b8 w5 x6 hge8 hb8
  have hlt8 := hb8.lt
  have z7 := x6.size
  replace hXL1 := Bel.ex hXL1 x6
  replace hx := hx.ext x6
  replace hw := hw.ext x6
  refine Rr (asI rfl) (QS (v := .agg _) rfl sizeOf32 rfl rfl hb8 rfl rfl rfl ?_)
  intro w8 c9 hb8
  have z10 := Bel.size c9
  replace hXL1 := Bel.out hXL1 c9 om2
  replace hx := hx.keep c9 om3
  replace hw := hw.keep c9 om3
  refine Qc (Qf (Qb (Rr (mvS rfl) (Rr (mvI rfl) (Rr (QW underlying114 sizeOf32 hx rfl rfl omg) (Rr (QY isAgg32 sizeOf32 hx rfl (Ze sz hk1)) (Zk rfl rfl zeroValue32 rfl sizeOf32 (fun _ => rfl) rfl rfl ?_)))))))
  intro b9 w11 x12 hge9 hb9
  replace hXL1 := Bel.ex hXL1 x12
  replace hw := hw.ext x12
  replace hb8 := hb8.ext x12
  refine Qc (Qf (Qb (Rr (QG (v := .func _ _ _) rfl) (Rr (QF isAgg32 sizeOf32 rfl hb8.at rfl) (Rr (QF isAgg32 sizeOf32 rfl hb9.at rfl) (Qo rfl (JR call16 rfl rfl rfl) (Ok.mono (Z5 _ (x.getD k sz) _ (hw _ (gm (z := sz) hk1)) (x.getD k sz) _ (hw _ (gm (z := sz) hk1))) ?_)))))))
  rintro _ w14 ⟨rfl, x15⟩
  replace hXL1 := Bel.ex hXL1 x15
  refine Rr (Zp rfl) (Qc (Qq (cvB (by simp)) (Qp (Qb (Rr (QO rfl rfl omg) (Rr (mvI rfl) (Qc ⟨k + 1, ⟨sT, trivial⟩, oT, ⟨?_, hXL1⟩, ?_⟩)))))))
  ·show k + 1 ≤ x.length; omega
  ·omega
 skip
 refine QN (QI (Qf (Qb (Rr Qj (Qc (Qu ⟨_, Qr rfl rfl, ⟨cvB ?_, hX⟩⟩))))))
 all_goals (rfl)
theorem ppequal_ok (a b : Option Addr) (c d : Nat) (A C : Nat → Prop) (x y : List Perm) (w : World) (hx : Sl encP 3 A w a c x) (hy : Sl encP 3 C w b d y) : Ok Tryz.prog 74 #[.slice a x.length c, .slice b y.length d] w fun v w' => v = .bool (x == y) ∧ Ext False w w' := by
 have hlx := hx.len; have hly := hy.len
 replace hx := hx.mono (F' := fun g => g < w.heap.size) (fun g h1 h2 => h1)
 replace hy := hy.mono (F' := fun g => g < w.heap.size) (fun g h1 h2 => h1)
 refine Qv 26 func74 rfl rfl rfl ?_
 have hX := xRf w
 refine Qf (Qb (Rr Qj (Qc (Qf (Qf (Qb (Rr (mvS rfl) (Rr (QC underlying158 rfl) (Rr (mvS rfl) (Rr (QC underlying158 rfl) (Rr (Zv rfl rfl) (Qc (Qw rfl (fun hc1 => ?_) (fun hc1 => ?_))))))))))))))
 ·skip
  refine Qf (Qb (Rr Qj (Qc (Qu ⟨_, Qr rfl rfl, ⟨cvB ?_, hX⟩⟩))))
  all_goals (exact (Yf (by simpa using hc1)).symm)
 have hle : (x.length : Int) = y.length := by simpa using hc1
 refine Qp (Qf (Qf (Qb (Rr (mvS rfl) (Rr (QC underlying158 rfl) (Rr QP (Qc (Qt ?_))))))))
 refine QU (α := Nat) [(4, 5), (13, 25)] (fun k => [(13, .int .i64 (k : Int))]) (fun k w' => (k ≤ x.length ∧ x.take k = y.take k) ∧ Ext False w w') (fun k => x.length - k) 0 ⟨rfl, trivial⟩ ⟨⟨by omega, by simp⟩, Bel.refl _ _⟩ ?_
 rintro k fb3 w2 ⟨⟨hk, hall⟩, hXL1⟩
 replace hX := hX.ex hXL1
 replace hx := hx.ext hXL1
 replace hy := hy.ext hXL1
 refine Qf (Qb (Rr (QM rfl rfl) (Qc (Qf (Qw rfl (fun hc2 => ?_) (fun hc2 => ?_))))))
 ·replace hc2 := dcT hc2
  refine Qp (Qf (Qt (Qf (Qb (Rr (mvI rfl) (Rr (asI rfl) (Qc (Qf ?_))))))))
  apply Q3 (β := False) [peq _, peq _, peq _, peq _, peq _, peq _, peq _, peq _, peq _] 9 QV (by kernel_rfl) rfl ⟨Qd _, Qd _, Qd _, Qd _, Qd _, Qd _, Qd _, Qd _, Qd _, trivial⟩ ?ob6 ?fin6
  case ob6 =>
   refine Qg (fun _ _ => Qe (Qn rfl (mvS rfl))) (Qg (fun _ _ => Qe (Qn rfl (mvI rfl))) (Qg (fun w8 x9 => ?_) ?_))
   ·have hx := hx.ext x9
    exact Qa (Qa (Qe (Qn rfl (QW underlying158 sizeOf50 hx rfl rfl omg))))
   refine Qg (fun w10 x11 => ?_) ?_
   ·have hx := hx.ext x11
    exact Qa (Qe (Qn rfl (QY isAgg50 sizeOf50 hx rfl (Ze pz (by omega)))))
   refine Qg (fun _ _ => Qe (Qn rfl (mvS rfl))) (Qg (fun _ _ => Qe (Qn rfl (mvI rfl))) (Qg (fun w16 x17 => ?_) ?_))
   ·have hy := hy.ext x17
    exact Qa (Qa (Qe (Qn rfl (QW underlying158 sizeOf50 hy rfl rfl omg))))
   refine Qg (fun w18 x19 => ?_) ?_
   ·have hy := hy.ext x19
    exact Qa (Qe (Qn rfl (QY isAgg50 sizeOf50 hy rfl (Ze pz (by omega)))))
   exact Qg (fun _ _ => Qa (Qa (Qe (Qn rfl (JV eq_perm rfl rfl))))) QR
  case fin6 =>
   intro w22 x23
   replace hX := hX.ex x23
   replace hXL1 := Bel.ex hXL1 x23
   refine Qa (Qa (Qa (Qa (Qa (Qa (Qa (Qa (Qa (Qe (Qc (Qw rfl (fun hc3 => ?_) (fun hc3 => ?_))))))))))))
   ·refine Qf (Qb (Rr Qj (Qc (Qu ⟨_, Qr rfl rfl, ⟨cvB ?_, hX⟩⟩))))
    all_goals (exact (YX (z := pz) (k := k) (by simpa using hc3)).symm)
   refine Qp (Qb (Rr (QO rfl rfl omg) (Rr (mvI rfl) (Qc ⟨k + 1, ⟨sT, trivial⟩, oT, ⟨?_, hXL1⟩, ?_⟩))))
   ·exact ⟨by omega, JL (z := pz) (by omega) (by omega) hall (by simpa using hc3)⟩
   ·omega
 replace hc2 := dcF hc2
 refine QN (QI (Qf (Qb (Rr Qj (Qc (Qu ⟨_, Qr rfl rfl, ⟨cvB ?_, hX⟩⟩))))))
 all_goals (exact (Yg (k := k) (by omega) (by omega) hall).symm)
theorem teq1_ok (p : PSl) (A : Nat → Prop) (w : World) (hs : Sl encP 3 A w p.a p.c p.l) : Ok Tryz.prog 73 #[.slice p.a p.l.length p.c, .slice p.a p.l.length p.c] w fun v w' => v = .bool true ∧ Ext False w w' := by
 replace hs := hs.mono (F' := fun g => g < w.heap.size) (fun g h1 h2 => h1)
 refine Qv 8 func73 rfl rfl rfl ?_
 have hX := xRf w
 refine Qf (Qb (Rr Qj (Qc (Qf (Qb (Rr (mvS rfl) (Rr (mvS rfl) (Qo rfl (QB call74 rfl rfl) (Ok.mono (ppequal_ok _ _ _ _ _ _ _ _ _ hs hs) ?_)))))))))
 rintro _ w1 ⟨rfl, x2⟩
 replace hX := hX.ex x2
 refine Rr (asB rfl) (Qc (Qu ⟨_, Qr rfl rfl, ⟨cvB ?_, hX⟩⟩))
 all_goals (exact beq_self_eq_true _)
theorem pseqf_ok (a : Option Addr) (c : Nat) (A : Nat → Prop) (x : List PSl) (w : World) (hx : Sl encPS 1 A w a c x) (hw : PssAt A w x) : Ok Tryz.prog 72 #[.slice a x.length c, .slice a x.length c, .func (.func 73) #[] #[]] w fun v w' => v = .bool true ∧ Ext False w w' := by
 have hlx := hx.len
 replace hx := hx.mono (F' := fun g => g < w.heap.size) (fun g h1 h2 => h1)
 replace hw := PssAt.mono hw (F' := fun g => g < w.heap.size) (fun g h1 h2 => h1)
 refine Qv 32 func72 rfl rfl rfl ?_
 have hX := xRf w
 refine Qf (Qb (Rr Qj (Qc (Qf (Qf (Qb (Rr (mvS rfl) (Rr (QC underlying117 rfl) (Rr (mvS rfl) (Rr (QC underlying117 rfl) (Rr (Zv rfl rfl) (Qc (Qq (cvB (by simp)) (Qp (Qf (Qf (Qb (Rr (mvS rfl) (Rr (QC underlying117 rfl) (Rr QP (Qc (Qt (QU (α := Nat) [(6, 9), (17, 31)] (fun k => [(17, .int .i64 (k : Int))]) (fun k w' => (k ≤ x.length) ∧ Ext False w w') (fun k => x.length - k) 0 ⟨rfl, trivial⟩ ⟨Nat.zero_le _, Bel.refl _ _⟩ ?_)))))))))))))))))))))))
 rintro k fb3 w2 ⟨hk, hXL1⟩
 replace hX := hX.ex hXL1
 replace hx := hx.ext hXL1
 replace hw := hw.ext hXL1
 refine Qf (Qb (Rr (QM rfl rfl) (Qc (Qf (Qw rfl (fun hc2 => ?_) (fun hc2 => ?_))))))
 ·have hk1 : k < x.length := by have := dcT hc2; omega
  refine Qp (Qf (Qt (Qf (Qb (Rr (mvI rfl) (Rr (QW underlying117 sizeOf158 hx rfl rfl omg) (Rr (Zx isAgg158 hx rfl rfl (Ze psz hk1) rfl) (Rr (asI rfl) (Rr (asS rfl) (Qc (Qf (Qb (Rr (mvS rfl) (Rr (mvI rfl) (Rr (QW underlying117 sizeOf158 hx rfl rfl omg) (Rr (Zx isAgg158 hx rfl rfl (Ze psz hk1) rfl) (Rr (asS rfl) (Qc (Qf (Qb (Rr (QG (v := .func _ _ _) rfl) (Rr (mvS rfl) (Rr (mvS rfl) (Qo rfl (JR call73 rfl rfl rfl) (Ok.mono (teq1_ok (x.getD k psz) _ _ (hw _ (gm (z := psz) hk1))) ?_)))))))))))))))))))))))))
  rintro _ w4 ⟨rfl, x5⟩
  replace hXL1 := Bel.ex hXL1 x5
  refine Rr (Zp rfl) (Qc (Qq rfl (Qp (Qb (Rr (QO rfl rfl omg) (Rr (mvI rfl) (Qc ⟨k + 1, ⟨sT, trivial⟩, oT, ⟨?_, hXL1⟩, ?_⟩)))))))
  ·show k + 1 ≤ x.length; omega
  ·omega
 skip
 refine QN (QI (Qf (Qb (Rr Qj (Qc (Qu ⟨_, Qr rfl rfl, ⟨cvB ?_, hX⟩⟩))))))
 all_goals (rfl)
theorem mapeqf_ok (m : Nat) (M : List (Int × RowV)) (G : Nat → Prop) (w : World) (hM0 : OMp G w m M) : Ok Tryz.prog 76 #[.map (some m), .map (some m), .func (.func 77) #[] #[]] w fun v w' => v = .bool true ∧ Ext False w w' := by
 have hM := hM0.1
 have hwd : ∀ p ∈ M, Sl encU 1 (fun g => g < w.heap.size) w p.2.s.a p.2.s.c (wl p.2.s.x) := fun p hp => (hM0.2 p hp).mono (fun g h1 h2 => h1)
 have hnd := hM.nd int_key
 have hml := hM.lt
 refine Qv 38 func76 rfl rfl rfl ?_
 have hX := xRf w
 refine Qf (Qb (Rr Qj (Qc (Qf (Qf (Qb (Rr (QG (v := .map _) rfl) (Rr (o_mlen (U := 0) (R := 0) underlying115 hM rfl) (Rr (QG (v := .map _) rfl) (Rr (o_mlen (U := 0) (R := 0) underlying115 hM rfl) (Rr (Zv rfl rfl) (Qc (Qq (cvB (by simp)) (Qp (Qf (Qf (Qb (Rr (QG (v := .map _) rfl) (Rg_orng rfl underlying115 rfl hM ?_)))))))))))))))))))
 intro r17 w1 x2 hge17 hlt17 hit17
 have z3 := x2.size
 replace hX := hX.ex x2
 replace hM := hM.ext x2
 replace hwd := (fun r hr => (hwd r hr).ext x2)
 refine Qc (Qt (QU (α := List (Int × RowV) × List (Int × RowV)) [(6, 10), (18, 37)] (fun g => []) (fun g w' => ((g.2 ++ g.1).Perm M) ∧ Bel False (fun g => w.heap.size ≤ g) w1 w' ∧ (∃ cur, It ekI rowE w' r17 m M g.1 cur)) (fun g => g.1.length) (M, []) trivial ⟨List.Perm.refl _, Bel.refl _ _, ⟨none, hit17⟩⟩ ?_))
 rintro ⟨lf, sn⟩ fb6 w5 ⟨hpm, hXL4, ⟨cur, hit17⟩⟩
 dsimp only at *
 have z7 := Bel.size hXL4
 replace hX := Bel.out hX hXL4 om2
 replace hM := hM.keep hXL4 om1
 replace hwd := (fun r hr => (hwd r hr).keep hXL4 om3)
 refine Qf (Qb (Rg_onext rfl rfl hit17 (by omega) (fun hnil18 => ?_) ?_))
 ·refine Rr (QE rfl rfl) (Qc (Qf (Qq rfl (QN (QI (Qf (Qb (Rr Qj (Qc (Qu ⟨_, Qr rfl rfl, ⟨cvB ?_, hX⟩⟩))))))))))
  all_goals (rfl)
 intro p18 lf18 w8 hp18 x9 hit17
 have z10 := x9.size
 replace hXL4 := Bel.out hXL4 x9 om2
 replace hM := hM.keep x9 om1
 replace hwd := (fun r hr => (hwd r hr).keep x9 om3)
 refine Rr (QE rfl rfl) (Qc (Qf (Za rfl (Qp (Qt (Qf (Qb (Rr (o_entry hit17 rfl) (Rr (QE rfl rfl) (Rr (QE rfl rfl) (QH rfl (Q4 zeroValue156) ?_)))))))))))
 intro b8 w11 x12 hge8 hb8
 have hlt8 := hb8.lt
 have z13 := x12.size
 replace hXL4 := Bel.ex hXL4 x12
 replace hM := hM.ext x12
 replace hwd := (fun r hr => (hwd r hr).ext x12)
 replace hit17 := hit17.ext x12
 refine Rr (asI rfl) (QS (v := .agg _) rfl sizeOf156 rfl rfl hb8 rfl rfl rfl ?_)
 intro w14 c15 hb8
 have z16 := Bel.size c15
 replace hXL4 := Bel.out hXL4 c15 om2
 replace hM := hM.keep c15 om1
 replace hwd := (fun r hr => (hwd r hr).keep c15 om3)
 replace hit17 := hit17.keep c15 om1 om1
 refine Qc (Qf (Qb (Rr (QG (v := .map _) rfl) (Rr (mvI rfl) (Rr (o_olook2 (k := p18.1) (u := p18.2) underlying115 underlying3 zeroValue156 hM rfl rfl (getM_mem hnd (it_mem hpm hp18))) (Rr (QG (v := .tuple _) rfl) (Rr (QE rfl rfl) (Rr (QE rfl rfl) (Zk rfl rfl zeroValue156 rfl sizeOf156 (fun _ => rfl) rfl rfl ?_)))))))))
 intro b9 w17 x18 hge9 hb9
 replace hXL4 := Bel.ex hXL4 x18
 replace hwd := (fun r hr => (hwd r hr).ext x18)
 replace hit17 := hit17.ext x18
 replace hb8 := hb8.ext x18
 refine Rr (asB rfl) (Qc (Qf (Qb (Rr (mvB rfl) (Rr (Zp rfl) (Rr (mvB rfl) (QA 2 31 rfl rfl (Rr (QG (v := .func _ _ _) rfl) (QA 2 31 rfl rfl (Rr (QF isAgg156 sizeOf156 rfl hb8.at rfl) (QA 2 31 rfl rfl (Rr (QF isAgg156 sizeOf156 rfl hb9.at rfl) (QA 2 31 rfl rfl (Qo rfl (JR call77 rfl rfl rfl) (Ok.mono (roweq_ok p18.2 _ _ (hwd p18 (it_mem hpm hp18))) ?_)))))))))))))))
 rintro _ w20 ⟨rfl, x21⟩
 replace hXL4 := Bel.ex hXL4 x21
 replace hit17 := hit17.ext x21
 refine QA 2 31 rfl rfl (Rr (Zp rfl) (Rr (Q0 (v := .bool _) rfl rfl) (Qc (Qq rfl (Qp ⟨(lf18, sn ++ [p18]), trivial, oT, ⟨?_, hXL4, ?_⟩, ?_⟩)))))
 ·exact it_perm hpm hp18
 ·exact ⟨_, hit17⟩
 ·have := hp18.length_eq; simp at this; show lf18.length < lf.length; omega
theorem rueqf_ok (f v0 : Value) (a b : Option Addr) (c d : Nat) (w : World) : Ok Tryz.prog 135 #[.slice a 0 c, .slice b 0 d, f] w fun v w' => v = .bool true ∧ Ext False w w' := by
 refine Qv 32 func135 rfl rfl rfl ?_
 have hX := xRf w
 refine Qf (Qb (Rr Qj (Qc (Qf (Qf (Qb (Rr (mvS rfl) (Rr (QC underlying35 rfl) (Rr (mvS rfl) (Rr (QC underlying35 rfl) (Rr (Zv rfl rfl) (Qc (Qq rfl (Qp (Qf (Qf (Qb (Rr (mvS rfl) (Rr (QC underlying35 rfl) (Rr QP (Qc (Qt (QU (α := Nat) [(6, 9), (17, 31)] (fun k => [(17, .int .i64 (k : Int))]) (fun k w' => (True) ∧ Ext False w w') (fun k => k) 0 ⟨rfl, trivial⟩ ⟨trivial, Bel.refl _ _⟩ ?_)))))))))))))))))))))))
 rintro k fb3 w2 ⟨-, hXL1⟩
 replace hX := hX.ex hXL1
 refine Qf (Qb (Rr (QM rfl rfl) (Qc (Qf ?_))))
 refine Qq (cvB (decide_eq_false (by simp <;> omega))) ?_
 refine QN (QI (Qf (Qb (Rr Qj (Qc (Qu ⟨_, Qr rfl rfl, ⟨cvB ?_, hX⟩⟩))))))
 all_goals (rfl)
theorem coeqf_ok (f v0 : Value) (a b : Option Addr) (c d : Nat) (w : World) : Ok Tryz.prog 137 #[.slice a 0 c, .slice b 0 d, f] w fun v w' => v = .bool true ∧ Ext False w w' := by
 refine Qv 32 func137 rfl rfl rfl ?_
 have hX := xRf w
 refine Qf (Qb (Rr Qj (Qc (Qf (Qf (Qb (Rr (mvS rfl) (Rr (QC underlying36 rfl) (Rr (mvS rfl) (Rr (QC underlying36 rfl) (Rr (Zv rfl rfl) (Qc (Qq rfl (Qp (Qf (Qf (Qb (Rr (mvS rfl) (Rr (QC underlying36 rfl) (Rr QP (Qc (Qt (QU (α := Nat) [(6, 9), (17, 31)] (fun k => [(17, .int .i64 (k : Int))]) (fun k w' => (True) ∧ Ext False w w') (fun k => k) 0 ⟨rfl, trivial⟩ ⟨trivial, Bel.refl _ _⟩ ?_)))))))))))))))))))))))
 rintro k fb3 w2 ⟨-, hXL1⟩
 replace hX := hX.ex hXL1
 refine Qf (Qb (Rr (QM rfl rfl) (Qc (Qf ?_))))
 refine Qq (cvB (decide_eq_false (by simp <;> omega))) ?_
 refine QN (QI (Qf (Qb (Rr Qj (Qc (Qu ⟨_, Qr rfl rfl, ⟨cvB ?_, hX⟩⟩))))))
 all_goals (rfl)
theorem hyeq2_ok (v0 v1 : Value) (e : v1 = v0) (L : List Pr) (w : World) (hh : HyIs w v0 L) (hl : L.length ≤ 1000) : Ok Tryz.prog 106 #[v0, v1] w fun v w' => v = .bool true ∧ Ext False w w' := by
 subst e
 exact hyeq_ok v1 L w hh hl
set_option maxHeartbeats 2000000 in
theorem stne_ok (b b1 : Nat) (p p1 : PtV) (s s1 : StV) (w : World) (hst : At w b 0 (ptC p)) (hst1 : At w b1 0 (ptC p1)) (hp : PsIs w p s) (hp1 : PsIs w p1 s1) (hday : p.day = p1.day) (hus : s.us = s1.us) (hrs : s.rs = s1.rs) (hlk : p1.lk = p.lk) (hlkl : s.lk.length ≤ 1000) (hne : (s.mb == s1.mb) = false) : Ok Tryz.prog 69 #[pB b, pB b1] w fun v w' => v = .bool false ∧ Ext False w w' := by
 have hbl := hst.lt; have hbl1 := hst1.lt
 refine Qv 92 func69 rfl rfl rfl ?_
 have hX := xRf w
 refine Qf (Qb (Rr Qj (Qc (Qf (Qf (Qb (Rr (mvP rfl) (Rr (Zi underlying40 rfl rfl) (Rr (mvB rfl) (QA 2 9 rfl rfl (Rr (mvP rfl) (QA 2 9 rfl rfl (Rr (Zi underlying40 rfl rfl) (Rr (Q0 (v := .bool _) rfl rfl) (Qc (Qq rfl (Qp (Qf ?_))))))))))))))))))
 apply Zl (β := False) (fun _ => 0) [peqC _, peqC _, peqC _, peqC _, peqC _, peqC _, peqC _, peqC _, (postBoxK w 39 [.int .i64 0, .pointer none, .pointer none, .slice none 0 0, .pointer none, .pointer none, .pointer none, .slice none 0 0, .slice none 0 0, .pointer none] 1), (postBoxK w 39 [.int .i64 0, .pointer none, .pointer none, .slice none 0 0, .pointer none, .pointer none, .pointer none, .slice none 0 0, .slice none 0 0, .pointer none] 2), (postBoxK w 39 (ptC p) 1), (postBoxK w 39 (ptC p1) 2)] [0, 0, 0, 0, 0, 0, 0, 0, 1, 2, 1, 2] 12 QV (by kernel_rfl) (by kernel_rfl) rfl ⟨Qk _ _, Qk _ _, Qk _ _, Qk _ _, Qk _ _, Qk _ _, Qk _ _, Qk _ _, (ZI), (ZI), (ZI), (ZI), trivial⟩ ?ob3 ?fin3
 case ob3 =>
  refine Ql (fun w1 c3 x2 hc04 hk5 => Qi (Qx rfl (mvP rfl))) (Ql (fun w7 c9 x8 hc010 hk11 => Qh (Qi (Qx rfl (QJ rfl)))) (Ql (fun w13 c15 x14 hc016 hk17 => Qh (Qi (Qx rfl (Qy underlying97 rfl sizeOf39 rfl)))) (Ql (fun w19 c21 x20 hc022 hk23 => ?_) ?_)))
  ·replace x20 := RelG.ext0 x20
   have hst := hst.ext x20
   exact Qh (Qi (Qx rfl (QF isAgg39 sizeOf39 rfl hst rfl)))
  refine Ql (fun w25 c27 x26 hc028 hk29 => Qi (Qx rfl (mvP rfl))) (Ql (fun w31 c33 x32 hc034 hk35 => Qh (Qi (Qx rfl (QJ rfl)))) (Ql (fun w37 c39 x38 hc040 hk41 => Qh (Qi (Qx rfl (Qy underlying97 rfl sizeOf39 rfl)))) (Ql (fun w43 c45 x44 hc046 hk47 => ?_) ?_)))
  ·replace x44 := RelG.ext0 x44
   have hst1 := hst1.ext x44
   exact Qh (Qi (Qx rfl (QF isAgg39 sizeOf39 rfl hst1 rfl)))
  refine Ql (fun w49 c51 x50 hc052 hk53 => ?_) ?_
  ·replace x50 := RelG.ext0 x50
   exact Qi (Vn (kc := 1) (Bel.size x50) rfl (Q4 zeroValue39))
  refine Ql (fun w55 c57 x56 hc058 hk59 => ?_) ?_
  ·replace x56 := RelG.ext0 x56
   exact Qi (Vn (kc := 2) (Bel.size x56) rfl (Q4 zeroValue39))
  refine Ql (fun w61 c63 x62 hc064 hk65 => ?_) ?_
  ·refine Qz (fun v5 hv5 => ?_)
   obtain ⟨b5, rfl, hge5, hb5, hcb5⟩ := hv5
   refine Qh (Qh (Qh (Qh (Qh (Qz (fun v5 hv5 => ?_))))))
   obtain ⟨b5, rfl, hge5, hb5, hcb5⟩ := hv5
   refine Qz (fun v6 hv6 => ?_)
   obtain ⟨b6, rfl, hge6, hb6, hcb6⟩ := hv6
   exact Qi (JP (v := .agg _) (by decide) sizeOf39 rfl rfl hge5 hb5 hcb5 rfl rfl rfl)
  refine Ql (fun w67 c69 x68 hc070 hk71 => ?_) ?_
  ·refine Qz (fun v6 hv6 => ?_)
   obtain ⟨b6, rfl, hge6, hb6, hcb6⟩ := hv6
   refine Qh (Y1 (fun _ hst10 => Qh (Qh (Qh (Qh (Qh (Qh (Qh (Qh (Qz (fun v5 _ => Qz (fun v6 hv6 => ?_))))))))))))
   obtain ⟨b6, rfl, hge6, hb6, hcb6⟩ := hv6
   exact Y1 (fun _ hst10 => Qi (JP (v := .agg _) (by decide) sizeOf39 rfl rfl hge6 hb6 hcb6 rfl rfl rfl))
  exact Q8
 case fin3 =>
  intro w73 c75 x74 hc076
  replace x74 := RelG.ext0 x74
  replace hX := hX.ex x74
  replace hp := hp.ext x74
  replace hp1 := hp1.ext x74
  refine Qh (Qh (Qh (Qh (Qh (Qh (Qh (Qh (Qz (fun v5 _ => Qz (fun v6 _ => JG (v := v5) rfl (fun hst10 => JG (v := v6) rfl (fun hst11 => Qi ?_))))))))))))
  obtain ⟨b5, rfl, hge5, hb5, hcb5⟩ := hst10
  obtain ⟨b6, rfl, hge6, hb6, hcb6⟩ := hst11
  have hne56 : b5 ≠ b6 := fun e => by rw [e, hcb6] at hcb5; cases hcb5
  refine Qc (Qf (Qb (Rr (Qy underlying39 rfl sizeOf3 rfl) (Rr (Qm isAgg3 rfl (hb5.at.get 0 rfl)) (Rr (Qy underlying39 rfl sizeOf3 rfl) (Rr (Qm isAgg3 rfl (hb6.at.get 0 rfl)) (Rr (Zu rfl rfl) (Rr (mvB rfl) (QA 5 29 rfl (cvB (beq_iff_eq.2 hday)) (Rr (Qy underlying39 rfl sizeOf29 rfl) (QA 5 29 rfl (cvB (beq_iff_eq.2 hday)) (Rr (Qm isAgg29 rfl (hb5.at.get 1 rfl)) (QA 5 29 rfl (cvB (beq_iff_eq.2 hday)) (Rr (Qy underlying39 rfl sizeOf29 rfl) (QA 5 29 rfl (cvB (beq_iff_eq.2 hday)) (Rr (Qm isAgg29 rfl (hb6.at.get 1 rfl)) (QA 5 29 rfl (cvB (beq_iff_eq.2 hday)) (Qo rfl (QB call133 rfl rfl) (Ok.mono (nteq_ok (pB p.us) (pB p1.us) s.us s1.us _ hp.us hp1.us) ?_)))))))))))))))))))
  rintro _ w78 ⟨rfl, x79⟩
  replace hX := hX.ex x79
  replace hp := hp.ext x79
  replace hp1 := hp1.ext x79
  replace hb5 := hb5.ext x79
  replace hb6 := hb6.ext x79
  refine Rr (Q7 (v := .bool _) (cvB (beq_iff_eq.2 hday)) rfl) (Rr (mvB rfl) (QA 12 36 rfl (cvB (beq_iff_eq.2 hus)) (Rr (Qy underlying39 rfl sizeOf29 rfl) (QA 12 36 rfl (cvB (beq_iff_eq.2 hus)) (Rr (Qm isAgg29 rfl (hb5.at.get 2 rfl)) (QA 12 36 rfl (cvB (beq_iff_eq.2 hus)) (Rr (Qy underlying39 rfl sizeOf29 rfl) (QA 12 36 rfl (cvB (beq_iff_eq.2 hus)) (Rr (Qm isAgg29 rfl (hb6.at.get 2 rfl)) (QA 12 36 rfl (cvB (beq_iff_eq.2 hus)) (Qo rfl (QB call133 rfl rfl) (Ok.mono (nteq_ok (pB p.rs) (pB p1.rs) s.rs s1.rs _ hp.rs hp1.rs) ?_))))))))))))
  rintro _ w81 ⟨rfl, x82⟩
  replace hX := hX.ex x82
  replace hp := hp.ext x82
  replace hp1 := hp1.ext x82
  replace hb5 := hb5.ext x82
  replace hb6 := hb6.ext x82
  refine Rr (Q7 (v := .bool _) (cvB (beq_iff_eq.2 hus)) rfl) (Rr (mvB rfl) (QA 19 43 rfl (cvB (beq_iff_eq.2 hrs)) (Rr (Qy underlying39 rfl sizeOf32 rfl) (QA 19 43 rfl (cvB (beq_iff_eq.2 hrs)) (Rr (QF isAgg32 sizeOf32 rfl (hb5.at.sub 3 1) rfl) (QA 19 43 rfl (cvB (beq_iff_eq.2 hrs)) (Rr (Qy underlying39 rfl sizeOf32 rfl) (QA 19 43 rfl (cvB (beq_iff_eq.2 hrs)) (Rr (QF isAgg32 sizeOf32 rfl (hb6.at.sub 3 1) rfl) (QA 19 43 rfl (cvB (beq_iff_eq.2 hrs)) (Qo rfl (QB call16 rfl rfl) (Ok.mono (Z5 _ ⟨p.aa, p.ca, 0⟩ (fun _ => True) hp.oa.set ⟨p1.aa, p1.ca, 0⟩ (fun _ => True) hp1.oa.set) ?_))))))))))))
  rintro _ w84 ⟨rfl, x85⟩
  replace hX := hX.ex x85
  replace hp := hp.ext x85
  replace hp1 := hp1.ext x85
  replace hb5 := hb5.ext x85
  replace hb6 := hb6.ext x85
  refine Rr (Q7 (v := .bool _) (cvB (beq_iff_eq.2 hrs)) rfl) (Rr (mvB rfl) (QA 26 50 rfl (cvB (beq_self_eq_true (0 : W64))) (Rr (Qy underlying39 rfl sizeOf33 rfl) (QA 26 50 rfl (cvB (beq_self_eq_true (0 : W64))) (Rr (Qm isAgg33 rfl (hb5.at.get 4 rfl)) (QA 26 50 rfl (cvB (beq_self_eq_true (0 : W64))) (Rr (Qy underlying39 rfl sizeOf33 rfl) (QA 26 50 rfl (cvB (beq_self_eq_true (0 : W64))) (Rr (Qm isAgg33 rfl (hb6.at.get 4 rfl)) (QA 26 50 rfl (cvB (beq_self_eq_true (0 : W64))) (Qo rfl (QB call106 rfl rfl) (Ok.mono (hyeq2_ok (pB p.lk) (pB p1.lk) (congrArg pB hlk) s.lk _ hp.lk hlkl) ?_))))))))))))
  rintro _ w87 ⟨rfl, x88⟩
  replace hX := hX.ex x88
  replace hp := hp.ext x88
  replace hp1 := hp1.ext x88
  replace hb5 := hb5.ext x88
  replace hb6 := hb6.ext x88
  refine Rr (Q7 (v := .bool _) (cvB (beq_self_eq_true (0 : W64))) rfl) (Rr (mvB rfl) (QA 33 57 rfl rfl (Rr (Qy underlying39 rfl sizeOf34 rfl) (QA 33 57 rfl rfl (Rr (Qm isAgg34 rfl (hb5.at.get 5 rfl)) (QA 33 57 rfl rfl (Rr (Qy underlying39 rfl sizeOf34 rfl) (QA 33 57 rfl rfl (Rr (Qm isAgg34 rfl (hb6.at.get 5 rfl)) (QA 33 57 rfl rfl (Qo rfl (QB call134 rfl rfl) (Ok.mono (mbeq_ok (pB p.mb) (pB p1.mb) s.mb s1.mb _ hp.mb hp1.mb) ?_))))))))))))
  rintro _ w90 ⟨rfl, x91⟩
  replace hX := hX.ex x91
  refine Rr (Q7 (v := .bool _) rfl rfl) (Rr (mvB rfl) (ZD 40 64 rfl rfl (cvB hne) rfl rfl (ZD 40 64 rfl rfl (cvB hne) rfl rfl (ZD 40 64 rfl rfl (cvB hne) rfl rfl (ZD 40 64 rfl rfl (cvB hne) rfl rfl (ZD 40 64 rfl rfl (cvB hne) rfl rfl (Rr (Q0 (v := .bool _) (cvB hne) rfl) (Rr (mvB rfl) (ZD 47 71 rfl rfl rfl rfl rfl (ZD 47 71 rfl rfl rfl rfl rfl (ZD 47 71 rfl rfl rfl rfl rfl (ZD 47 71 rfl rfl rfl rfl rfl (ZD 47 71 rfl rfl rfl rfl rfl (Rr (Q0 (v := .bool _) rfl rfl) (Rr (mvB rfl) (ZD 54 78 rfl rfl rfl rfl rfl (ZD 54 78 rfl rfl rfl rfl rfl (ZD 54 78 rfl rfl rfl rfl rfl (ZD 54 78 rfl rfl rfl rfl rfl (ZD 54 78 rfl rfl rfl rfl rfl (Rr (Q0 (v := .bool _) rfl rfl) (Rr (mvB rfl) (ZD 61 85 rfl rfl rfl rfl rfl (ZD 61 85 rfl rfl rfl rfl rfl (ZD 61 85 rfl rfl rfl rfl rfl (ZD 61 85 rfl rfl rfl rfl rfl (ZD 61 85 rfl rfl rfl rfl rfl (Rr (Q0 (v := .bool _) rfl rfl) (Rr (asB rfl) (Qc (Qu ⟨_, Qr rfl rfl, ⟨cvB ?_, hX⟩⟩)))))))))))))))))))))))))))))))
  all_goals (rfl)
set_option maxHeartbeats 2000000 in
theorem steq_ok (b b1 : Nat) (p p1 : PtV) (s s1 : StV) (w : World) (hst : At w b 0 (ptC p)) (hst1 : At w b1 0 (ptC p1)) (hp : PsIs w p s) (hp1 : PsIs w p1 s1) (hday : p.day = p1.day) (hus : s.us = s1.us) (hrs : s.rs = s1.rs) (hlk : p1.lk = p.lk) (hlkl : s.lk.length ≤ 1000) (hmb : s.mb = s1.mb) (hgr : s.gr = s1.gr) (hss : s.ss = s1.ss) : Ok Tryz.prog 69 #[pB b, pB b1] w fun v w' => v = .bool true ∧ Ext False w w' := by
 have hbl := hst.lt; have hbl1 := hst1.lt
 refine Qv 92 func69 rfl rfl rfl ?_
 have hX := xRf w
 refine Qf (Qb (Rr Qj (Qc (Qf (Qf (Qb (Rr (mvP rfl) (Rr (Zi underlying40 rfl rfl) (Rr (mvB rfl) (QA 2 9 rfl rfl (Rr (mvP rfl) (QA 2 9 rfl rfl (Rr (Zi underlying40 rfl rfl) (Rr (Q0 (v := .bool _) rfl rfl) (Qc (Qq rfl (Qp (Qf ?_))))))))))))))))))
 apply Zl (β := False) (fun _ => 0) [peqC _, peqC _, peqC _, peqC _, peqC _, peqC _, peqC _, peqC _, (postBoxK w 39 [.int .i64 0, .pointer none, .pointer none, .slice none 0 0, .pointer none, .pointer none, .pointer none, .slice none 0 0, .slice none 0 0, .pointer none] 1), (postBoxK w 39 [.int .i64 0, .pointer none, .pointer none, .slice none 0 0, .pointer none, .pointer none, .pointer none, .slice none 0 0, .slice none 0 0, .pointer none] 2), (postBoxK w 39 (ptC p) 1), (postBoxK w 39 (ptC p1) 2)] [0, 0, 0, 0, 0, 0, 0, 0, 1, 2, 1, 2] 12 QV (by kernel_rfl) (by kernel_rfl) rfl ⟨Qk _ _, Qk _ _, Qk _ _, Qk _ _, Qk _ _, Qk _ _, Qk _ _, Qk _ _, (ZI), (ZI), (ZI), (ZI), trivial⟩ ?ob3 ?fin3
 case ob3 =>
  refine Ql (fun w1 c3 x2 hc04 hk5 => Qi (Qx rfl (mvP rfl))) (Ql (fun w7 c9 x8 hc010 hk11 => Qh (Qi (Qx rfl (QJ rfl)))) (Ql (fun w13 c15 x14 hc016 hk17 => Qh (Qi (Qx rfl (Qy underlying97 rfl sizeOf39 rfl)))) (Ql (fun w19 c21 x20 hc022 hk23 => ?_) ?_)))
  ·replace x20 := RelG.ext0 x20
   have hst := hst.ext x20
   exact Qh (Qi (Qx rfl (QF isAgg39 sizeOf39 rfl hst rfl)))
  refine Ql (fun w25 c27 x26 hc028 hk29 => Qi (Qx rfl (mvP rfl))) (Ql (fun w31 c33 x32 hc034 hk35 => Qh (Qi (Qx rfl (QJ rfl)))) (Ql (fun w37 c39 x38 hc040 hk41 => Qh (Qi (Qx rfl (Qy underlying97 rfl sizeOf39 rfl)))) (Ql (fun w43 c45 x44 hc046 hk47 => ?_) ?_)))
  ·replace x44 := RelG.ext0 x44
   have hst1 := hst1.ext x44
   exact Qh (Qi (Qx rfl (QF isAgg39 sizeOf39 rfl hst1 rfl)))
  refine Ql (fun w49 c51 x50 hc052 hk53 => ?_) ?_
  ·replace x50 := RelG.ext0 x50
   exact Qi (Vn (kc := 1) (Bel.size x50) rfl (Q4 zeroValue39))
  refine Ql (fun w55 c57 x56 hc058 hk59 => ?_) ?_
  ·replace x56 := RelG.ext0 x56
   exact Qi (Vn (kc := 2) (Bel.size x56) rfl (Q4 zeroValue39))
  refine Ql (fun w61 c63 x62 hc064 hk65 => ?_) ?_
  ·refine Qz (fun v5 hv5 => ?_)
   obtain ⟨b5, rfl, hge5, hb5, hcb5⟩ := hv5
   refine Qh (Qh (Qh (Qh (Qh (Qz (fun v5 hv5 => ?_))))))
   obtain ⟨b5, rfl, hge5, hb5, hcb5⟩ := hv5
   refine Qz (fun v6 hv6 => ?_)
   obtain ⟨b6, rfl, hge6, hb6, hcb6⟩ := hv6
   exact Qi (JP (v := .agg _) (by decide) sizeOf39 rfl rfl hge5 hb5 hcb5 rfl rfl rfl)
  refine Ql (fun w67 c69 x68 hc070 hk71 => ?_) ?_
  ·refine Qz (fun v6 hv6 => ?_)
   obtain ⟨b6, rfl, hge6, hb6, hcb6⟩ := hv6
   refine Qh (Y1 (fun _ hst10 => Qh (Qh (Qh (Qh (Qh (Qh (Qh (Qh (Qz (fun v5 _ => Qz (fun v6 hv6 => ?_))))))))))))
   obtain ⟨b6, rfl, hge6, hb6, hcb6⟩ := hv6
   exact Y1 (fun _ hst10 => Qi (JP (v := .agg _) (by decide) sizeOf39 rfl rfl hge6 hb6 hcb6 rfl rfl rfl))
  exact Q8
 case fin3 =>
  intro w73 c75 x74 hc076
  replace x74 := RelG.ext0 x74
  replace hX := hX.ex x74
  replace hp := hp.ext x74
  replace hp1 := hp1.ext x74
  refine Qh (Qh (Qh (Qh (Qh (Qh (Qh (Qh (Qz (fun v5 _ => Qz (fun v6 _ => JG (v := v5) rfl (fun hst10 => JG (v := v6) rfl (fun hst11 => Qi ?_))))))))))))
  obtain ⟨b5, rfl, hge5, hb5, hcb5⟩ := hst10
  obtain ⟨b6, rfl, hge6, hb6, hcb6⟩ := hst11
  have hne56 : b5 ≠ b6 := fun e => by rw [e, hcb6] at hcb5; cases hcb5
  refine Qc (Qf (Qb (Rr (Qy underlying39 rfl sizeOf3 rfl) (Rr (Qm isAgg3 rfl (hb5.at.get 0 rfl)) (Rr (Qy underlying39 rfl sizeOf3 rfl) (Rr (Qm isAgg3 rfl (hb6.at.get 0 rfl)) (Rr (Zu rfl rfl) (Rr (mvB rfl) (QA 5 29 rfl (cvB (beq_iff_eq.2 hday)) (Rr (Qy underlying39 rfl sizeOf29 rfl) (QA 5 29 rfl (cvB (beq_iff_eq.2 hday)) (Rr (Qm isAgg29 rfl (hb5.at.get 1 rfl)) (QA 5 29 rfl (cvB (beq_iff_eq.2 hday)) (Rr (Qy underlying39 rfl sizeOf29 rfl) (QA 5 29 rfl (cvB (beq_iff_eq.2 hday)) (Rr (Qm isAgg29 rfl (hb6.at.get 1 rfl)) (QA 5 29 rfl (cvB (beq_iff_eq.2 hday)) (Qo rfl (QB call133 rfl rfl) (Ok.mono (nteq_ok (pB p.us) (pB p1.us) s.us s1.us _ hp.us hp1.us) ?_)))))))))))))))))))
  rintro _ w78 ⟨rfl, x79⟩
  replace hX := hX.ex x79
  replace hp := hp.ext x79
  replace hp1 := hp1.ext x79
  replace hb5 := hb5.ext x79
  replace hb6 := hb6.ext x79
  refine Rr (Q7 (v := .bool _) (cvB (beq_iff_eq.2 hday)) rfl) (Rr (mvB rfl) (QA 12 36 rfl (cvB (beq_iff_eq.2 hus)) (Rr (Qy underlying39 rfl sizeOf29 rfl) (QA 12 36 rfl (cvB (beq_iff_eq.2 hus)) (Rr (Qm isAgg29 rfl (hb5.at.get 2 rfl)) (QA 12 36 rfl (cvB (beq_iff_eq.2 hus)) (Rr (Qy underlying39 rfl sizeOf29 rfl) (QA 12 36 rfl (cvB (beq_iff_eq.2 hus)) (Rr (Qm isAgg29 rfl (hb6.at.get 2 rfl)) (QA 12 36 rfl (cvB (beq_iff_eq.2 hus)) (Qo rfl (QB call133 rfl rfl) (Ok.mono (nteq_ok (pB p.rs) (pB p1.rs) s.rs s1.rs _ hp.rs hp1.rs) ?_))))))))))))
  rintro _ w81 ⟨rfl, x82⟩
  replace hX := hX.ex x82
  replace hp := hp.ext x82
  replace hp1 := hp1.ext x82
  replace hb5 := hb5.ext x82
  replace hb6 := hb6.ext x82
  refine Rr (Q7 (v := .bool _) (cvB (beq_iff_eq.2 hus)) rfl) (Rr (mvB rfl) (QA 19 43 rfl (cvB (beq_iff_eq.2 hrs)) (Rr (Qy underlying39 rfl sizeOf32 rfl) (QA 19 43 rfl (cvB (beq_iff_eq.2 hrs)) (Rr (QF isAgg32 sizeOf32 rfl (hb5.at.sub 3 1) rfl) (QA 19 43 rfl (cvB (beq_iff_eq.2 hrs)) (Rr (Qy underlying39 rfl sizeOf32 rfl) (QA 19 43 rfl (cvB (beq_iff_eq.2 hrs)) (Rr (QF isAgg32 sizeOf32 rfl (hb6.at.sub 3 1) rfl) (QA 19 43 rfl (cvB (beq_iff_eq.2 hrs)) (Qo rfl (QB call16 rfl rfl) (Ok.mono (Z5 _ ⟨p.aa, p.ca, 0⟩ (fun _ => True) hp.oa.set ⟨p1.aa, p1.ca, 0⟩ (fun _ => True) hp1.oa.set) ?_))))))))))))
  rintro _ w84 ⟨rfl, x85⟩
  replace hX := hX.ex x85
  replace hp := hp.ext x85
  replace hp1 := hp1.ext x85
  replace hb5 := hb5.ext x85
  replace hb6 := hb6.ext x85
  refine Rr (Q7 (v := .bool _) (cvB (beq_iff_eq.2 hrs)) rfl) (Rr (mvB rfl) (QA 26 50 rfl (cvB (beq_self_eq_true (0 : W64))) (Rr (Qy underlying39 rfl sizeOf33 rfl) (QA 26 50 rfl (cvB (beq_self_eq_true (0 : W64))) (Rr (Qm isAgg33 rfl (hb5.at.get 4 rfl)) (QA 26 50 rfl (cvB (beq_self_eq_true (0 : W64))) (Rr (Qy underlying39 rfl sizeOf33 rfl) (QA 26 50 rfl (cvB (beq_self_eq_true (0 : W64))) (Rr (Qm isAgg33 rfl (hb6.at.get 4 rfl)) (QA 26 50 rfl (cvB (beq_self_eq_true (0 : W64))) (Qo rfl (QB call106 rfl rfl) (Ok.mono (hyeq2_ok (pB p.lk) (pB p1.lk) (congrArg pB hlk) s.lk _ hp.lk hlkl) ?_))))))))))))
  rintro _ w87 ⟨rfl, x88⟩
  replace hX := hX.ex x88
  replace hp := hp.ext x88
  replace hp1 := hp1.ext x88
  replace hb5 := hb5.ext x88
  replace hb6 := hb6.ext x88
  refine Rr (Q7 (v := .bool _) (cvB (beq_self_eq_true (0 : W64))) rfl) (Rr (mvB rfl) (QA 33 57 rfl rfl (Rr (Qy underlying39 rfl sizeOf34 rfl) (QA 33 57 rfl rfl (Rr (Qm isAgg34 rfl (hb5.at.get 5 rfl)) (QA 33 57 rfl rfl (Rr (Qy underlying39 rfl sizeOf34 rfl) (QA 33 57 rfl rfl (Rr (Qm isAgg34 rfl (hb6.at.get 5 rfl)) (QA 33 57 rfl rfl (Qo rfl (QB call134 rfl rfl) (Ok.mono (mbeq_ok (pB p.mb) (pB p1.mb) s.mb s1.mb _ hp.mb hp1.mb) ?_))))))))))))
  rintro _ w90 ⟨rfl, x91⟩
  replace hX := hX.ex x91
  replace hp := hp.ext x91
  replace hp1 := hp1.ext x91
  replace hb5 := hb5.ext x91
  replace hb6 := hb6.ext x91
  refine Rr (Q7 (v := .bool _) rfl rfl) (Rr (mvB rfl) (QA 40 64 rfl (cvB (beq_iff_eq.2 hmb)) (Rr (Qy underlying39 rfl sizeOf25 rfl) (QA 40 64 rfl (cvB (beq_iff_eq.2 hmb)) (Rr (Qm isAgg25 rfl (hb5.at.get 6 rfl)) (QA 40 64 rfl (cvB (beq_iff_eq.2 hmb)) (Rr (Qy underlying39 rfl sizeOf25 rfl) (QA 40 64 rfl (cvB (beq_iff_eq.2 hmb)) (Rr (Qm isAgg25 rfl (hb6.at.get 6 rfl)) (QA 40 64 rfl (cvB (beq_iff_eq.2 hmb)) (Qo rfl (QB call114 rfl rfl) (Ok.mono (geq_ok (pB p.gr) (pB p1.gr) s.gr s1.gr _ hp.gr hp1.gr) ?_))))))))))))
  rintro _ w93 ⟨rfl, x94⟩
  replace hX := hX.ex x94
  replace hp := hp.ext x94
  replace hp1 := hp1.ext x94
  replace hb5 := hb5.ext x94
  replace hb6 := hb6.ext x94
  refine Rr (Q7 (v := .bool _) (cvB (beq_iff_eq.2 hmb)) rfl) (Rr (mvB rfl) (QA 47 71 rfl (cvB (beq_iff_eq.2 hgr)) (Rr (Qy underlying39 rfl sizeOf35 rfl) (QA 47 71 rfl (cvB (beq_iff_eq.2 hgr)) (Rr (Qm isAgg35 rfl (hb5.at.get 7 rfl)) (QA 47 71 rfl (cvB (beq_iff_eq.2 hgr)) (Rr (Qy underlying39 rfl sizeOf35 rfl) (QA 47 71 rfl (cvB (beq_iff_eq.2 hgr)) (Rr (Qm isAgg35 rfl (hb6.at.get 7 rfl)) (QA 47 71 rfl (cvB (beq_iff_eq.2 hgr)) (Qo rfl (Zg call135 rfl rfl rfl) (Ok.mono (rueqf_ok _ (.bool true) _ _ _ _ _) ?_))))))))))))
  rintro _ w96 ⟨rfl, x97⟩
  replace hX := hX.ex x97
  replace hp := hp.ext x97
  replace hp1 := hp1.ext x97
  replace hb5 := hb5.ext x97
  replace hb6 := hb6.ext x97
  refine Rr (Q7 (v := .bool _) (cvB (beq_iff_eq.2 hgr)) rfl) (Rr (mvB rfl) (QA 54 78 rfl rfl (Rr (Qy underlying39 rfl sizeOf36 rfl) (QA 54 78 rfl rfl (Rr (Qm isAgg36 rfl (hb5.at.get 8 rfl)) (QA 54 78 rfl rfl (Rr (Qy underlying39 rfl sizeOf36 rfl) (QA 54 78 rfl rfl (Rr (Qm isAgg36 rfl (hb6.at.get 8 rfl)) (QA 54 78 rfl rfl (Qo rfl (Zg call137 rfl rfl rfl) (Ok.mono (coeqf_ok _ (.bool true) _ _ _ _ _) ?_))))))))))))
  rintro _ w99 ⟨rfl, x100⟩
  replace hX := hX.ex x100
  replace hp := hp.ext x100
  replace hp1 := hp1.ext x100
  replace hb5 := hb5.ext x100
  replace hb6 := hb6.ext x100
  refine Rr (Q7 (v := .bool _) rfl rfl) (Rr (mvB rfl) (QA 61 85 rfl rfl (Rr (Qy underlying39 rfl sizeOf37 rfl) (QA 61 85 rfl rfl (Rr (Qm isAgg37 rfl (hb5.at.get 9 rfl)) (QA 61 85 rfl rfl (Rr (Qy underlying39 rfl sizeOf37 rfl) (QA 61 85 rfl rfl (Rr (Qm isAgg37 rfl (hb6.at.get 9 rfl)) (QA 61 85 rfl rfl (Qo rfl (QB call139 rfl rfl) (Ok.mono (seqB_ok (pB p.ss) (pB p1.ss) s.ss s1.ss _ hp.ss hp1.ss) ?_))))))))))))
  rintro _ w102 ⟨rfl, x103⟩
  replace hX := hX.ex x103
  refine Rr (Q7 (v := .bool _) rfl rfl) (Rr (asB rfl) (Qc (Qu ⟨_, Qr rfl rfl, ⟨cvB ?_, hX⟩⟩)))
  all_goals (exact beq_iff_eq.2 hss)
set_option maxHeartbeats 2000000 in
theorem tbeq_ok (b : Nat) (t : TbV) (q : TbP) (w : World) (h0 : TbIs w b t q) : Ok Tryz.prog 28 #[pB b, pB b] w fun v w' => v = .bool true ∧ Ext False w w' := by
 have hb := h0.at'
 have hml := h0.m.len
 have hbl := hb.lt
 refine Qv 87 func28 rfl rfl rfl ?_
 have hX := xRf w
 refine Qf (Qb (Rr Qj (Qc (Qf (Qf (Qb (Rr (mvP rfl) (Rr (Zi underlying57 rfl rfl) (Rr (mvB rfl) (QA 2 9 rfl rfl (Rr (mvP rfl) (QA 2 9 rfl rfl (Rr (Zi underlying57 rfl rfl) (Rr (Q0 (v := .bool _) rfl rfl) (Qc (Qq rfl (Qp (Qf (Qf ?_)))))))))))))))))))
 apply Q3 (β := False) [peq _, peq _, peq _, peq _, peq _, peq _, peq _, peq _, peq _, peq _, peq _, peq _] 12 QV (by kernel_rfl) rfl ⟨Qd _, Qd _, Qd _, Qd _, Qd _, Qd _, Qd _, Qd _, Qd _, Qd _, Qd _, Qd _, trivial⟩ ?ob3 ?fin3
 case ob3 =>
  refine Qg (fun _ _ => Qe (Qn rfl (mvP rfl))) (Qg (fun _ _ => Qa (Qe (Qn rfl (QJ rfl)))) (Qg (fun _ _ => Qa (Qe (Qn rfl (Qy underlying119 rfl sizeOf114 rfl)))) (Qg (fun w7 x8 => ?_) ?_)))
  ·have hb := hb.ext x8
   exact Qa (Qe (Qn rfl (Qm isAgg114 rfl (hb.get 3 rfl))))
  refine Qg (fun _ _ => Qa (Qe (Qn rfl (QC underlying114 rfl)))) (Qg (fun _ _ => Qe (Qn rfl (mvP rfl))) (Qg (fun _ _ => Qa (Qe (Qn rfl (QJ rfl)))) (Qg (fun _ _ => Qa (Qe (Qn rfl (Qy underlying119 rfl sizeOf114 rfl)))) (Qg (fun w17 x18 => ?_) ?_))))
  ·have hb := hb.ext x18
   exact Qa (Qe (Qn rfl (Qm isAgg114 rfl (hb.get 3 rfl))))
  exact Qg (fun _ _ => Qa (Qe (Qn rfl (QC underlying114 rfl)))) (Qg (fun _ _ => Qa (Qa (Qe (Qn rfl (o_maxS (m := t.M.length) rfl rfl))))) (Qg (fun _ _ => Qe (Qn rfl QP)) QR))
 case fin3 =>
  intro w25 x26
  replace hX := hX.ex x26
  replace h0 := TbIs.ext h0 x26
  replace hb := hb.ext x26
  refine Qa (Qa (Qa (Qa (Qa (Qa (Qa (Qa (Qa (Qa (Qa (Qa (Qe (Qc (Qt (QU (α := Nat) [(4, 5), (30, 43)] (fun k => [(30, .int .i64 (k : Int))]) (fun k w' => (k ≤ t.M.length) ∧ Ext False w25 w') (fun k => t.M.length - k) 0 ⟨rfl, trivial⟩ ⟨Nat.zero_le _, Bel.refl _ _⟩ ?_)))))))))))))))
  rintro k fb29 w28 ⟨hk, hXL27⟩
  replace hX := hX.ex hXL27
  replace h0 := TbIs.ext h0 hXL27
  replace hb := hb.ext hXL27
  refine Qf (Qb (Rr (QM rfl rfl) (Qc (Qf (Qw rfl (fun hc2 => ?_) (fun hc2 => ?_))))))
  ·have hk1 : k < t.M.length := by have := dcT hc2; omega
   refine Qp (Qf (Qt (Qf (Qb (Rr (mvI rfl) (Rr (asI rfl) (Qc (Qf (Qb (Rr (mvP rfl) (Rr (mvI rfl) (Rr (ZB (p := k) (b := 1) rfl rfl (by omega)) ?_))))))))))))
   refine Qo rfl (QB call24 rfl rfl) (Ok.mono (JO b _ _ nilS _ _ _ _ _ q.am q.cm _ t.M ((k + 1 : Nat) : Int) (by unfold I64; omega) _ h0.at' h0.m) ?_)
   rintro _ w30 ⟨rfl, x31⟩
   replace hXL27 := Bel.ex hXL27 x31
   replace h0 := TbIs.ext h0 x31
   refine Rr (mvP rfl) (Rr (mvI rfl) (Rr (ZB (p := k) (b := 1) rfl rfl (by omega)) ?_))
   refine Qo rfl (QB call24 rfl rfl) (Ok.mono (JO b _ _ nilS _ _ _ _ _ q.am q.cm _ t.M ((k + 1 : Nat) : Int) (by unfold I64; omega) _ h0.at' h0.m) ?_)
   rintro _ w32 ⟨rfl, x33⟩
   replace hXL27 := Bel.ex hXL27 x33
   replace h0 := TbIs.ext h0 x33
   refine Qo rfl (QB call16 rfl rfl) (Ok.mono (Z5 _ (getV t.M (((k + 1 : Nat) : Int) - 1)) _ (Jx h0.mw _) (getV t.M (((k + 1 : Nat) : Int) - 1)) _ (Jx h0.mw _)) ?_)
   rintro _ w34 ⟨rfl, x35⟩
   replace hXL27 := Bel.ex hXL27 x35
   refine Rr (Zp rfl) (Qc (Qq (cvB (by simp)) (Qp (Qb (Rr (QO rfl rfl omg) (Rr (mvI rfl) (Qc ⟨k + 1, ⟨sT, trivial⟩, oT, ⟨?_, hXL27⟩, ?_⟩)))))))
   ·show k + 1 ≤ t.M.length; omega
   ·omega
  skip
  refine QN (QI (Qf ?_))
  apply Q3 (β := False) [peq _, peq _, peq _, peq _, peq _, peq _, peq _, peq _, peq _, peq _] 10 QV (by kernel_rfl) rfl ⟨Qd _, Qd _, Qd _, Qd _, Qd _, Qd _, Qd _, Qd _, Qd _, Qd _, trivial⟩ ?ob9 ?fin9
  case ob9 =>
   refine Qg (fun _ _ => Qe (Qn rfl (mvP rfl))) (Qg (fun _ _ => Qa (Qe (Qn rfl (QJ rfl)))) (Qg (fun _ _ => Qa (Qe (Qn rfl (Qy underlying119 rfl sizeOf117 rfl)))) (Qg (fun w42 x43 => ?_) ?_)))
   ·have hb := hb.ext x43
    exact Qa (Qe (Qn rfl (Qm isAgg117 rfl (hb.get 7 rfl))))
   refine Qg (fun _ _ => Qe (Qn rfl (mvP rfl))) (Qg (fun _ _ => Qa (Qe (Qn rfl (QJ rfl)))) (Qg (fun _ _ => Qa (Qe (Qn rfl (Qy underlying119 rfl sizeOf117 rfl)))) (Qg (fun w50 x51 => ?_) ?_)))
   ·have hb := hb.ext x51
    exact Qa (Qe (Qn rfl (Qm isAgg117 rfl (hb.get 7 rfl))))
   refine Qg (fun w52 x53 => ?_) ?_
   ·have h0 := TbIs.ext h0 x53
    exact Qa (Qa (Qe (Zj rfl (Zg call72 rfl rfl rfl) (pseqf_ok _ _ _ t.G _ h0.g h0.gw))))
   exact Qg (fun _ _ => Qa (Qa (Qa (Qa (Qa (Qa (Qa (Qa (Qa (Qa (Qa (Qe (Qn rfl (asB rfl)))))))))))))) QR
  case fin9 =>
   intro w56 x57
   replace hX := hX.ex x57
   replace h0 := TbIs.ext h0 x57
   replace hb := hb.ext x57
   refine Qa (Qa (Qa (Qa (Qa (Qa (Qa (Qa (Qa (Qa (Qe (Qc (Qf ?_))))))))))))
   apply Q3 (β := False) [peq _, peq _, peq _, peq _, peq _, peq _, peq _, peq _, peq _, peq _, peq _, peq _, peq _, peq _, peq _, peq _, peq _, peq _, peq _, peq _, peq _, peq _, peq _, peq _, peq _, peq _, peq _, peq _, peq _, peq _, peq _, peq _, peq _, peq _, peq _] 35 QV (by kernel_rfl) rfl ⟨Qd _, Qd _, Qd _, Qd _, Qd _, Qd _, Qd _, Qd _, Qd _, Qd _, Qd _, Qd _, Qd _, Qd _, Qd _, Qd _, Qd _, Qd _, Qd _, Qd _, Qd _, Qd _, Qd _, Qd _, Qd _, Qd _, Qd _, Qd _, Qd _, Qd _, Qd _, Qd _, Qd _, Qd _, Qd _, trivial⟩ ?ob10 ?fin10
   case ob10 =>
    refine Qg (fun _ _ => Qe (Qn rfl (mvP rfl))) (Qg (fun _ _ => Qa (Qe (Qn rfl (QJ rfl)))) (Qg (fun _ _ => Qa (Qe (Qn rfl (Qy underlying119 rfl sizeOf3 rfl)))) (Qg (fun w64 x65 => ?_) ?_)))
    ·have hb := hb.ext x65
     exact Qa (Qe (Qn rfl (Qm isAgg3 rfl (hb.get 1 rfl))))
    refine Qg (fun _ _ => Qe (Qn rfl (mvP rfl))) (Qg (fun _ _ => Qa (Qe (Qn rfl (QJ rfl)))) (Qg (fun _ _ => Qa (Qe (Qn rfl (Qy underlying119 rfl sizeOf3 rfl)))) (Qg (fun w72 x73 => ?_) ?_)))
    ·have hb := hb.ext x73
     exact Qa (Qe (Qn rfl (Qm isAgg3 rfl (hb.get 1 rfl))))
    refine Qg (fun _ _ => Qa (Qa (Qe (Qn rfl (Zu rfl rfl))))) (Qg (fun _ _ => Qa (Qe (Qn rfl (mvB rfl)))) (Qg (fun _ _ => Qa (Qe (Q1 9 62 rfl (cvB (beq_self_eq_true _)) (Qn rfl (mvP rfl))))) (Qg (fun _ _ => Qa (Qa (Qe (Q1 9 62 rfl (cvB (beq_self_eq_true _)) (Qn rfl (QJ rfl)))))) (Qg (fun _ _ => Qa (Qa (Qe (Q1 9 62 rfl (cvB (beq_self_eq_true _)) (Qn rfl (Qy underlying119 rfl sizeOf114 rfl)))))) (Qg (fun w84 x85 => ?_) ?_)))))
    ·have hb := hb.ext x85
     exact Qa (Qa (Qe (Q1 9 62 rfl (cvB (beq_self_eq_true _)) (Qn rfl (Qm isAgg114 rfl (hb.get 4 rfl))))))
    refine Qg (fun _ _ => Qa (Qe (Q1 9 62 rfl (cvB (beq_self_eq_true _)) (Qn rfl (mvP rfl))))) (Qg (fun _ _ => Qa (Qa (Qe (Q1 9 62 rfl (cvB (beq_self_eq_true _)) (Qn rfl (QJ rfl)))))) (Qg (fun _ _ => Qa (Qa (Qe (Q1 9 62 rfl (cvB (beq_self_eq_true _)) (Qn rfl (Qy underlying119 rfl sizeOf114 rfl)))))) (Qg (fun w92 x93 => ?_) ?_)))
    ·have hb := hb.ext x93
     exact Qa (Qa (Qe (Q1 9 62 rfl (cvB (beq_self_eq_true _)) (Qn rfl (Qm isAgg114 rfl (hb.get 4 rfl))))))
    refine Qg (fun w94 x95 => ?_) ?_
    ·have h0 := TbIs.ext h0 x95
     exact Qa (Qa (Qa (Qa (Qe (Q1 9 62 rfl (cvB (beq_self_eq_true _)) (Zj rfl (Zg call75 rfl rfl rfl) (sveqf_ok _ _ _ t.J _ h0.j h0.jw)))))))
    refine Qg (fun _ _ => Qa (Qa (Qe (Qn rfl (Q7 (v := .bool _) (cvB (beq_self_eq_true _)) rfl))))) (Qg (fun _ _ => Qa (Qa (Qe (Qn rfl (mvB rfl))))) (Qg (fun _ _ => Qa (Qe (Q1 20 73 rfl rfl (Qn rfl (mvP rfl))))) (Qg (fun _ _ => Qa (Qa (Qe (Q1 20 73 rfl rfl (Qn rfl (QJ rfl)))))) (Qg (fun _ _ => Qa (Qa (Qe (Q1 20 73 rfl rfl (Qn rfl (Qy underlying119 rfl sizeOf115 rfl)))))) (Qg (fun w106 x107 => ?_) ?_)))))
    ·have hb := hb.ext x107
     exact Qa (Qa (Qe (Q1 20 73 rfl rfl (Qn rfl (Qm isAgg115 rfl (hb.get 5 rfl))))))
    refine Qg (fun _ _ => Qa (Qe (Q1 20 73 rfl rfl (Qn rfl (mvP rfl))))) (Qg (fun _ _ => Qa (Qa (Qe (Q1 20 73 rfl rfl (Qn rfl (QJ rfl)))))) (Qg (fun _ _ => Qa (Qa (Qe (Q1 20 73 rfl rfl (Qn rfl (Qy underlying119 rfl sizeOf115 rfl)))))) (Qg (fun w114 x115 => ?_) ?_)))
    ·have hb := hb.ext x115
     exact Qa (Qa (Qe (Q1 20 73 rfl rfl (Qn rfl (Qm isAgg115 rfl (hb.get 5 rfl))))))
    refine Qg (fun w116 x117 => ?_) ?_
    ·have h0 := TbIs.ext h0 x117
     exact Qa (Qa (Qa (Qa (Qe (Q1 20 73 rfl rfl (Zj rfl (Zg call76 rfl rfl rfl) (mapeqf_ok q.mo t.O _ _ h0.o)))))))
    exact Qg (fun _ _ => Qa (Qa (Qe (Qn rfl (Q7 (v := .bool _) rfl rfl))))) (Qg (fun _ _ => Qa (Qa (Qe (Qn rfl (mvB rfl))))) (Qg (fun _ _ => Qa (Qe (Q1 31 84 rfl rfl (Qn rfl (mvB rfl))))) (Qg (fun _ _ => Qa (Qa (Qe (Qn rfl (Q7 (v := .bool _) rfl rfl))))) (Qg (fun _ _ => Qa (Qa (Qa (Qa (Qa (Qa (Qa (Qa (Qa (Qa (Qa (Qa (Qa (Qa (Qa (Qa (Qa (Qa (Qa (Qa (Qa (Qa (Qa (Qa (Qa (Qa (Qa (Qa (Qa (Qa (Qa (Qa (Qa (Qa (Qa (Qa (Qe (Qn rfl (asB rfl))))))))))))))))))))))))))))))))))))))) QR))))
   case fin10 =>
    intro w128 x129
    replace hX := hX.ex x129
    refine Qa (Qa (Qa (Qa (Qa (Qa (Qa (Qa (Qa (Qa (Qa (Qa (Qa (Qa (Qa (Qa (Qa (Qa (Qa (Qa (Qa (Qa (Qa (Qa (Qa (Qa (Qa (Qa (Qa (Qa (Qa (Qa (Qa (Qa (Qa (Qe (Qc (Qu ⟨_, Qr rfl rfl, ⟨cvB ?_, hX⟩⟩)))))))))))))))))))))))))))))))))))))
    all_goals (rfl)
set_option maxHeartbeats 2000000 in
theorem tbne_ok (b b1 : Nat) (t t1 : TbV) (q q1 : TbP) (w : World) (h0 : TbIs w b t q) (h1 : TbIs w b1 t1 q1) (hm : t.M.length = 1) (hm1 : t1.M.length = 1) (hne : ((getV t.M 0).x == (getV t1.M 0).x) = false) : Ok Tryz.prog 28 #[pB b, pB b1] w fun v w' => v = .bool false ∧ Ext False w w' := by
 have hb := h0.at'
 have hb1 := h1.at'
 have hbl := hb.lt; have hbl1 := hb1.lt
 refine Qv 87 func28 rfl rfl rfl ?_
 have hX := xRf w
 refine Qf (Qb (Rr Qj (Qc (Qf (Qf (Qb (Rr (mvP rfl) (Rr (Zi underlying57 rfl rfl) (Rr (mvB rfl) (QA 2 9 rfl rfl (Rr (mvP rfl) (QA 2 9 rfl rfl (Rr (Zi underlying57 rfl rfl) (Rr (Q0 (v := .bool _) rfl rfl) (Qc (Qq rfl (Qp (Qf (Qf ?_)))))))))))))))))))
 apply Q3 (β := False) [peq _, peq _, peq _, peq _, peq _, peq _, peq _, peq _, peq _, peq _, peq _, peq _] 12 QV (by kernel_rfl) rfl ⟨Qd _, Qd _, Qd _, Qd _, Qd _, Qd _, Qd _, Qd _, Qd _, Qd _, Qd _, Qd _, trivial⟩ ?ob3 ?fin3
 case ob3 =>
  refine Qg (fun _ _ => Qe (Qn rfl (mvP rfl))) (Qg (fun _ _ => Qa (Qe (Qn rfl (QJ rfl)))) (Qg (fun _ _ => Qa (Qe (Qn rfl (Qy underlying119 rfl sizeOf114 rfl)))) (Qg (fun w7 x8 => ?_) ?_)))
  ·have hb := hb.ext x8
   exact Qa (Qe (Qn rfl (Qm isAgg114 rfl (hb.get 3 rfl))))
  refine Qg (fun _ _ => Qa (Qe (Qn rfl (QC underlying114 rfl)))) (Qg (fun _ _ => Qe (Qn rfl (mvP rfl))) (Qg (fun _ _ => Qa (Qe (Qn rfl (QJ rfl)))) (Qg (fun _ _ => Qa (Qe (Qn rfl (Qy underlying119 rfl sizeOf114 rfl)))) (Qg (fun w17 x18 => ?_) ?_))))
  ·have hb1 := hb1.ext x18
   exact Qa (Qe (Qn rfl (Qm isAgg114 rfl (hb1.get 3 rfl))))
  exact Qg (fun _ _ => Qa (Qe (Qn rfl (QC underlying114 rfl)))) (Qg (fun _ _ => Qa (Qa (Qe (Qn rfl (o_maxS (m := 1) (congrArg (fun n : Nat => Value.int .i64 (n : Int)) hm) (congrArg (fun n : Nat => Value.int .i64 (n : Int)) hm1)))))) (Qg (fun _ _ => Qe (Qn rfl QP)) QR))
 case fin3 =>
  intro w25 x26
  replace hX := hX.ex x26
  replace h0 := TbIs.ext h0 x26
  replace h1 := TbIs.ext h1 x26
  refine Qa (Qa (Qa (Qa (Qa (Qa (Qa (Qa (Qa (Qa (Qa (Qa (Qe (Qc (Qt (QU (α := Nat) [(4, 5), (30, 43)] (fun k => [(30, .int .i64 (k : Int))]) (fun k w' => (k ≤ 0) ∧ Ext False w25 w') (fun k => 1 - k) 0 ⟨rfl, trivial⟩ ⟨Nat.zero_le _, Bel.refl _ _⟩ ?_)))))))))))))))
  rintro k fb29 w28 ⟨hk, hXL27⟩
  replace hX := hX.ex hXL27
  replace h0 := TbIs.ext h0 hXL27
  replace h1 := TbIs.ext h1 hXL27
  refine Qf (Qb (Rr (QM rfl rfl) (Qc (Qf (Za (cvB (decide_eq_true (by omega))) (Qp (Qf (Qt (Qf (Qb ?_))))))))))
  have hkz : k = 0 := by omega
  refine Rr (mvI rfl) (Rr (asI rfl) (Qc (Qf (Qb (Rr (mvP rfl) (Rr (mvI rfl) (Rr (ZB (p := k) (b := 1) rfl rfl (by omega)) ?_)))))))
  refine Qo rfl (QB call24 rfl rfl) (Ok.mono (JO b _ _ nilS _ _ _ _ _ q.am q.cm _ t.M ((k + 1 : Nat) : Int) (by unfold I64; omega) _ h0.at' h0.m) ?_)
  rintro _ w30 ⟨rfl, x31⟩
  replace hX := hX.ex x31
  replace h0 := TbIs.ext h0 x31
  replace h1 := TbIs.ext h1 x31
  refine Rr (mvP rfl) (Rr (mvI rfl) (Rr (ZB (p := k) (b := 1) rfl rfl (by omega)) ?_))
  refine Qo rfl (QB call24 rfl rfl) (Ok.mono (JO b1 _ _ nilS _ _ _ _ _ q1.am q1.cm _ t1.M ((k + 1 : Nat) : Int) (by unfold I64; omega) _ h1.at' h1.m) ?_)
  rintro _ w32 ⟨rfl, x33⟩
  replace hX := hX.ex x33
  replace h0 := TbIs.ext h0 x33
  replace h1 := TbIs.ext h1 x33
  refine Qo rfl (QB call16 rfl rfl) (Ok.mono (Z5 _ (getV t.M (((k + 1 : Nat) : Int) - 1)) _ (Jx h0.mw _) (getV t1.M (((k + 1 : Nat) : Int) - 1)) _ (Jx h1.mw _)) ?_)
  rintro _ w34 ⟨rfl, x35⟩
  replace hX := hX.ex x35
  refine Rr (Zp rfl) (Qc ?_)
  refine Za (cvB (by rw [hkz, show (((0 + 1 : Nat) : Int) - 1) = 0 from rfl, hne]; rfl)) ?_
  refine Qf (Qb (Rr Qj (Qc (Qu ⟨_, Qr rfl rfl, ⟨cvB ?_, hX⟩⟩))))
  all_goals (rfl)
