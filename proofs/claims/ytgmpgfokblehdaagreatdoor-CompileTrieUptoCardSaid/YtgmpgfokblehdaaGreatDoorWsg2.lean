/- Walks: what functions return. -/
import Derived.Test.YtgmpgfokblehdaaGreatDoorWsg1
set_option linter.unusedVariables false
set_option linter.unusedSimpArgs false
set_option linter.unnecessarySimpa false
namespace Go.Proofs.YtgmpgfokblehdaaGreatDoor
open Go Go.Lx Go.RowKit Tryz
set_option maxRecDepth 100000
theorem YT (ph po : Nat) (o : OV) (w : World) (hha : At w ph 0 [.pointer (some ⟨po, 0, none⟩)]) (ho : OdAt (Lt w.heap.size) w po o) (hol : o.pairs.length ≤ 1000) : Ok Tryz.prog 159 #[pB ph] w fun v w' => Own encPr 2 208 (Fsh w w') w' v o.pairs ∧ Ext False w w' := by
 refine Qv 10 func159 rfl rfl rfl ?_
 have hX := xRf w
 refine Qf (Qb (Rr Qj (Qc (Qf (Qf (Qb (Rr (mvP rfl) (Rr (Zi underlying33 rfl rfl) (Qc (Qq rfl (Qp (Qf (Qb (Rr (mvP rfl) (Rr (QJ rfl) (Rr (Qy underlying131 rfl sizeOf128 rfl) (Rr (Qm isAgg128 rfl (hha.get 0 rfl)) (Qo rfl (QD call124 rfl) (Ok.mono (opairs_ok _ _ _ _ ho (by omega)) ?_)))))))))))))))))))
 rintro v9 w1 ⟨hown9, x2⟩
 replace hX := hX.ex x2
 replace hown9 := hown9.mono (D' := fun g => w.heap.size ≤ g) (fun g h1 h2 => by omega)
 exact Rr (QL (v := v9) rfl) (Qc (Qu ⟨_, Qr rfl rfl, ⟨hown9.mono (fun g h1 h2 => by omega), hX⟩⟩))
theorem hlinks_ok (v0 : Value) (L : List Pr) (w : World) (hh : HyIs w v0 L) (hl : L.length ≤ 1000) : Ok Tryz.prog 159 #[v0] w fun v w' => (∃ l, Own encPr 2 208 (Fsh w w') w' v l ∧ (∀ x, x ∈ l ↔ x ∈ L) ∧ l.length ≤ L.length) ∧ Ext False w w' := by
 obtain ⟨ph, po, o, rfl, hha, ho, hk⟩ := hh
 exact (YT ph po o w hha ho (Nat.le_trans hk.le hl)).mono fun v w2 ⟨h, x⟩ => ⟨⟨_, h, hk.ps, hk.le⟩, x⟩
set_option maxHeartbeats 2000000 in
theorem ppeople_ok (p : PtV) (s : StV) (w : World) (hp : PsIs w p s) (hs : StOk s) : Ok Tryz.prog 102 #[.agg (ptC p).toArray] w fun v w' => v = .int .i64 0 ∧ Ext False w w' := by
 have hlen := hs.mb.len
 have hgl := hs.gr.len
 have hlkl := hs.lkl
 refine Qv 103 func102 rfl rfl rfl ?_
 have hX := xRf w
 refine Qf (Qb (QH rfl (QX (v := .agg _) rfl) ?_))
 intro b1 w1 x2 hge1 hb1
 replace hX := hX.ex x2
 replace hp := hp.ext x2
 refine Rr Qj (Qc (Qf (Qb (Rr (QF isAgg39 sizeOf39 rfl hb1.at rfl) (Qo rfl (QD call101 rfl) (Ok.mono (proles_ok p s _ hp.rs hs.m) ?_))))))
 rintro _ w3 ⟨a14, c14, rfl, hq14, x4⟩
 replace hX := hX.ex x4
 replace hp := hp.ext x4
 replace hb1 := hb1.ext x4
 refine Zk rfl rfl zeroValue32 rfl sizeOf32 (fun _ => rfl) rfl rfl ?_
 intro b3 w5 x6 hge3 hb3
 replace hX := hX.ex x6
 replace hp := hp.ext x6
 replace hb1 := hb1.ext x6
 replace hq14 := hq14.ext x6
 refine Qc (Qf (Qb (Rr Qj (Qc (Qf (Qf (Qb (Rr (Qy underlying39 rfl sizeOf33 rfl) (Rr (Qm isAgg33 rfl (hb1.at.get 4 rfl)) (Qo rfl (QD call159 rfl) (Ok.mono (hlinks_ok _ _ _ hp.lk hs.lkl) ?_)))))))))))
 rintro v17 w7 ⟨⟨l17, hown17, hlm17, hll17⟩, x8⟩
 replace hX := hX.ex x8
 replace hp := hp.ext x8
 replace hb1 := hb1.ext x8
 replace hq14 := hq14.ext x8
 replace hb3 := hb3.ext x8
 obtain ⟨a17, c17, hv17, hs17⟩ := hown17.sl encPr_ok
 subst hv17
 refine Rr (QC underlying207 rfl) (Rr QP (Qc (Qt (QU (α := Nat) [(4, 4), (6, 6), (19, 36)] (fun k => [(19, .int .i64 (k : Int)), (4, .bool true)]) (fun k w' => (k ≤ l17.length) ∧ Ext False w7 w') (fun k => l17.length - k) 0 ⟨rfl, rfl, trivial⟩ ⟨Nat.zero_le _, Bel.refl _ _⟩ ?_))))
 rintro k fb11 w10 ⟨hk, hXL9⟩
 replace hX := hX.ex hXL9
 replace hp := hp.ext hXL9
 replace hb1 := hb1.ext hXL9
 replace hq14 := hq14.ext hXL9
 replace hb3 := hb3.ext hXL9
 replace hs17 := hs17.ext hXL9
 refine Qf (Qb (Rr (QM rfl rfl) (Qc (Qf (Qw rfl (fun hc1 => ?_) (fun hc1 => ?_))))))
 ·have hk1 : k < l17.length := by have := dcT hc1; omega
  refine Qp (Qf (Qt (Qf (Qb (Rr (QW underlying207 sizeOf208 hs17 rfl rfl omg) (Rr (QY isAgg208 sizeOf208 hs17 rfl (Ze (0, 0) hk1)) (Zk rfl rfl zeroValue208 rfl sizeOf208 (fun _ => rfl) rfl rfl ?_)))))))
  intro b6 w12 x13 hge6 hb6
  replace hXL9 := Bel.ex hXL9 x13
  replace hq14 := hq14.ext x13
  replace hb3 := hb3.ext x13
  refine Qc (Qb ?_)
  have hx := hs.lk1 _ ((hlm17 _).1 (gm (z := (0, 0)) hk1))
  refine Rr (mvB rfl) (Rr (mvB rfl) (QA 1 24 rfl rfl (Rr (QF isAgg32 sizeOf32 rfl hb3.at rfl) (QA 1 24 rfl rfl (Rr (ZO (i := 0) underlying208 sizeOf3 rfl rfl (by decide)) (QA 1 24 rfl rfl (Rr (Qm isAgg3 rfl (hb6.at.get 0 rfl)) (QA 1 24 rfl rfl (Qo rfl (QB call65 rfl rfl) (Ok.mono (Jr _ ⟨_, _, _⟩ _ hq14 (iv (l17.getD k (0, 0)).1) (iv_I64 _)) ?_))))))))))
  rintro _ w14 ⟨rfl, x15⟩
  replace hXL9 := Bel.ex hXL9 x15
  replace hq14 := hq14.ext x15
  replace hb3 := hb3.ext x15
  replace hb6 := hb6.ext x15
  refine Rr (Q7 (v := .bool _) rfl rfl) (Rr (mvB rfl) (QA 7 30 rfl (cvB hx.1) (Rr (QF isAgg32 sizeOf32 rfl hb3.at rfl) (QA 7 30 rfl (cvB hx.1) (Rr (ZO (i := 1) underlying208 sizeOf3 rfl rfl (by decide)) (QA 7 30 rfl (cvB hx.1) (Rr (Qm isAgg3 rfl (hb6.at.get 1 rfl)) (QA 7 30 rfl (cvB hx.1) (Qo rfl (QB call65 rfl rfl) (Ok.mono (Jr _ ⟨_, _, _⟩ _ hq14 (iv (l17.getD k (0, 0)).2) (iv_I64 _)) ?_))))))))))
  rintro _ w16 ⟨rfl, x17⟩
  replace hXL9 := Bel.ex hXL9 x17
  refine Rr (Q7 (v := .bool _) (cvB hx.1) rfl) (Rr (asB rfl) (Qc (Qb (Rr (QO rfl rfl omg) (Rr (mvI rfl) (Qc ⟨k + 1, ⟨sT, ?_, trivial⟩, oT, ⟨?_, hXL9⟩, ?_⟩))))))
  ·exact cvB hx.2
  ·show k + 1 ≤ l17.length; omega
  ·omega
 skip
 refine QN (QI (Qf (Qf (Qb (Rr (Qy underlying39 rfl sizeOf34 rfl) (Rr (Qm isAgg34 rfl (hb1.at.get 5 rfl)) (Qo rfl (QD call160 rfl) (Ok.mono (ments_ok _ s.mb _ hp.mb hs.mb) ?_))))))))
 rintro v39 w18 ⟨hown39, x19⟩
 replace hX := hX.ex x19
 replace hp := hp.ext x19
 replace hb1 := hb1.ext x19
 replace hq14 := hq14.ext x19
 replace hb3 := hb3.ext x19
 obtain ⟨a39, c39, hv39, hs39⟩ := hown39.sl Zq
 subst hv39
 refine Rr (QC underlying133 rfl) (Rr QP (Qc (Qt (QU (α := Nat) [(4, 4), (8, 8), (41, 60)] (fun k => [(41, .int .i64 (k : Int)), (4, .bool true)]) (fun k w' => (k ≤ s.mb.length) ∧ Ext False w18 w') (fun k => s.mb.length - k) 0 ⟨rfl, rfl, trivial⟩ ⟨Nat.zero_le _, Bel.refl _ _⟩ ?_))))
 rintro k fb22 w21 ⟨hk, hXL20⟩
 replace hX := hX.ex hXL20
 replace hp := hp.ext hXL20
 replace hb1 := hb1.ext hXL20
 replace hq14 := hq14.ext hXL20
 replace hb3 := hb3.ext hXL20
 replace hs39 := hs39.ext hXL20
 refine Qf (Qb (Rr (QM rfl rfl) (Qc (Qf (Qw rfl (fun hc2 => ?_) (fun hc2 => ?_))))))
 ·have hk1 : k < s.mb.length := by have := dcT hc2; omega
  refine Qp (Qf (Qt (Qf (Qb (Rr (QW underlying133 sizeOf136 hs39 rfl rfl omg) (Rr (QY isAgg136 sizeOf136 hs39 rfl (Ze mez hk1)) (Zk rfl rfl zeroValue136 rfl sizeOf136 (fun _ => rfl) rfl rfl ?_)))))))
  intro b8 w23 x24 hge8 hb8
  replace hXL20 := Bel.ex hXL20 x24
  replace hp := hp.ext x24
  replace hb1 := hb1.ext x24
  replace hq14 := hq14.ext x24
  replace hb3 := hb3.ext x24
  refine Qc ?_
  have hx := hs.mb1 _ (gm (z := mez) hk1)
  have hxr := (hs.mb.rg _ (gm (z := mez) hk1)).2.1
  apply Zl (β := False) (fun _ => 0) [peqC _, peqC _, peqC _, peqC _, peqC _, peqC _, peqC _, peqC _, peqC _, peqC _, peqC _, peqC _, peqC _, peqC _, peqC _] [0, 0, 0, 0, 0, 0, 0, 0, 0, 0, 0, 0, 0, 0, 0] 15 QV (by kernel_rfl) (by kernel_rfl) rfl ⟨Qk _ _, Qk _ _, Qk _ _, Qk _ _, Qk _ _, Qk _ _, Qk _ _, Qk _ _, Qk _ _, Qk _ _, Qk _ _, Qk _ _, Qk _ _, Qk _ _, Qk _ _, trivial⟩ ?ob11 ?fin11
  case ob11 =>
   refine Ql (fun w25 c27 x26 hc028 hk29 => Qi (Qx rfl (mvB rfl))) (Ql (fun w30 c32 x31 hc033 hk34 => Qh (Qi (Qx rfl (mvB rfl)))) (Ql (fun w35 c37 x36 hc038 hk39 => Qh (Qi (ZF 1 46 rfl rfl (Qx rfl (Qy underlying136 rfl sizeOf3 rfl))))) (Ql (fun w40 c42 x41 hc043 hk44 => ?_) ?_)))
   ·replace x41 := RelG.ext0 x41
    have hb8 := hb8.ext x41
    exact Qh (Qh (Qi (ZF 1 46 rfl rfl (Qx rfl (Qm isAgg3 rfl (hb8.at.get 0 rfl))))))
   refine Ql (fun w45 c47 x46 hc048 hk49 => Qh (Qi (ZF 1 46 rfl rfl (Qx rfl (Qy underlying39 rfl sizeOf29 rfl))))) (Ql (fun w50 c52 x51 hc053 hk54 => ?_) ?_)
   ·replace x51 := RelG.ext0 x51
    have hb1 := hb1.ext x51
    exact Qh (Qh (Qi (ZF 1 46 rfl rfl (Qx rfl (Qm isAgg29 rfl (hb1.at.get 1 rfl))))))
   refine Ql (fun w55 c57 x56 hc058 hk59 => ?_) ?_
   ·replace x56 := RelG.ext0 x56
    have hp := hp.ext x56
    exact Qh (Qh (Qh (Qi (ZF 1 46 rfl rfl (Jf rfl (QD call99 rfl) (Yc _ _ _ hp.us.is))))))
   refine Ql (fun w60 c62 x61 hc063 hk64 => Qh (Qh (Qh (Qi (ZF 1 46 rfl rfl (Qx rfl (Jk rfl rfl))))))) (Ql (fun w65 c67 x66 hc068 hk69 => Qh (Qh (Qi (Qx rfl (Q7 (v := .bool _) rfl rfl))))) (Ql (fun w70 c72 x71 hc073 hk74 => Qh (Qh (Qi (Qx rfl (mvB rfl))))) (Ql (fun w75 c77 x76 hc078 hk79 => ?_) ?_)))
   ·replace x76 := RelG.ext0 x76
    have hb3 := hb3.ext x76
    exact Qh (Qi (ZF 9 54 rfl (cvB (decide_eq_true hx.1)) (Qx rfl (QF isAgg32 sizeOf32 rfl hb3.at rfl))))
   refine Ql (fun w80 c82 x81 hc083 hk84 => Qh (Qi (ZF 9 54 rfl (cvB (decide_eq_true hx.1)) (Qx rfl (Qy underlying136 rfl sizeOf3 rfl))))) (Ql (fun w85 c87 x86 hc088 hk89 => ?_) ?_)
   ·replace x86 := RelG.ext0 x86
    have hb8 := hb8.ext x86
    exact Qh (Qh (Qi (ZF 9 54 rfl (cvB (decide_eq_true hx.1)) (Qx rfl (Qm isAgg3 rfl (hb8.at.get 1 rfl))))))
   refine Ql (fun w90 c92 x91 hc093 hk94 => ?_) ?_
   ·replace x91 := RelG.ext0 x91
    have hq14 := hq14.ext x91
    refine Qh (Qh (Qh (Qh (Qi (ZF 9 54 rfl (cvB (decide_eq_true hx.1)) ?_)))))
    exact Jf rfl (QB call65 rfl rfl) (Jr _ ⟨_, _, _⟩ _ hq14 (s.mb.getD k mez).r (by unfold I64; omega))
   exact Ql (fun w95 c97 x96 hc098 hk99 => Qh (Qh (Qi (Qx rfl (Q7 (v := .bool _) (cvB (decide_eq_true hx.1)) rfl))))) Q8
  case fin11 =>
   intro w100 c102 x101 hc0103
   replace x101 := RelG.ext0 x101
   replace hXL20 := Bel.ex hXL20 x101
   refine Qh (Qh (Qh (Qh (Qh (Qh (Qh (Qh (Qh (Qh (Qh (Qh (Qh (Qh (Qh (Qi (Rr (asB rfl) (Qc (Qb (Rr (QO rfl rfl omg) (Rr (mvI rfl) (Qc ⟨k + 1, ⟨sT, ?_, trivial⟩, oT, ⟨?_, hXL20⟩, ?_⟩)))))))))))))))))))))
   ·exact cvB hx.2
   ·show k + 1 ≤ s.mb.length; omega
   ·omega
 skip
 refine QN (QI (Qf (Qf (Qb (Rr (Qy underlying39 rfl sizeOf25 rfl) (Rr (Qm isAgg25 rfl (hb1.at.get 6 rfl)) (Qo rfl (QD call10 rfl) (Ok.mono (JE _ s.gr _ hp.gr hs.gr) ?_))))))))
 rintro v63 w104 ⟨hown63, x105⟩
 replace hX := hX.ex x105
 replace hp := hp.ext x105
 replace hb1 := hb1.ext x105
 replace hq14 := hq14.ext x105
 replace hb3 := hb3.ext x105
 obtain ⟨a63, c63, hv63, hs63⟩ := hown63.sl QZ
 subst hv63
 refine Rr (QC underlying47 rfl) (Rr QP (Qc (Qt (QU (α := Nat) [(4, 4), (10, 10), (65, 76)] (fun k => [(65, .int .i64 (k : Int)), (4, .bool true)]) (fun k w' => (k ≤ s.gr.length) ∧ Ext False w104 w') (fun k => s.gr.length - k) 0 ⟨rfl, rfl, trivial⟩ ⟨Nat.zero_le _, Bel.refl _ _⟩ ?_))))
 rintro k fb108 w107 ⟨hk, hXL106⟩
 replace hX := hX.ex hXL106
 replace hp := hp.ext hXL106
 replace hb1 := hb1.ext hXL106
 replace hq14 := hq14.ext hXL106
 replace hb3 := hb3.ext hXL106
 replace hs63 := hs63.ext hXL106
 refine Qf (Qb (Rr (QM rfl rfl) (Qc (Qf (Qw rfl (fun hc3 => ?_) (fun hc3 => ?_))))))
 ·have hk1 : k < s.gr.length := by have := dcT hc3; omega
  refine Qp (Qf (Qt (Qf (Qb (Rr (QW underlying47 sizeOf52 hs63 rfl rfl omg) (Rr (QY isAgg52 sizeOf52 hs63 rfl (Ze ez hk1)) (Zk rfl rfl zeroValue52 rfl sizeOf52 (fun _ => rfl) rfl rfl ?_)))))))
  intro b10 w109 x110 hge10 hb10
  replace hXL106 := Bel.ex hXL106 x110
  replace hq14 := hq14.ext x110
  replace hb3 := hb3.ext x110
  refine Qc (Qb ?_)
  have hx := hs.gr1 _ (gm (z := ez) hk1)
  obtain ⟨hxr1, hxr2, -⟩ := hs.gr.ve _ (gm (z := ez) hk1)
  refine Rr (mvB rfl) (Rr (mvB rfl) (QA 1 70 rfl rfl (Rr (QF isAgg32 sizeOf32 rfl hb3.at rfl) (QA 1 70 rfl rfl (Rr (Qy underlying52 rfl sizeOf3 rfl) (QA 1 70 rfl rfl (Rr (Qm isAgg3 rfl (hb10.at.get 0 rfl)) (QA 1 70 rfl rfl ?_))))))))
  refine Qo rfl (QB call65 rfl rfl) (Ok.mono (Jr _ ⟨_, _, _⟩ _ hq14 (s.gr.getD k ez).r (by unfold I64; omega)) ?_)
  rintro _ w111 ⟨rfl, x112⟩
  replace hXL106 := Bel.ex hXL106 x112
  refine Rr (Q7 (v := .bool _) rfl rfl) (Rr (asB rfl) (Qc (Qb (Rr (QO rfl rfl omg) (Rr (mvI rfl) (Qc ⟨k + 1, ⟨sT, ?_, trivial⟩, oT, ⟨?_, hXL106⟩, ?_⟩))))))
  ·exact cvB hx
  ·show k + 1 ≤ s.gr.length; omega
  ·omega
 skip
 refine QN (QI (Qf (Qf (Qb (Rr (Qy underlying39 rfl sizeOf37 rfl) (Rr (Qm isAgg37 rfl (hb1.at.get 9 rfl)) (Qo rfl (QD call112 rfl) (Ok.mono (Vk _ s.ss _ hp.ss hs.ss) ?_))))))))
 rintro v79 w113 ⟨⟨l79, hown79, hses79, hl79⟩, x114⟩
 replace hX := hX.ex x114
 replace hp := hp.ext x114
 replace hb1 := hb1.ext x114
 replace hq14 := hq14.ext x114
 replace hb3 := hb3.ext x114
 have hll79 := congrArg List.length hl79
 rw [List.length_map] at hll79
 have hlsl : l79.length ≤ 64 := by have h := hs.ss.len; rw [← hl79, List.length_map] at h; exact h
 obtain ⟨a79, c79, hv79, hs79⟩ := hown79.sl Zw
 subst hv79
 refine Rr (QC underlying141 rfl) (Rr QP (Qc (Qt (QU (α := Nat) [(4, 4), (12, 12), (81, 100)] (fun k => [(81, .int .i64 (k : Int)), (4, .bool true)]) (fun k w' => (k ≤ l79.length) ∧ Ext False w113 w') (fun k => l79.length - k) 0 ⟨rfl, rfl, trivial⟩ ⟨Nat.zero_le _, Bel.refl _ _⟩ ?_))))
 rintro k fb117 w116 ⟨hk, hXL115⟩
 replace hX := hX.ex hXL115
 replace hp := hp.ext hXL115
 replace hb1 := hb1.ext hXL115
 replace hq14 := hq14.ext hXL115
 replace hb3 := hb3.ext hXL115
 replace hses79 := hses79.ext hXL115
 replace hs79 := hs79.ext hXL115
 refine Qf (Qb (Rr (QM rfl rfl) (Qc (Qf (Qw rfl (fun hc4 => ?_) (fun hc4 => ?_))))))
 ·have hk1 : k < l79.length := by have := dcT hc4; omega
  refine Qp (Qf (Qt (Qf (Qb (Rr (QW underlying141 sizeOf145 hs79 rfl rfl omg) (Rr (QY isAgg145 sizeOf145 hs79 rfl (Ze sez hk1)) (Zk rfl rfl zeroValue145 rfl sizeOf145 (fun _ => rfl) rfl rfl ?_)))))))
  intro b12 w118 x119 hge12 hb12
  replace hXL115 := Bel.ex hXL115 x119
  replace hp := hp.ext x119
  replace hb1 := hb1.ext x119
  replace hq14 := hq14.ext x119
  replace hb3 := hb3.ext x119
  replace hses79 := hses79.ext x119
  refine Qc ?_
  have hsx : (l79.getD k sez).rs ∈ s.ss := by rw [← hl79]; exact List.mem_map_of_mem (gm hk1)
  have hse := hses79 _ (gm (z := sez) hk1)
  have hx := hs.ss1 _ hsx
  apply Zl (β := False) (fun _ => 0) [peqC _, peqC _, peqC _, peqC _, peqC _, peqC _, peqC _, peqC _, peqC _, peqC _, peqC _, peqC _, peqC _, peqC _, peqC _] [0, 0, 0, 0, 0, 0, 0, 0, 0, 0, 0, 0, 0, 0, 0] 15 QV (by kernel_rfl) (by kernel_rfl) rfl ⟨Qk _ _, Qk _ _, Qk _ _, Qk _ _, Qk _ _, Qk _ _, Qk _ _, Qk _ _, Qk _ _, Qk _ _, Qk _ _, Qk _ _, Qk _ _, Qk _ _, Qk _ _, trivial⟩ ?ob21 ?fin21
  case ob21 =>
   refine Ql (fun w120 c122 x121 hc0123 hk124 => Qi (Qx rfl (mvB rfl))) (Ql (fun w125 c127 x126 hc0128 hk129 => Qh (Qi (Qx rfl (mvB rfl)))) (Ql (fun w130 c132 x131 hc0133 hk134 => Qh (Qi (ZF 1 86 rfl rfl (Qx rfl (Qy underlying145 rfl sizeOf3 rfl))))) (Ql (fun w135 c137 x136 hc0138 hk139 => ?_) ?_)))
   ·replace x136 := RelG.ext0 x136
    have hb12 := hb12.ext x136
    exact Qh (Qh (Qi (ZF 1 86 rfl rfl (Qx rfl (Qm isAgg3 rfl (hb12.at.get 1 rfl))))))
   refine Ql (fun w140 c142 x141 hc0143 hk144 => Qh (Qi (ZF 1 86 rfl rfl (Qx rfl (Qy underlying39 rfl sizeOf29 rfl))))) (Ql (fun w145 c147 x146 hc0148 hk149 => ?_) ?_)
   ·replace x146 := RelG.ext0 x146
    have hb1 := hb1.ext x146
    exact Qh (Qh (Qi (ZF 1 86 rfl rfl (Qx rfl (Qm isAgg29 rfl (hb1.at.get 1 rfl))))))
   refine Ql (fun w150 c152 x151 hc0153 hk154 => ?_) ?_
   ·replace x151 := RelG.ext0 x151
    have hp := hp.ext x151
    exact Qh (Qh (Qh (Qi (ZF 1 86 rfl rfl (Jf rfl (QD call99 rfl) (Yc _ _ _ hp.us.is))))))
   refine Ql (fun w155 c157 x156 hc0158 hk159 => Qh (Qh (Qh (Qi (ZF 1 86 rfl rfl (Qx rfl (Jk rfl rfl))))))) (Ql (fun w160 c162 x161 hc0163 hk164 => Qh (Qh (Qi (Qx rfl (Q7 (v := .bool _) rfl rfl))))) (Ql (fun w165 c167 x166 hc0168 hk169 => Qh (Qh (Qi (Qx rfl (mvB rfl))))) (Ql (fun w170 c172 x171 hc0173 hk174 => Qh (Qi (ZF 9 94 rfl (cvB (decide_eq_true hx.1)) (Qx rfl (Qy underlying145 rfl sizeOf32 rfl))))) (Ql (fun w175 c177 x176 hc0178 hk179 => ?_) ?_))))
   ·replace x176 := RelG.ext0 x176
    have hb12 := hb12.ext x176
    exact Qh (Qh (Qi (ZF 9 94 rfl (cvB (decide_eq_true hx.1)) (Qx rfl (QF isAgg32 sizeOf32 rfl (hb12.at.sub 2 1) rfl)))))
   refine Ql (fun w180 c182 x181 hc0183 hk184 => ?_) ?_
   ·replace x181 := RelG.ext0 x181
    have hb3 := hb3.ext x181
    exact Qh (Qi (ZF 9 94 rfl (cvB (decide_eq_true hx.1)) (Qx rfl (QF isAgg32 sizeOf32 rfl hb3.at rfl))))
   refine Ql (fun w185 c187 x186 hc0188 hk189 => ?_) ?_
   ·replace x186 := RelG.ext0 x186
    have hq14 := hq14.ext x186
    have hse := hse.ext x186
    exact Qh (Qh (Qh (Qh (Qi (ZF 9 94 rfl (cvB (decide_eq_true hx.1)) (Jf rfl (QB call100 rfl rfl) (bwithin_ok _ ⟨_, _, _⟩ _ hse ⟨_, _, _⟩ _ hq14)))))))
   exact Ql (fun w190 c192 x191 hc0193 hk194 => Qh (Qh (Qi (Qx rfl (Q7 (v := .bool _) (cvB (decide_eq_true hx.1)) rfl))))) Q8
  case fin21 =>
   intro w195 c197 x196 hc0198
   replace x196 := RelG.ext0 x196
   replace hXL115 := Bel.ex hXL115 x196
   refine Qh (Qh (Qh (Qh (Qh (Qh (Qh (Qh (Qh (Qh (Qh (Qh (Qh (Qh (Qh (Qi (Rr (asB rfl) (Qc (Qb (Rr (QO rfl rfl omg) (Rr (mvI rfl) (Qc ⟨k + 1, ⟨sT, ?_, trivial⟩, oT, ⟨?_, hXL115⟩, ?_⟩)))))))))))))))))))))
   ·exact cvB hx.2
   ·show k + 1 ≤ l79.length; omega
   ·omega
 skip
 exact QN (QI (Qf (Qf (Qb (Rr (mvB rfl) (Rr (Zp rfl) (Qc (Qq rfl (Qp (Qf (Qb (Rr Qj (Qc (Qu ⟨_, Qr rfl rfl, ⟨rfl, hX⟩⟩))))))))))))))
set_option maxHeartbeats 2000000 in
theorem pkinds_ok (p : PtV) (s : StV) (w : World) (hp : PsIs w p s) (hs : StOk s) : Ok Tryz.prog 103 #[.agg (ptC p).toArray] w fun v w' => v = .int .i64 0 ∧ Ext False w w' := by
 have hgl := hs.gr.len
 have hlkl := hs.lkl
 refine Qv 71 func103 rfl rfl rfl ?_
 have hX := xRf w
 refine Qf (Qb (QH rfl (QX (v := .agg _) rfl) ?_))
 intro b1 w1 x2 hge1 hb1
 replace hX := hX.ex x2
 replace hp := hp.ext x2
 refine Rr Qj (Qc (Qf (Qb (Rr Qj (Qc (Qf (Qf (Qb (Rr (Qy underlying39 rfl sizeOf33 rfl) (Rr (Qm isAgg33 rfl (hb1.at.get 4 rfl)) (Qo rfl (QD call159 rfl) (Ok.mono (hlinks_ok _ _ _ hp.lk hs.lkl) ?_))))))))))))
 rintro v12 w3 ⟨⟨l12, hown12, hlm12, hll12⟩, x4⟩
 replace hX := hX.ex x4
 replace hp := hp.ext x4
 replace hb1 := hb1.ext x4
 obtain ⟨a12, c12, hv12, hs12⟩ := hown12.sl encPr_ok
 subst hv12
 refine Rr (QC underlying207 rfl) (Rr QP (Qc (Qt (QU (α := Nat) [(3, 3), (5, 5), (14, 32)] (fun k => [(14, .int .i64 (k : Int)), (3, .bool true)]) (fun k w' => (k ≤ l12.length) ∧ Ext False w3 w') (fun k => l12.length - k) 0 ⟨rfl, rfl, trivial⟩ ⟨Nat.zero_le _, Bel.refl _ _⟩ ?_))))
 rintro k fb7 w6 ⟨hk, hXL5⟩
 replace hX := hX.ex hXL5
 replace hp := hp.ext hXL5
 replace hb1 := hb1.ext hXL5
 replace hs12 := hs12.ext hXL5
 refine Qf (Qb (Rr (QM rfl rfl) (Qc (Qf (Qw rfl (fun hc1 => ?_) (fun hc1 => ?_))))))
 ·have hk1 : k < l12.length := by have := dcT hc1; omega
  refine Qp (Qf (Qt (Qf (Qb (Rr (QW underlying207 sizeOf208 hs12 rfl rfl omg) (Rr (QY isAgg208 sizeOf208 hs12 rfl (Ze (0, 0) hk1)) (Zk rfl rfl zeroValue208 rfl sizeOf208 (fun _ => rfl) rfl rfl ?_)))))))
  intro b5 w8 x9 hge5 hb5
  replace hXL5 := Bel.ex hXL5 x9
  replace hp := hp.ext x9
  replace hb1 := hb1.ext x9
  refine Qc ?_
  apply Zl (β := False) (fun _ => 0) [peqC _, peqC _, peqC _, peqC _, peqC _, peqC _, peqC _, peqC _, peqC _, peqC _, peqC _, peqC _, peqC _, peqC _] [0, 0, 0, 0, 0, 0, 0, 0, 0, 0, 0, 0, 0, 0] 14 QV (by kernel_rfl) (by kernel_rfl) rfl ⟨Qk _ _, Qk _ _, Qk _ _, Qk _ _, Qk _ _, Qk _ _, Qk _ _, Qk _ _, Qk _ _, Qk _ _, Qk _ _, Qk _ _, Qk _ _, Qk _ _, trivial⟩ ?ob5 ?fin5
  case ob5 =>
   refine Ql (fun w10 c12 x11 hc013 hk14 => Qi (Qx rfl (mvB rfl))) (Ql (fun w15 c17 x16 hc018 hk19 => Qh (Qi (Qx rfl (mvB rfl)))) (Ql (fun w20 c22 x21 hc023 hk24 => Qh (Qi (ZF 1 19 rfl rfl (Qx rfl (Qy underlying39 rfl sizeOf32 rfl))))) (Ql (fun w25 c27 x26 hc028 hk29 => ?_) ?_)))
   ·replace x26 := RelG.ext0 x26
    have hb1 := hb1.ext x26
    exact Qh (Qh (Qi (ZF 1 19 rfl rfl (Qx rfl (QF isAgg32 sizeOf32 rfl (hb1.at.sub 3 1) rfl)))))
   refine Ql (fun w30 c32 x31 hc033 hk34 => Qh (Qi (ZF 1 19 rfl rfl (Qx rfl (ZO (i := 0) underlying208 sizeOf3 rfl rfl (by decide)))))) (Ql (fun w35 c37 x36 hc038 hk39 => ?_) ?_)
   ·replace x36 := RelG.ext0 x36
    have hb5 := hb5.ext x36
    exact Qh (Qh (Qi (ZF 1 19 rfl rfl (Qx rfl (Qm isAgg3 rfl (hb5.at.get 0 rfl))))))
   refine Ql (fun w40 c42 x41 hc043 hk44 => ?_) ?_
   ·replace x41 := RelG.ext0 x41
    have hp := hp.ext x41
    exact Qh (Qh (Qh (Qh (Qi (ZF 1 19 rfl rfl (Jf rfl (QB call65 rfl rfl) (Jr _ ⟨p.aa, p.ca, 0⟩ (fun _ => True) hp.oa.set (iv (l12.getD k (0, 0)).1) (iv_I64 _))))))))
   refine Ql (fun w45 c47 x46 hc048 hk49 => Qh (Qi (ZF 1 19 rfl rfl (Qx rfl (Qy underlying39 rfl sizeOf32 rfl))))) (Ql (fun w50 c52 x51 hc053 hk54 => ?_) ?_)
   ·replace x51 := RelG.ext0 x51
    have hb1 := hb1.ext x51
    exact Qh (Qh (Qi (ZF 1 19 rfl rfl (Qx rfl (QF isAgg32 sizeOf32 rfl (hb1.at.sub 3 1) rfl)))))
   refine Ql (fun w55 c57 x56 hc058 hk59 => Qh (Qi (ZF 1 19 rfl rfl (Qx rfl (ZO (i := 1) underlying208 sizeOf3 rfl rfl (by decide)))))) (Ql (fun w60 c62 x61 hc063 hk64 => ?_) ?_)
   ·replace x61 := RelG.ext0 x61
    have hb5 := hb5.ext x61
    exact Qh (Qh (Qi (ZF 1 19 rfl rfl (Qx rfl (Qm isAgg3 rfl (hb5.at.get 1 rfl))))))
   refine Ql (fun w65 c67 x66 hc068 hk69 => ?_) ?_
   ·replace x66 := RelG.ext0 x66
    have hp := hp.ext x66
    exact Qh (Qh (Qh (Qh (Qi (ZF 1 19 rfl rfl (Jf rfl (QB call65 rfl rfl) (Jr _ ⟨p.aa, p.ca, 0⟩ (fun _ => True) hp.oa.set (iv (l12.getD k (0, 0)).2) (iv_I64 _))))))))
   exact Ql (fun w70 c72 x71 hc073 hk74 => Qh (Qh (Qh (Qi (ZF 1 19 rfl rfl (Qx rfl (o_beql underlying4 rfl rfl))))))) (Ql (fun w75 c77 x76 hc078 hk79 => Qh (Qh (Qi (Qx rfl (Q7 (v := .bool _) rfl rfl))))) Q8)
  case fin5 =>
   intro w80 c82 x81 hc083
   replace x81 := RelG.ext0 x81
   replace hXL5 := Bel.ex hXL5 x81
   refine Qh (Qh (Qh (Qh (Qh (Qh (Qh (Qh (Qh (Qh (Qh (Qh (Qh (Qh (Qi (Rr (asB rfl) (Qc (Qb (Rr (QO rfl rfl omg) (Rr (mvI rfl) (Qc ⟨k + 1, ⟨sT, ?_, trivial⟩, oT, ⟨?_, hXL5⟩, ?_⟩))))))))))))))))))))
   ·exact cvB (by rw [hasW0, hasW0]; rfl)
   ·show k + 1 ≤ l12.length; omega
   ·omega
 skip
 refine QN (QI (Qf (Qf (Qb (Rr (Qy underlying39 rfl sizeOf25 rfl) (Rr (Qm isAgg25 rfl (hb1.at.get 6 rfl)) (Qo rfl (QD call10 rfl) (Ok.mono (JE _ s.gr _ hp.gr hs.gr) ?_))))))))
 rintro v35 w84 ⟨hown35, x85⟩
 replace hX := hX.ex x85
 replace hp := hp.ext x85
 replace hb1 := hb1.ext x85
 obtain ⟨a35, c35, hv35, hs35⟩ := hown35.sl QZ
 subst hv35
 refine Rr (QC underlying47 rfl) (Rr QP (Qc (Qt (QU (α := Nat) [(3, 3), (7, 7), (37, 50)] (fun k => [(37, .int .i64 (k : Int)), (3, .bool true)]) (fun k w' => (k ≤ s.gr.length) ∧ Ext False w84 w') (fun k => s.gr.length - k) 0 ⟨rfl, rfl, trivial⟩ ⟨Nat.zero_le _, Bel.refl _ _⟩ ?_))))
 rintro k fb88 w87 ⟨hk, hXL86⟩
 replace hX := hX.ex hXL86
 replace hp := hp.ext hXL86
 replace hb1 := hb1.ext hXL86
 replace hs35 := hs35.ext hXL86
 refine Qf (Qb (Rr (QM rfl rfl) (Qc (Qf (Qw rfl (fun hc2 => ?_) (fun hc2 => ?_))))))
 ·have hk1 : k < s.gr.length := by have := dcT hc2; omega
  refine Qp (Qf (Qt (Qf (Qb (Rr (QW underlying47 sizeOf52 hs35 rfl rfl omg) (Rr (QY isAgg52 sizeOf52 hs35 rfl (Ze ez hk1)) (Zk rfl rfl zeroValue52 rfl sizeOf52 (fun _ => rfl) rfl rfl ?_)))))))
  intro b7 w89 x90 hge7 hb7
  replace hXL86 := Bel.ex hXL86 x90
  replace hp := hp.ext x90
  replace hb1 := hb1.ext x90
  refine Qc (Qb ?_)
  obtain ⟨hxr1, hxr2, -⟩ := hs.gr.ve _ (gm (z := ez) hk1)
  refine Rr (mvB rfl) (Rr (mvB rfl) (QA 1 42 rfl rfl (Rr (Qy underlying39 rfl sizeOf32 rfl) (QA 1 42 rfl rfl (Rr (QF isAgg32 sizeOf32 rfl (hb1.at.sub 3 1) rfl) (QA 1 42 rfl rfl (Rr (Qy underlying52 rfl sizeOf3 rfl) (QA 1 42 rfl rfl (Rr (Qm isAgg3 rfl (hb7.at.get 0 rfl)) (QA 1 42 rfl rfl ?_))))))))))
  refine Qo rfl (QB call65 rfl rfl) (Ok.mono (Jr _ ⟨p.aa, p.ca, 0⟩ (fun _ => True) hp.oa.set (s.gr.getD k ez).r (by unfold I64; omega)) ?_)
  rintro _ w91 ⟨rfl, x92⟩
  replace hXL86 := Bel.ex hXL86 x92
  refine QA 1 42 rfl rfl (Rr (Zp rfl) (Rr (Q7 (v := .bool _) rfl rfl) (Rr (asB rfl) (Qc (Qb (Rr (QO rfl rfl omg) (Rr (mvI rfl) (Qc ⟨k + 1, ⟨sT, ?_, trivial⟩, oT, ⟨?_, hXL86⟩, ?_⟩))))))))
  ·exact cvB (by rw [hasW0]; rfl)
  ·show k + 1 ≤ s.gr.length; omega
  ·omega
 skip
 refine QN (QI (Qf (Qf (Qb (Rr (Qy underlying39 rfl sizeOf37 rfl) (Rr (Qm isAgg37 rfl (hb1.at.get 9 rfl)) (Qo rfl (QD call112 rfl) (Ok.mono (Vk _ s.ss _ hp.ss hs.ss) ?_))))))))
 rintro v53 w93 ⟨⟨l53, hown53, hses53, hl53⟩, x94⟩
 replace hX := hX.ex x94
 replace hp := hp.ext x94
 replace hb1 := hb1.ext x94
 have hll53 := congrArg List.length hl53
 rw [List.length_map] at hll53
 have hlsl : l53.length ≤ 64 := by have h := hs.ss.len; rw [← hl53, List.length_map] at h; exact h
 obtain ⟨a53, c53, hv53, hs53⟩ := hown53.sl Zw
 subst hv53
 refine Rr (QC underlying141 rfl) (Rr QP (Qc (Qt (QU (α := Nat) [(3, 3), (9, 9), (55, 68)] (fun k => [(55, .int .i64 (k : Int)), (3, .bool true)]) (fun k w' => (k ≤ l53.length) ∧ Ext False w93 w') (fun k => l53.length - k) 0 ⟨rfl, rfl, trivial⟩ ⟨Nat.zero_le _, Bel.refl _ _⟩ ?_))))
 rintro k fb97 w96 ⟨hk, hXL95⟩
 replace hX := hX.ex hXL95
 replace hp := hp.ext hXL95
 replace hb1 := hb1.ext hXL95
 replace hses53 := hses53.ext hXL95
 replace hs53 := hs53.ext hXL95
 refine Qf (Qb (Rr (QM rfl rfl) (Qc (Qf (Qw rfl (fun hc3 => ?_) (fun hc3 => ?_))))))
 ·have hk1 : k < l53.length := by have := dcT hc3; omega
  refine Qp (Qf (Qt (Qf (Qb (Rr (QW underlying141 sizeOf145 hs53 rfl rfl omg) (Rr (QY isAgg145 sizeOf145 hs53 rfl (Ze sez hk1)) (Zk rfl rfl zeroValue145 rfl sizeOf145 (fun _ => rfl) rfl rfl ?_)))))))
  intro b9 w98 x99 hge9 hb9
  replace hXL95 := Bel.ex hXL95 x99
  replace hp := hp.ext x99
  replace hb1 := hb1.ext x99
  replace hses53 := hses53.ext x99
  refine Qc (Qb ?_)
  have hsx : (l53.getD k sez).rs ∈ s.ss := by rw [← hl53]; exact List.mem_map_of_mem (gm hk1)
  have hse := hses53 _ (gm (z := sez) hk1)
  refine Rr (mvB rfl) (Rr (mvB rfl) (QA 1 60 rfl rfl (Rr (Qy underlying145 rfl sizeOf32 rfl) (QA 1 60 rfl rfl (Rr (QF isAgg32 sizeOf32 rfl (hb9.at.sub 2 1) rfl) (QA 1 60 rfl rfl (Rr (Qy underlying39 rfl sizeOf32 rfl) (QA 1 60 rfl rfl (Rr (QF isAgg32 sizeOf32 rfl (hb1.at.sub 3 1) rfl) (QA 1 60 rfl rfl (Qo rfl (QB call161 rfl rfl) (Ok.mono (bmeets_ok _ ⟨_, _, _⟩ _ hse ⟨p.aa, p.ca, 0⟩ (fun _ => True) hp.oa.set) ?_))))))))))))
  rintro _ w100 ⟨rfl, x101⟩
  replace hXL95 := Bel.ex hXL95 x101
  refine QA 1 60 rfl rfl (Rr (Zp rfl) (Rr (Q7 (v := .bool _) rfl rfl) (Rr (asB rfl) (Qc (Qb (Rr (QO rfl rfl omg) (Rr (mvI rfl) (Qc ⟨k + 1, ⟨sT, ?_, trivial⟩, oT, ⟨?_, hXL95⟩, ?_⟩))))))))
  ·exact cvB (by simp)
  ·show k + 1 ≤ l53.length; omega
  ·omega
 skip
 exact QN (QI (Qf (Qf (Qb (Rr (mvB rfl) (Rr (Zp rfl) (Qc (Qq rfl (Qp (Qf (Qb (Rr Qj (Qc (Qu ⟨_, Qr rfl rfl, ⟨rfl, hX⟩⟩))))))))))))))
set_option maxHeartbeats 2000000 in
theorem plaws2_ok (p : PtV) (w : World) (hr : NtIs w (pB p.rs) 2) (hoa : OkS p.aa p.ca) : Ok Tryz.prog 104 #[.agg (ptC p).toArray] w fun v w' => v = .int .i64 0 ∧ Ext False w w' := by
 refine Qv 59 func104 rfl rfl rfl ?_
 have hX := xRf w
 refine Qf (Qb (QH rfl (QX (v := .agg _) rfl) ?_))
 intro b1 w1 x2 hge1 hb1
 have hlt1 := hb1.lt
 have z3 := x2.size
 replace hX := hX.ex x2
 replace hr := hr.ext x2
 refine Rr Qj (Qc (Qf (Qf (Qb (Rr (Qy underlying39 rfl sizeOf35 rfl) (Rr (Qm isAgg35 rfl (hb1.at.get 7 rfl)) (Rr (QC underlying35 rfl) (Rr QP (Qc (Qt (QU (α := Nat) [(2, 2), (4, 5), (13, 27)] (fun k => [(13, .int .i64 (k : Int))]) (fun k w' => (True) ∧ Ext False w1 w') (fun k => k) 0 ⟨rfl, trivial⟩ ⟨trivial, Bel.refl _ _⟩ ?_)))))))))))
 rintro k fb6 w5 ⟨-, hXL4⟩
 have z7 := Bel.size hXL4
 replace hX := hX.ex hXL4
 replace hr := hr.ext hXL4
 replace hb1 := hb1.ext hXL4
 refine Qf (Qb (Rr (QM rfl rfl) (Qc (Qf ?_))))
 refine Qq (cvB (decide_eq_false (by simp <;> omega))) ?_
 refine QN (QI (Qf ?_))
 obtain ⟨n1, hn1⟩ : ∃ n, n = w5.heap.size := ⟨_, rfl⟩
 apply Zl (β := False) (fun _ => 0) [peqC _, (postW (SvN n1 (6))), peqC _, peqC _, (postW (SvN n1 (6))), (postBox w5 32 [.slice none 0 0])] [0, 0, 0, 0, 0, 0] 6 QV (by kernel_rfl) (by kernel_rfl) rfl ⟨Qk _ _, (ZA (SvN.keepS _ _)), Qk _ _, Qk _ _, (ZA (SvN.keepS _ _)), (Je), trivial⟩ ?ob8 ?fin8
 case ob8 =>
  refine Ql (fun w8 c10 x9 hc011 hk12 => ?_) ?_
  ·replace x9 := RelG.ext0 x9
   have hb1 := hb1.ext x9
   exact Qi (Qx rfl (QF isAgg39 sizeOf39 rfl hb1.at rfl))
  refine Ql (fun w14 c16 x15 hc017 hk18 => ?_) ?_
  ·replace x15 := RelG.ext0 x15
   have z19 := x15.size
   have hr := hr.ext x15
   refine Qh (Qi ?_)
   exact Yt (S := SvN n1 (6)) rfl (QD call101 rfl) ((proles2_ok p _ hr).mono (fun v w2 ⟨a, c, h1, h2, x⟩ => ⟨⟨fun g hg => by have := hg.1; omega, a, c, h1, h2⟩, x⟩))
  refine Ql (fun w20 c22 x21 hc023 hk24 => Qi (Qx rfl (Qy underlying39 rfl sizeOf32 rfl))) (Ql (fun w26 c28 x27 hc029 hk30 => ?_) ?_)
  ·replace x27 := RelG.ext0 x27
   have hb1 := hb1.ext x27
   exact Qh (Qi (Qx rfl (QF isAgg32 sizeOf32 rfl (hb1.at.sub 3 1) rfl)))
  refine Ql (fun w32 c34 x33 hc035 hk36 => ?_) ?_
  ·replace x33 := RelG.ext0 x33
   have z37 := x33.size
   refine Qz (fun v29 hv29 => ?_)
   obtain ⟨F29, hF29, hn29, a29, c29, rfl, hq29⟩ := hv29
   refine Qh (Qz (fun v29 hv29 => ?_))
   obtain ⟨F29, hF29, hn29, a29, c29, rfl, hq29⟩ := hv29
   refine Qi ?_
   exact Yt (S := SvN n1 (6)) rfl (QB call163 rfl rfl) ((bminus6_ok a29 c29 _ p.aa p.ca _ hq29 hoa).mono (fun v w2 ⟨a, c, h1, h2, x⟩ => ⟨⟨fun g hg => by have := hg.1; omega, a, c, h1, h2⟩, x⟩))
  refine Ql (fun w38 c40 x39 hc041 hk42 => ?_) ?_
  ·replace x39 := RelG.ext0 x39
   exact Qi (OpC_box (Bel.size x39) rfl (Q4 zeroValue32))
  exact Q8
 case fin8 =>
  intro w44 c46 x45 hc047
  replace x45 := RelG.ext0 x45
  have z48 := x45.size
  replace hX := hX.ex x45
  replace hb1 := hb1.ext x45
  refine Qh (Qz (fun v29 hv29 => ?_))
  obtain ⟨F29, hF29, hn29, a29, c29, rfl, hq29⟩ := hv29
  refine Qh (Qh (Qz (fun v32 hv32 => ?_)))
  obtain ⟨F32, hF32, hn32, a32, c32, rfl, hq32⟩ := hv32
  refine Qz (fun v6 hv6 => Qi ?_)
  obtain ⟨b6, rfl, hge6, hb6, hcb6⟩ := hv6
  have hlt6 := hb6.lt
  refine QS (v := .agg _) rfl sizeOf32 rfl rfl hb6 rfl rfl rfl ?_
  intro w49 c50 hb6
  have z51 := Bel.size c50
  replace hX := Bel.out hX c50 om2
  replace hb1 := hb1.keep c50 om1
  refine Qc (Qf (Qf (Qb (Rr (Qy underlying39 rfl sizeOf36 rfl) (Rr (Qm isAgg36 rfl (hb1.at.get 8 rfl)) (Rr (QC underlying36 rfl) (Rr QP (Qc (Qt (QU (α := Nat) [(2, 2), (7, 9), (36, 58)] (fun k => [(36, .int .i64 (k : Int))]) (fun k w' => (True) ∧ Ext False w49 w') (fun k => k) 0 ⟨rfl, trivial⟩ ⟨trivial, Bel.refl _ _⟩ ?_))))))))))
  rintro k fb54 w53 ⟨-, hXL52⟩
  replace hX := hX.ex hXL52
  refine Qf (Qb (Rr (QM rfl rfl) (Qc (Qf ?_))))
  refine Qq (cvB (decide_eq_false (by simp <;> omega))) ?_
  exact QN (QI (Qf (Qb (Rr Qj (Qc (Qu ⟨_, Qr rfl rfl, ⟨rfl, hX⟩⟩))))))
set_option maxHeartbeats 2000000 in
theorem plaws6_ok (p : PtV) (w : World) (hr : NtIs w (pB p.rs) 6) (hoa : OkS p.aa p.ca) : Ok Tryz.prog 104 #[.agg (ptC p).toArray] w fun v w' => v = .int .i64 0 ∧ Ext False w w' := by
 refine Qv 59 func104 rfl rfl rfl ?_
 have hX := xRf w
 refine Qf (Qb (QH rfl (QX (v := .agg _) rfl) ?_))
 intro b1 w1 x2 hge1 hb1
 have hlt1 := hb1.lt
 have z3 := x2.size
 replace hX := hX.ex x2
 replace hr := hr.ext x2
 refine Rr Qj (Qc (Qf (Qf (Qb (Rr (Qy underlying39 rfl sizeOf35 rfl) (Rr (Qm isAgg35 rfl (hb1.at.get 7 rfl)) (Rr (QC underlying35 rfl) (Rr QP (Qc (Qt (QU (α := Nat) [(2, 2), (4, 5), (13, 27)] (fun k => [(13, .int .i64 (k : Int))]) (fun k w' => (True) ∧ Ext False w1 w') (fun k => k) 0 ⟨rfl, trivial⟩ ⟨trivial, Bel.refl _ _⟩ ?_)))))))))))
 rintro k fb6 w5 ⟨-, hXL4⟩
 have z7 := Bel.size hXL4
 replace hX := hX.ex hXL4
 replace hr := hr.ext hXL4
 replace hb1 := hb1.ext hXL4
 refine Qf (Qb (Rr (QM rfl rfl) (Qc (Qf ?_))))
 refine Qq (cvB (decide_eq_false (by simp <;> omega))) ?_
 refine QN (QI (Qf ?_))
 obtain ⟨n1, hn1⟩ : ∃ n, n = w5.heap.size := ⟨_, rfl⟩
 apply Zl (β := False) (fun _ => 0) [peqC _, (postW (SvN n1 (126))), peqC _, peqC _, (postW (SvN n1 (126))), (postBox w5 32 [.slice none 0 0])] [0, 0, 0, 0, 0, 0] 6 QV (by kernel_rfl) (by kernel_rfl) rfl ⟨Qk _ _, (ZA (SvN.keepS _ _)), Qk _ _, Qk _ _, (ZA (SvN.keepS _ _)), (Je), trivial⟩ ?ob8 ?fin8
 case ob8 =>
  refine Ql (fun w8 c10 x9 hc011 hk12 => ?_) ?_
  ·replace x9 := RelG.ext0 x9
   have hb1 := hb1.ext x9
   exact Qi (Qx rfl (QF isAgg39 sizeOf39 rfl hb1.at rfl))
  refine Ql (fun w14 c16 x15 hc017 hk18 => ?_) ?_
  ·replace x15 := RelG.ext0 x15
   have z19 := x15.size
   have hr := hr.ext x15
   refine Qh (Qi ?_)
   exact Yt (S := SvN n1 (126)) rfl (QD call101 rfl) ((proles6_ok p _ hr).mono (fun v w2 ⟨a, c, h1, h2, x⟩ => ⟨⟨fun g hg => by have := hg.1; omega, a, c, h1, h2⟩, x⟩))
  refine Ql (fun w20 c22 x21 hc023 hk24 => Qi (Qx rfl (Qy underlying39 rfl sizeOf32 rfl))) (Ql (fun w26 c28 x27 hc029 hk30 => ?_) ?_)
  ·replace x27 := RelG.ext0 x27
   have hb1 := hb1.ext x27
   exact Qh (Qi (Qx rfl (QF isAgg32 sizeOf32 rfl (hb1.at.sub 3 1) rfl)))
  refine Ql (fun w32 c34 x33 hc035 hk36 => ?_) ?_
  ·replace x33 := RelG.ext0 x33
   have z37 := x33.size
   refine Qz (fun v29 hv29 => ?_)
   obtain ⟨F29, hF29, hn29, a29, c29, rfl, hq29⟩ := hv29
   refine Qh (Qz (fun v29 hv29 => ?_))
   obtain ⟨F29, hF29, hn29, a29, c29, rfl, hq29⟩ := hv29
   refine Qi ?_
   exact Yt (S := SvN n1 (126)) rfl (QB call163 rfl rfl) ((bminus126_ok a29 c29 _ p.aa p.ca _ hq29 hoa).mono (fun v w2 ⟨a, c, h1, h2, x⟩ => ⟨⟨fun g hg => by have := hg.1; omega, a, c, h1, h2⟩, x⟩))
  refine Ql (fun w38 c40 x39 hc041 hk42 => ?_) ?_
  ·replace x39 := RelG.ext0 x39
   exact Qi (OpC_box (Bel.size x39) rfl (Q4 zeroValue32))
  exact Q8
 case fin8 =>
  intro w44 c46 x45 hc047
  replace x45 := RelG.ext0 x45
  have z48 := x45.size
  replace hX := hX.ex x45
  replace hb1 := hb1.ext x45
  refine Qh (Qz (fun v29 hv29 => ?_))
  obtain ⟨F29, hF29, hn29, a29, c29, rfl, hq29⟩ := hv29
  refine Qh (Qh (Qz (fun v32 hv32 => ?_)))
  obtain ⟨F32, hF32, hn32, a32, c32, rfl, hq32⟩ := hv32
  refine Qz (fun v6 hv6 => Qi ?_)
  obtain ⟨b6, rfl, hge6, hb6, hcb6⟩ := hv6
  have hlt6 := hb6.lt
  refine QS (v := .agg _) rfl sizeOf32 rfl rfl hb6 rfl rfl rfl ?_
  intro w49 c50 hb6
  have z51 := Bel.size c50
  replace hX := Bel.out hX c50 om2
  replace hb1 := hb1.keep c50 om1
  refine Qc (Qf (Qf (Qb (Rr (Qy underlying39 rfl sizeOf36 rfl) (Rr (Qm isAgg36 rfl (hb1.at.get 8 rfl)) (Rr (QC underlying36 rfl) (Rr QP (Qc (Qt (QU (α := Nat) [(2, 2), (7, 9), (36, 58)] (fun k => [(36, .int .i64 (k : Int))]) (fun k w' => (True) ∧ Ext False w49 w') (fun k => k) 0 ⟨rfl, trivial⟩ ⟨trivial, Bel.refl _ _⟩ ?_))))))))))
  rintro k fb54 w53 ⟨-, hXL52⟩
  replace hX := hX.ex hXL52
  refine Qf (Qb (Rr (QM rfl rfl) (Qc (Qf ?_))))
  refine Qq (cvB (decide_eq_false (by simp <;> omega))) ?_
  exact QN (QI (Qf (Qb (Rr Qj (Qc (Qu ⟨_, Qr rfl rfl, ⟨rfl, hX⟩⟩))))))
theorem plaws_ok (p : PtV) (s : StV) (w : World) (hp : PsIs w p s) (hs : StOk s) : Ok Tryz.prog 104 #[.agg (ptC p).toArray] w fun v w' => v = .int .i64 0 ∧ Ext False w w' := by
 have h := hp.rs.is
 rcases hs.m with e | e
 ·rw [e] at h; exact plaws2_ok p w h hp.oa
 ·rw [e] at h; exact plaws6_ok p w h hp.oa
