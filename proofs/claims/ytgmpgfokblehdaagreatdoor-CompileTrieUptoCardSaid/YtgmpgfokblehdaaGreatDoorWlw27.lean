/- Walks: what functions return. -/
import Derived.Test.YtgmpgfokblehdaaGreatDoorWak27
import Derived.Test.YtgmpgfokblehdaaGreatDoorWplay13
set_option linter.unusedVariables false
set_option linter.unusedSimpArgs false
set_option linter.unnecessarySimpa false
namespace Go.Proofs.YtgmpgfokblehdaaGreatDoor
open Go Go.Lx Go.RowKit Tryz
set_option maxRecDepth 100000
theorem act24_ok (w : World) (n : UInt8) : Ok Tryz.prog 15 #[.int .u8 (n.toNat : Int)] w fun v w' => v = str (([[114, 101, 97, 100], [119, 114, 105, 116, 101], [114, 117, 110]] : List Str).getD (n.toNat % 3) []) ∧ Ext False w w' := by
 refine Qv 8 func15 rfl rfl rfl ?_
 have hX := xRf w
 refine Qf (Qb (Rr Qj (Qc (Qf (Qb (ZP (vs := [str _, str _, str _]) (([[114, 101, 97, 100], [119, 114, 105, 116, 101], [114, 117, 110]] : List Str)) rfl Q5 ZC rfl rfl ⟨rfl, ⟨rfl, ⟨rfl, trivial⟩⟩⟩ rfl rfl rfl rfl ?_))))))
 intro a3 w1 x2 hown3
 replace hX := hX.ex x2
 refine Rr (mvI rfl) (Rr (o_remU (a := n.toNat) (b := 3) rfl rfl (by decide)) ?_)
 refine Rr (ZE (i := n.toNat % 3) underlying23 sizeOf9 hown3 rfl rfl (by show _ < 3; omega)) ?_
 refine Rr (Zx isAgg9 (hown3.slA Q5) rfl rfl (Ze [] (by show _ < 3; omega)) rfl) ?_
 refine Rr (asT rfl) (Qc (Qu ⟨_, Qr rfl rfl, ⟨congrArg str ?_, hX⟩⟩))
 all_goals (rfl)
def act27 (n : UInt8) : Str := ([[114, 101, 97, 100], [119, 114, 105, 116, 101], [114, 117, 110]] : List Str).getD (n.toNat % 3) []
theorem Yy (n : UInt8) : (act27 n).length ≤ 5 := by
 unfold act27
 generalize hm : n.toNat % 3 = m
 have hl : m < 3 := by omega
 match m, hl with
 | 0, _ => decide
 | 1, _ => decide
 | 2, _ => decide
theorem YY (n : UInt8) (w : World) : Ok Tryz.prog 15 #[.int .u8 (n.toNat : Int)] w fun v w' => v = str (act27 n) ∧ Ext False w w' := act24_ok w n
theorem nadd6_ok (v0 : Value) (k : Nat) (hk : k < 6) (w : World) (ht : NtM w v0 (rs6.take k)) : Ok Tryz.prog 8 #[v0, str (rs6.getD k []), .int .i64 9] w fun v w' => (∃ b n, v = .tuple #[pB b, .int .i64 n, .int .i64 0] ∧ NtM w' (pB b) (rs6.take (k + 1))) ∧ Ext False w w' := by
 obtain ⟨h1, h2, h3, h4⟩ := rs6_step k hk
 rw [h4]
 have hl : (rs6.take k).length ≤ 6 := by rw [List.length_take]; exact Nat.min_le_right _ _
 exact Vq v0 (rs6.take k) (rs6.getD k []) (by omega) 9 w ht h1 h3 (by omega) (by omega)
set_option maxHeartbeats 8000000 in
theorem lawc_CompileTrie (w : World) (v0 : Value) (l : List GOp) (hl : Rd encGo 5 (Lt w.heap.size) w v0 l) (dl : ∀ z ∈ l, Sl encB 1 (Lt w.heap.size) w z.p.a z.p.c z.p.names) (ac : UInt8) (an : Option Addr) (cn : Nat) (ns : List Str) (hns : Sl encS 1 (Lt w.heap.size) w an cn ns) (hsum : (ns.map List.length).sum + ns.length ≤ 1048576) (hT : Tb w) : Ok Tryz.prog 3 #[v0, .int .u8 (ac.toNat : Int), .slice an ns.length cn] w fun v w' => v = .bool true ∧ Ext False w w' := by
 obtain ⟨al, cl, rfl, hl⟩ := hl
 have hll := hl.len
 replace hl := hl.mono (F' := fun g => g < w.heap.size) (fun g h1 h2 => h1)
 replace hns := hns.mono (F' := fun g => g < w.heap.size) (fun g h1 h2 => h1)
 refine Qv 130 func3 rfl rfl rfl ?_
 have hX := xRf w
 refine Qf (Qb (Rr Qj (Qc (Qf (Qf (Qb (Qo rfl (Z1 call4) (Ok.mono (awake27_ok _ hT) ?_))))))))
 rintro _ w1 ⟨rfl, x2⟩
 have z3 := x2.size
 replace hX := hX.ex x2
 replace hl := hl.ext x2
 replace hT := hT.ext x2
 replace hns := hns.ext x2
 replace dl := (fun z hz => (dl z hz).ext x2)
 refine Rr (Zp rfl) (Qc (Qq rfl (Qp (Qf (Qb (Rr (mvS rfl) (Qo rfl (QD call5 rfl) (Ok.mono (lplay13_ok _ _ l hl.trd (fun z hz => (dl z hz).top)) ?_))))))))
 rintro _ w4 ⟨⟨p28, q28, m28, rfl, hm28, hbk28, -⟩, x5⟩
 have z6 := x5.size
 replace hX := hX.ex x5
 replace hT := hT.ext x5
 replace hns := hns.ext x5
 refine Rr (QG (v := .tuple _) rfl) (Rr (QE rfl rfl) (Rr (QE rfl rfl) (Rr (asP rfl) (Rr (QL (v := q28) rfl) (Qc (Qf (Qf (Qb (Rr (mvP rfl) (Rr (Zi underlying25 rfl rfl) (Qc (Qq rfl (Qp (Qf (Qb (Qo rfl (Z1 call6) (Ok.mono (snewZ_ok _ hT) ?_)))))))))))))))))
 rintro _ w7 ⟨⟨b33, us, rs, aa, ca, lk, mb, gr, ar, cr, ac0, cc, ss, rfl, hst33, hpt33⟩, x8⟩
 have z9 := x8.size
 replace hX := hX.ex x8
 replace hT := hT.ext x8
 replace hns := hns.ext x8
 replace hbk28 := hbk28.ext x8
 refine Qo rfl (QD call7 rfl) (Ok.mono (JD b33 _ _ hst33 hpt33.orl) ?_)
 rintro _ w10 ⟨⟨a34, rfl⟩, x11⟩
 have z12 := x11.size
 replace hX := hX.ex x11
 replace hT := hT.ext x11
 replace hns := hns.ext x11
 replace hbk28 := hbk28.ext x11
 replace hpt33 := hpt33.ext x11
 have hml28 := hm28.len
 have hE1 : Bel False NoB w10 w10 := Bel.refl _ _
 refine Zk rfl rfl zeroValue39 rfl sizeOf39 (fun _ => rfl) rfl rfl ?_
 intro b9 w13 x14 hge9 hb9
 have hlt9 := hb9.lt
 have z15 := x14.size
 replace hX := hX.ex x14
 replace hE1 := Bel.ex hE1 x14
 refine Qc (Qf (Qf (Qb ?_)))
 change Box _ _ _ [.int .i64 0, pB us, pB rs, .slice aa 0 ca, pB lk, pB mb, pB gr, .slice a34 0 0, .slice none 0 0, pB ss] at hb9
 refine ZP (vs := [str _, str _, str _, str _, str _, str _]) (rs6) rfl Q5 ZC rfl rfl ⟨rfl, ⟨rfl, ⟨rfl, ⟨rfl, ⟨rfl, ⟨rfl, trivial⟩⟩⟩⟩⟩⟩ rfl rfl rfl rfl ?_
 intro a35 w16 x17 hown35
 have z18 := x17.size
 replace hX := hX.ex x17
 replace hE1 := Bel.ex hE1 x17
 replace hb9 := hb9.ext x17
 refine Rr (QC underlying23 rfl) ?_
 have hnr0 := (hpt33.rs.ext hE1).bx2 (bxP hb9) (bxP hb9)
 refine Rr QP (Qc (Qt (QU (α := Nat × Nat) [(6, 6), (11, 14), (37, 53)] (fun q => [(37, .int .i64 (q.1 : Int))]) (fun q w' => (q.1 ≤ 6) ∧ Bel False (fun g => g = b9) w16 w' ∧ (Box w' b9 39 [.int .i64 0, pB us, pB q.2, .slice aa 0 ca, pB lk, pB mb, pB gr, .slice a34 0 0, .slice none 0 0, pB ss] ∧ NtF (fun g => g ≠ b9 ∧ g ≠ b9) w' (pB q.2) (rs6.take q.1))) (fun q => 6 - q.1) (0, rs) ⟨rfl, trivial⟩ ⟨Nat.zero_le _, Bel.refl _ _, ⟨hb9, hnr0⟩⟩ ?_)))
 rintro ⟨k, rb⟩ fb21 w20 ⟨hk, hXL19, ⟨hb9, hnr⟩⟩
 dsimp only at *
 have z22 := Bel.size hXL19
 replace hX := Bel.out hX hXL19 om2
 replace hE1 := Bel.out hE1 hXL19 om2
 replace hown35 := hown35.keepD hXL19 om3
 refine Qf (Qb (Rr (QM rfl rfl) (Qc (Qf (Qw rfl (fun hc3 => ?_) (fun hc3 => ?_))))))
 ·have hk6 : k < 6 := by have h := dcT hc3; have h2 : rs6.length = 6 := rfl; omega
  have hk61 : k < rs6.length := hk6
  refine Qp (Qf (Qt (Qf (Qb (Rr (QW underlying23 sizeOf9 (hown35.slA Q5) rfl rfl omg) (Rr (Zx isAgg9 (hown35.slA Q5) rfl rfl (Ze [] hk6) rfl) (Rr (asT rfl) (Qc (Qf (Qb (Rr (Qy underlying39 rfl sizeOf29 rfl) (Rr (Qm isAgg29 rfl (hb9.at.get 2 rfl)) (Rr (mvT rfl) (Qo rfl (Zg call8 rfl rfl rfl) (Ok.mono (nadd6_ok _ k hk6 _ hnr.is) ?_)))))))))))))))
  rintro _ w23 ⟨⟨b45, n45, rfl, hnt45⟩, x24⟩
  replace hXL19 := Bel.ex hXL19 x24
  replace hE1 := Bel.ex hE1 x24
  replace hb9 := hb9.ext x24
  replace hnr := hnr.ext x24
  replace hnr := hnt45.bx2 (bxP hb9) (bxP hb9)
  refine Rr (QG (v := .tuple _) rfl) (Rr (QE rfl rfl) (Rr (QE rfl rfl) (Rr (QE rfl rfl) (Rr (asP rfl) (Rr (asI rfl) (Rr (asI rfl) (Qc (Qf (Qf (Qb (Rr (mvI rfl) (Rr (Zv rfl rfl) (Qc (Qq rfl (Qp (Qb (Rr (mvP rfl) (Rr (Qy underlying39 rfl sizeOf29 rfl) (Q6 (v := .pointer _) rfl sizeOf29 rfl rfl hb9 rfl rfl rfl ?_)))))))))))))))))))
  intro w26 c27 hb9
  replace hXL19 := Bel.out hXL19 c27 om2
  replace hE1 := Bel.out hE1 c27 om2
  replace hnr := hnr.keepD c27 om3
  refine Qc (Qb (Rr (QO rfl rfl omg) ?_))
  have hnr0 := (hpt33.rs.ext hE1).bx2 (bxP hb9) (bxP hb9)
  refine Rr (mvI rfl) (Qc ⟨(k + 1, b45), ⟨sT, trivial⟩, oT, ⟨?_, hXL19, ?_⟩, ?_⟩)
  ·show k + 1 ≤ 6; omega
  ·exact ⟨hb9, hnr⟩
  ·show 6 - (k + 1) < 6 - k; omega
 have hk6 : ¬ k < 6 := by have h := dcF hc3; have h2 : rs6.length = 6 := rfl; omega
 refine QN (QI (Qf (Qb ?_)))
 rw [List.take_of_length_le (show rs6.length ≤ k by have : rs6.length = 6 := rfl; omega)] at hnr
 refine Qo rfl (Z1 call9) (Ok.mono (gnewB_ok _) ?_)
 rintro _ w29 ⟨⟨b54, rfl, hbk54⟩, x30⟩
 have z31 := x30.size
 replace hX := hX.ex x30
 replace hE1 := Bel.ex hE1 x30
 replace hb9 := hb9.ext x30
 replace hnr := hnr.ext x30
 have hgb0 := hbk54.bx2 (bxP hb9) (bxP hb9) OkG.nil
 refine Rr (Qy underlying39 rfl sizeOf25 rfl) (Q6 (v := .pointer _) rfl sizeOf25 rfl rfl hb9 rfl rfl rfl ?_)
 intro w32 c33 hb9
 have z34 := Bel.size c33
 replace hX := Bel.out hX c33 om2
 replace hE1 := Bel.out hE1 c33 om2
 replace hnr := hnr.keepD c33 om3
 replace hgb0 := hgb0.keep c33 om3
 refine Qc (Qf (Qf (Qb (Rr (mvP rfl) (Qo rfl (QD call10 rfl) (Ok.mono (JE _ m28 _ (hbk28.is.ext hE1) hm28) ?_))))))
 rintro v57 w35 ⟨hown57, x36⟩
 have z37 := x36.size
 replace hX := hX.ex x36
 replace hE1 := Bel.ex hE1 x36
 replace hb9 := hb9.ext x36
 replace hnr := hnr.ext x36
 replace hgb0 := hgb0.ext x36
 obtain ⟨a57, c57, hv57, hs57⟩ := hown57.sl QZ
 subst hv57
 refine Rr (QC underlying47 rfl) (Rr QP (Qc (Qt (QU (α := Nat × Nat) [(6, 6), (16, 18), (59, 80)] (fun q => [(59, .int .i64 (q.1 : Int))]) (fun q w' => (q.1 ≤ m28.length) ∧ Bel False (fun g => g = b9) w35 w' ∧ (Box w' b9 39 [.int .i64 0, pB us, pB rb, .slice aa 0 ca, pB lk, pB mb, pB q.2, .slice a34 0 0, .slice none 0 0, pB ss] ∧ GbF (fun g => g ≠ b9 ∧ g ≠ b9) w' (pB q.2) (keep6 (m28.take q.1)))) (fun q => m28.length - q.1) (0, b54) ⟨rfl, trivial⟩ ⟨Nat.zero_le _, Bel.refl _ _, ⟨hb9, hgb0⟩⟩ ?_))))
 rintro ⟨k, gb⟩ fb40 w39 ⟨hk, hXL38, ⟨hb9, hgb⟩⟩
 dsimp only at *
 have z41 := Bel.size hXL38
 replace hX := Bel.out hX hXL38 om2
 replace hE1 := Bel.out hE1 hXL38 om2
 replace hnr := hnr.keepD hXL38 om3
 replace hs57 := hs57.keep hXL38 om3
 refine Qf (Qb (Rr (QM rfl rfl) (Qc (Qf (Qw rfl (fun hc5 => ?_) (fun hc5 => ?_))))))
 ·have hk1 : k < m28.length := by have := dcT hc5; omega
  refine Qp (Qf (Qt (Qf (Qb (Rr (QW underlying47 sizeOf52 hs57 rfl rfl omg) (Rr (QY isAgg52 sizeOf52 hs57 rfl (Ze ez hk1)) (Zk rfl rfl zeroValue52 rfl sizeOf52 (fun _ => rfl) rfl rfl ?_)))))))
  intro b16 w42 x43 hge16 hb16
  replace hXL38 := Bel.ex hXL38 x43
  replace hb9 := hb9.ext x43
  replace hgb := hgb.ext x43
  refine Qc (Qf (Qf (Qb (Rr (Qy underlying52 rfl sizeOf3 rfl) (Rr (Qm isAgg3 rfl (hb16.at.get 0 rfl)) (Rr (ZM rfl rfl) (Qc (Qw rfl (fun hc6 => ?_) (fun hc6 => ?_)))))))))
  ·have hr6 : ¬ (m28.getD k ez).r ≤ 6 := by have := dcT hc6; omega
   refine QN (QI (Qb (Rr (QO rfl rfl omg) (Rr (mvI rfl) (Qc ⟨(k + 1, gb), ⟨sT, trivial⟩, oT, ⟨?_, hXL38, ?_⟩, ?_⟩)))))
   ·show k + 1 ≤ m28.length; omega
   ·exact ⟨hb9, by show GbF _ _ _ (keep6 (m28.take (k + 1))); rw [keep6_no hk1 hr6]; exact hgb⟩
   ·show m28.length - (k + 1) < m28.length - k; omega
  have hr6 : (m28.getD k ez).r ≤ 6 := by have := dcF hc6; omega
  refine Qp (Qf (Qb (Rr (Qy underlying39 rfl sizeOf25 rfl) (Rr (Qm isAgg25 rfl (hb9.at.get 6 rfl)) (Rr (Qy underlying52 rfl sizeOf3 rfl) (Rr (Qm isAgg3 rfl (hb16.at.get 0 rfl)) (Rr (Qy underlying52 rfl sizeOf50 rfl) (Rr (QF isAgg50 sizeOf50 rfl (hb16.at.sub 1 3) rfl) (Qo rfl (Zg call11 rfl rfl rfl) (Ok.mono (ggrantB_ok _ _ _ hgb.is (YS hm28 k) (m28.getD k ez) (hm28.ve _ (gm hk1)).2.2.1 (keep6_grant hm28 hk1 hr6)) ?_))))))))))
  rintro _ w45 ⟨⟨b73, rfl, hgb73⟩, x46⟩
  replace hXL38 := Bel.ex hXL38 x46
  replace hb9 := hb9.ext x46
  replace hgb := hgb.ext x46
  replace hgb := hgb73.bx2 (bxP hb9) (bxP hb9) (YS hm28 (k + 1))
  refine Rr (QG (v := .tuple _) rfl) (Rr (QE rfl rfl) (Rr (QE rfl rfl) (Rr (asP rfl) (Rr (asI rfl) (Qc (Qf (Qf (Qb (Rr (mvI rfl) (Rr (Zv rfl rfl) (Qc (Qq rfl (Qp (Qb (Rr (mvP rfl) (Rr (Qy underlying39 rfl sizeOf25 rfl) (Q6 (v := .pointer _) rfl sizeOf25 rfl rfl hb9 rfl rfl rfl ?_)))))))))))))))))
  intro w48 c49 hb9
  replace hXL38 := Bel.out hXL38 c49 om2
  replace hgb := hgb.keep c49 om3
  refine Qc (Qb (Rr (QO rfl rfl omg) (Rr (mvI rfl) (Qc ⟨(k + 1, b73), ⟨sT, trivial⟩, oT, ⟨?_, hXL38, ?_⟩, ?_⟩))))
  ·show k + 1 ≤ m28.length; omega
  ·exact ⟨hb9, hgb⟩
  ·show m28.length - (k + 1) < m28.length - k; omega
 have hk1 : ¬ k < m28.length := by have := dcF hc5; omega
 refine QN (QI (Qf (Qb ?_)))
 rw [List.take_of_length_le (show m28.length ≤ k by omega)] at hgb
 have hps : PsIs w39 (⟨0, us, rb, aa, ca, lk, mb, gb, a34, 0, none, 0, ss⟩ : PtV) (st6 m28) := ⟨hpt33.us.ext hE1, hnr.is, hpt33.lk.ext hE1, hpt33.mb.ext hE1, hgb.is, hpt33.ss.ext hE1, hpt33.oa, ⟨Nat.zero_le _, fun _ => rfl⟩⟩
 refine Rr (QF isAgg39 sizeOf39 rfl hb9.at rfl) (Qo rfl (QD call12 rfl) (Ok.mono (sofG_ok (⟨0, us, rb, aa, ca, lk, mb, gb, a34, 0, none, 0, ss⟩ : PtV) (st6 m28) _ hps (st6_ok hm28) (show (0 : Int) ≤ 0 ∧ (0 : Int) ≤ 30000 by decide)) ?_))
 rintro _ w51 ⟨⟨b83, a83, rfl, hgs83, hst83, hpt83⟩, x52⟩
 replace hX := hX.ex x52
 replace hE1 := Bel.ex hE1 x52
 replace hb9 := hb9.ext x52
 replace hgb := hgb.ext x52
 refine Rr (QG (v := .tuple _) rfl) (Rr (QE rfl rfl) (Rr (QE rfl rfl) (Rr (asP rfl) (Rr (asI rfl) (Qc (Qf (Qf (Qb ?_))))))))
 have hT2 := hT.ext hE1
 have hnm := hns.ext hE1
 have hgI := hgb.is
 have hlk := hpt33.lk.ext hE1
 obtain ⟨ph, po, od, hph, hha, ho, hok⟩ := hlk
 cases hph
 refine Rr (mvI rfl) (Rr (Zv rfl rfl) (Qc (Qq rfl (Qp (Qf (Qb (Rr (mvP rfl) (Qo rfl (QD call13 rfl) (Ok.mono (cnew_ok b83 po (ptL (⟨0, us, rb, aa, ca, lk, mb, gb, a34, 0, none, 0, ss⟩ : PtV) a83) (st6 m28) od _ hst83 hpt83 (st6_ok hm28) hha ho hT2 (Nat.zero_le _) (Nat.zero_le _)) ?_)))))))))
 rintro _ w54 ⟨⟨bt89, rfl, t89, q89, htb89, hto89, htd89, htm89, htj89, hte89, htmm89, l89, htl89, htos89⟩, x55⟩
 replace hX := hX.ex x55
 replace hb9 := hb9.ext x55
 replace ho := Zn ho x55
 replace hnm := hnm.ext x55
 replace hgI := hgI.ext x55
 refine Rr (asP rfl) (Qc (Qf (Qb (Rr Qj (Qc (Qf (Qf (Qb (Rr Qj (Qc (Qt (QU (α := Nat) [(6, 6), (22, 23), (90, 119)] (fun k => [(22, str (pthK ns k)), (23, .int .i64 (k : Int))]) (fun k w' => (k ≤ ns.length) ∧ Ext False w54 w') (fun k => ns.length - k) 0 ⟨rfl, rfl, trivial⟩ ⟨Nat.zero_le _, Bel.refl _ _⟩ ?_))))))))))))
 rintro k fb59 w58 ⟨hk, hXL57⟩
 replace hX := hX.ex hXL57
 replace hb9 := hb9.ext hXL57
 replace ho := Zn ho hXL57
 replace hnm := hnm.ext hXL57
 replace hgI := hgI.ext hXL57
 replace htb89 := TbIs.ext htb89 hXL57
 refine Qf (Qf (Qb (Rr (mvI rfl) (Rr (mvS rfl) (Rr (QC underlying23 rfl) (Rr (QM rfl rfl) (Rr (mvB rfl) (Qs 4 94 rfl rfl rfl (fun hg => mvI rfl) (Qs 4 94 rfl rfl rfl (fun hg => QM (QK (u := undef) hg) rfl) (Rr (Zt (u := undef) rfl rfl) (Qc (Qw rfl (fun hc9 => ?_) (fun hc9 => ?_)))))))))))))
 ·have hk12 := hc9
  rw [Bool.and_eq_true] at hk12
  have hk1 : k < ns.length := by have := dcT hk12.1; omega
  have hk9 : k < 9 := by have := dcT hk12.2; omega
  refine Qp (Qf (Qt (Qf (Qb (Rr (mvT rfl) (Rr (mvS rfl) (Rr (mvI rfl) (Rr (QW underlying23 sizeOf9 hnm rfl rfl omg) (Rr (Zx isAgg9 hnm rfl rfl (Ze [] hk1) rfl) ?_)))))))))
  refine Rr (o_sadd rfl rfl (by have := Y9 hsum (k + 1); rw [pthK_succ hk1] at this; simp only [List.length_append, List.length_singleton] at this ⊢; omega)) ?_
  refine Rr (o_saddE (pthK_succ hk1) rfl rfl (by have := Y9 hsum (k + 1); rw [pthK_succ hk1] at this; simp only [List.length_append, List.length_singleton] at this ⊢; omega)) ?_
  refine Rr (asT rfl) (Qc (Qf ?_))
  apply Q3 (β := False) [peq _, peq _, peq _, peq _, (postSV (fun _ => True) (covW t89.m (act27 ac) (pthK ns (k + 1)))), peq _, peq _, peq _, peq _, peq _, (postSV (fun _ => True) (covW (keep6 m28) (act27 ac) (pthK ns (k + 1)))), peq _, peq _] 13 QV (by kernel_rfl) rfl ⟨Qd _, Qd _, Qd _, Qd _, (Zf _ _), Qd _, Qd _, Qd _, Qd _, Qd _, (Zf _ _), Qd _, Qd _, trivial⟩ ?ob34 ?fin34
  case ob34 =>
   refine Qg (fun _ _ => Qe (Qn rfl (mvP rfl))) (Qg (fun _ _ => Qe (Qn rfl (mvI rfl))) (Qg (fun _ _ => Qa (Qe (Zj rfl (QD call15 rfl) (YY ac _)))) (Qg (fun _ _ => Qe (Qn rfl (mvT rfl))) (Qg (fun w73 x74 => ?_) ?_))))
   ·have htb89 := TbIs.ext htb89 x74
    refine Qa (Qa (Qa (Qa (Qe ?_))))
    exact ZK rfl (Zg call14 rfl rfl rfl) ((tcov_ok bt89 q89.tr _ _ _ _ _ _ _ _ t89.m (by rw [htm89]; exact JY hm28) (act27 ac) (pthK ns (k + 1)) (by have := Yy ac; omega) (by have := Y9 hsum (k + 1); omega) _ htb89.at' htb89.tr).mono (fun v w2 ⟨a, c, e, h, x⟩ => ⟨x, a, c, e, h.mono (fun _ _ _ => trivial)⟩))
   refine Qg (fun _ _ => Qe (Qn rfl (Qy underlying39 rfl sizeOf25 rfl))) (Qg (fun w79 x80 => ?_) ?_)
   ·have hb9 := hb9.ext x80
    exact Qa (Qe (Qn rfl (Qm isAgg25 rfl (hb9.at.get 6 rfl))))
   refine Qg (fun _ _ => Qe (Qn rfl (mvI rfl))) (Qg (fun w85 x86 => ?_) ?_)
   ·refine Qa (QQ (fun v111 hv111 => ?_))
    obtain ⟨a111, c111, rfl, hq111⟩ := hv111
    exact Qe (Zj rfl (QD call15 rfl) (YY ac _))
   refine Qg (fun _ _ => Qe (Qn rfl (mvT rfl))) (Qg (fun w91 x92 => ?_) ?_)
   ·have hgI := hgI.ext x92
    refine Qa (Qa (Qa (Qa (Qe ?_))))
    exact ZK rfl (Zg call17 rfl rfl rfl) ((gcov_ok _ (keep6 m28) _ hgI (JY hm28) (act27 ac) (pthK ns (k + 1)) (by have := Yy ac; omega) (by have := Y9 hsum (k + 1); omega)).mono (fun v w2 ⟨a, c, e, h, x⟩ => ⟨x, a, c, e, h.mono (fun _ _ _ => trivial)⟩))
   refine Qg (fun w94 x95 => ?_) ?_
   ·refine QQ (fun v111 hv111 => ?_)
    obtain ⟨a111, c111, rfl, hq111⟩ := hv111
    refine QQ (fun v117 hv117 => ?_)
    obtain ⟨a117, c117, rfl, hq117⟩ := hv117
    refine QQ (fun v117 hv117 => ?_)
    obtain ⟨a117, c117, rfl, hq117⟩ := hv117
    exact Qe (Zj rfl (QB call16 rfl rfl) (show Ok _ _ _ _ (fun v w' => v = .bool (covW t89.m (act27 ac) (pthK ns (k + 1)) == covW (keep6 m28) (act27 ac) (pthK ns (k + 1))) ∧ Ext False _ w') from Z5 _ ⟨a111, c111, covW t89.m (act27 ac) (pthK ns (k + 1))⟩ _ hq111 ⟨a117, c117, covW (keep6 m28) (act27 ac) (pthK ns (k + 1))⟩ _ hq117))
   exact Qg (fun _ _ => Qa (Qe (Qn rfl (Zp rfl)))) QR
  case fin34 =>
   intro w100 x101
   replace hXL57 := Bel.ex hXL57 x101
   refine Qa (Qa (Qa (Qa (QQ (fun v111 hv111 => ?_)))))
   obtain ⟨a111, c111, rfl, hq111⟩ := hv111
   refine Qa (Qa (Qa (Qa (Qa (QQ (fun v117 hv117 => ?_))))))
   obtain ⟨a117, c117, rfl, hq117⟩ := hv117
   refine Qa (Qa (Qe (Qc ?_)))
   refine Qq (cvB (by rw [htm89]; simp)) ?_
   refine Qp (Qb (Rr (mvI rfl) (Rr (QO rfl rfl omg) (Rr (asI rfl) (Qc ⟨k + 1, ⟨sT, sT, trivial⟩, oT, ⟨?_, hXL57⟩, ?_⟩)))))
   ·show k + 1 ≤ ns.length; omega
   ·omega
 skip
 refine QN (QI (Qf ?_))
 apply Q3 (β := False) [peq _, peq _, peq _, (postSV (fun _ => True) (covW t89.m (act27 ac) [47])), peq _, peq _, peq _, peq _, (postSV (fun _ => True) (covW (keep6 m28) (act27 ac) [47])), peq _, peq _] 11 QV (by kernel_rfl) rfl ⟨Qd _, Qd _, Qd _, (Zf _ _), Qd _, Qd _, Qd _, Qd _, (Zf _ _), Qd _, Qd _, trivial⟩ ?ob36 ?fin36
 case ob36 =>
  refine Qg (fun _ _ => Qe (Qn rfl (mvP rfl))) (Qg (fun _ _ => Qe (Qn rfl (mvI rfl))) (Qg (fun _ _ => Qa (Qe (Zj rfl (QD call15 rfl) (YY ac _)))) (Qg (fun w112 x113 => ?_) ?_)))
  ·have htb89 := TbIs.ext htb89 x113
   refine Qa (Qa (Qa (Qe ?_)))
   exact ZK rfl (Zg call14 rfl rfl rfl) ((tcov_ok bt89 q89.tr _ _ _ _ _ _ _ _ t89.m (by rw [htm89]; exact JY hm28) (act27 ac) [47] (by have := Yy ac; omega) (by decide) _ htb89.at' htb89.tr).mono (fun v w2 ⟨a, c, e, h, x⟩ => ⟨x, a, c, e, h.mono (fun _ _ _ => trivial)⟩))
  refine Qg (fun _ _ => Qe (Qn rfl (Qy underlying39 rfl sizeOf25 rfl))) (Qg (fun w118 x119 => ?_) ?_)
  ·have hb9 := hb9.ext x119
   exact Qa (Qe (Qn rfl (Qm isAgg25 rfl (hb9.at.get 6 rfl))))
  refine Qg (fun _ _ => Qe (Qn rfl (mvI rfl))) (Qg (fun w124 x125 => ?_) ?_)
  ·refine Qa (QQ (fun v123 hv123 => ?_))
   obtain ⟨a123, c123, rfl, hq123⟩ := hv123
   exact Qe (Zj rfl (QD call15 rfl) (YY ac _))
  refine Qg (fun w127 x128 => ?_) ?_
  ·have hgI := hgI.ext x128
   refine Qa (Qa (Qa (Qe ?_)))
   exact ZK rfl (Zg call17 rfl rfl rfl) ((gcov_ok _ (keep6 m28) _ hgI (JY hm28) (act27 ac) [47] (by have := Yy ac; omega) (by decide)).mono (fun v w2 ⟨a, c, e, h, x⟩ => ⟨x, a, c, e, h.mono (fun _ _ _ => trivial)⟩))
  refine Qg (fun w130 x131 => ?_) ?_
  ·refine QQ (fun v123 hv123 => ?_)
   obtain ⟨a123, c123, rfl, hq123⟩ := hv123
   refine QQ (fun v128 hv128 => ?_)
   obtain ⟨a128, c128, rfl, hq128⟩ := hv128
   refine QQ (fun v128 hv128 => ?_)
   obtain ⟨a128, c128, rfl, hq128⟩ := hv128
   exact Qe (Zj rfl (QB call16 rfl rfl) (show Ok _ _ _ _ (fun v w' => v = .bool (covW t89.m (act27 ac) [47] == covW (keep6 m28) (act27 ac) [47]) ∧ Ext False _ w') from Z5 _ ⟨a123, c123, covW t89.m (act27 ac) [47]⟩ _ hq123 ⟨a128, c128, covW (keep6 m28) (act27 ac) [47]⟩ _ hq128))
  refine Qg (fun w133 x134 => ?_) ?_
  ·refine Qa (Qa (Qa (Qa (Qa (QQ (fun v123 hv123 => ?_))))))
   obtain ⟨a123, c123, rfl, hq123⟩ := hv123
   refine Qa (Qa (Qa (Qa (QQ (fun v128 hv128 => ?_)))))
   obtain ⟨a128, c128, rfl, hq128⟩ := hv128
   exact Qa (Qe (Qn rfl (asB rfl)))
  exact QR
 case fin36 =>
  intro w136 x137
  replace hX := hX.ex x137
  refine Qa (Qa (Qa (QQ (fun v123 hv123 => ?_))))
  obtain ⟨a123, c123, rfl, hq123⟩ := hv123
  refine Qa (Qa (Qa (Qa (QQ (fun v128 hv128 => ?_)))))
  obtain ⟨a128, c128, rfl, hq128⟩ := hv128
  refine Qa (Qa (Qe (Qc (Qu ⟨_, Qr rfl rfl, ⟨cvB ?_, hX⟩⟩))))
  all_goals (exact beq_iff_eq.2 (by rw [htm89]))
