/- Walks: what functions return. -/
import Derived.Test.YtgmpgfokblehdaaGreatDoorWeq8
set_option linter.unusedVariables false
set_option linter.unusedSimpArgs false
set_option linter.unnecessarySimpa false
namespace Go.Proofs.YtgmpgfokblehdaaGreatDoor
open Go Go.Lx Go.RowKit Tryz
set_option maxRecDepth 100000
set_option maxHeartbeats 2000000 in
theorem cnew_ok (b po : Nat) (p : PtV) (s : StV) (od : OV) (w : World) (hst : At w b 0 (ptC p)) (hp : PsIs w p s) (hs : StOk s) (hha : At w p.lk 0 [.pointer (some ⟨po, 0, none⟩)]) (ho0 : OdAt (Lt w.heap.size) w po od) (hT : Tb w) (hul : s.us.length ≤ 1) (hsl : s.ss.length ≤ 1) : Ok Tryz.prog 13 #[pB b] w fun v w' => (∃ x, v = pB x ∧ ∃ t q, TbIs w' x t q ∧ t.o = pB b ∧ t.day = p.day ∧ t.m = s.gr ∧ t.J.map SV.x = (List.range s.rs.length).map (fun k => junO od ((k + 1 : Nat) : Int)) ∧ t.E.map SV.x = (List.range s.us.length).map (fun k => onW s.mb ((k + 1 : Nat) : Int) p.day) ∧ t.M.map SV.x = t.E.map (fun e => clW t.J (memW e.x 64)) ∧ ∃ l, l.map SE.rs = s.ss ∧ OSp t.J t.M l s.ss.length t.O) ∧ Ext False w w' := by
 refine Qv 15 func13 rfl rfl rfl ?_
 have hX := xRf w
 refine Qf (Qb (Rr Qj (Qc (Qf (Qf (Qb (Rr (mvP rfl) (Rr (Zi underlying40 rfl rfl) (Qc (Qq rfl (Qp (Qf (Qb (Rr (Q2 (cells := (tbL (.pointer none) 0 nilS nilS nilS (.map none) (.pointer none) nilS)) (vs := []) rfl (by kernel_rfl)) (QH rfl (QX (v := .agg _) rfl) ?_)))))))))))))))
 intro b9 w1 x2 hge9 hb9
 replace hX := hX.ex x2
 replace hst := hst.ext x2
 replace hp := hp.ext x2
 replace hha := hha.ext x2
 replace hT := hT.ext x2
 replace ho0 := Zn ho0 x2
 refine Rr (mvP rfl) (Qo rfl (QB call50 rfl rfl) (Ok.mono (tfill_ok b9 b po p s od _ hb9.at hst hp hs hha ho0 hT hul hsl) ?_))
 rintro _ w4 ⟨⟨x11, n11, rfl, t11, q11, htb11, hto11, htd11, htm11, htj11, hte11, htmm11, l11, htl11, htos11⟩, x5⟩
 replace hX := hX.ex x5
 exact Rr (QG (v := .tuple _) rfl) (Rr (QE rfl rfl) (Rr (QE rfl rfl) (Rr (QL (v := (pB x11)) rfl) (Rr (asI rfl) (Qc (Qf (Qb (Rr (QG (v := (pB x11)) rfl) (Rr (QL (v := (pB x11)) rfl) (Qc (Qu ⟨_, Qr rfl rfl, ⟨⟨x11, rfl, t11, q11, htb11, hto11, htd11, htm11, htj11, hte11, htmm11, l11, htl11, htos11⟩, hX⟩⟩)))))))))))
set_option maxHeartbeats 2000000 in
theorem tupd_ok (b0 b b1 : Nat) (p p1 : PtV) (s s1 : StV) (tb : TbV) (tq : TbP) (w : World) (hb1 : TbIs w b0 tb tq) (hto : tb.o = pB b1) (hst1 : At w b1 0 (ptC p1)) (hp1 : PsIs w p1 s1) (hst : At w b 0 (ptC p)) (hp : PsIs w p s) (hs : StOk s) (hlk : p1.lk = p.lk) (hday : p1.day = p.day) (hus : s1.us = s.us) (hrs2 : s1.rs = s.rs) (hT : Tb w) (hul : s.us.length = 1) (hsl : s.ss.length ≤ 1) (hgr : s1.gr = s.gr) (hJl : tb.J.length = s.rs.length) (hEl : tb.E.length = 1) (hne : ((tb.E.getD 0 sz).x == onW s.mb ((0 + 1 : Nat) : Int) p.day) = false) (htm : tb.m = s.gr) (hlkl : s1.lk.length ≤ 1000) (hmb : (s1.mb == s.mb) = false) : Ok Tryz.prog 23 #[pB b0, pB b] w fun v w' => (∃ x n, v = .tuple #[pB x, .int .i64 n] ∧ ∃ t q, TbIs w' x t q ∧ t.o = pB b ∧ t.day = p.day ∧ t.m = s.gr ∧ t.J = tb.J ∧ t.E.map SV.x = (List.range s.us.length).map (fun k => onW s.mb ((k + 1 : Nat) : Int) p.day) ∧ t.M.map SV.x = t.E.map (fun e => clW t.J (memW e.x 64)) ∧ ∃ l, l.map SE.rs = s.ss ∧ OSp t.J t.M l s.ss.length t.O) ∧ Ext False w w' := by
 have hb0 : At w b0 0 (tbL (pB b1) tb.day (.slice tq.ae tb.E.length tq.ce) (.slice tq.am tb.M.length tq.cm) (.slice tq.aj tb.J.length tq.cj) (.map (some tq.mo)) (pB tq.tr) (.slice tq.ag tb.G.length tq.cg)) := by
  have h := hb1.at'
  unfold tbC at h
  rw [hto] at h
  exact h
 have hbl := hst.lt
 have hb0l := hb0.lt
 refine Qv 24 func23 rfl rfl rfl ?_
 have hX := xRf w
 refine Qf (Qb (Rr Qj (Rr Qj (Qc (Qf (Qf (Qb (Rr (mvP rfl) (Rr (Zi underlying40 rfl rfl) (Qc (Qq rfl (Qp (Qf (Qf (Qb (Rr (mvP rfl) (Rr (Zi underlying57 rfl rfl) (Qc (Qq rfl (Qp (Qf (Qf (Qb (Rr (mvP rfl) (Rr (QJ rfl) (Rr (Qy underlying119 rfl sizeOf40 rfl) (Rr (Qm isAgg40 rfl (hb0.get 0 rfl)) (Rr (mvP rfl) (Qo rfl (QB call69 rfl rfl) (Ok.mono (stne_ok b1 b p1 p s1 s _ hst1 hst hp1 hp hday hus hrs2 hlk.symm hlkl hmb) ?_))))))))))))))))))))))))))))))
 rintro _ w1 ⟨rfl, x2⟩
 replace hX := hX.ex x2
 replace hst := hst.ext x2
 replace hst1 := hst1.ext x2
 replace hp := hp.ext x2
 replace hp1 := hp1.ext x2
 replace hT := hT.ext x2
 replace hb1 := TbIs.ext hb1 x2
 refine Qc (Qq rfl (Qp (Qf (Qb (Rr (mvP rfl) (Rr (mvP rfl) (Qo rfl (QB call50 rfl rfl) (Ok.mono (tfillB_ok b0 b b1 p p1 s s1 tb tq _ hb1 hto hst1 hp1 hst hp hs hT hul hsl hlk hgr (by rw [hrs2]) hJl hEl hne htm) ?_))))))))
 rintro _ w4 ⟨⟨x21, n21, rfl, t21, q21, htb21, hto21, htd21, htm21, htj21, hte21, htmm21, l21, htl21, htos21⟩, x5⟩
 replace hX := hX.ex x5
 exact Rr (QE rfl rfl) (Rr (QE rfl rfl) (Rr (QL (v := (pB x21)) rfl) (Rr (QL (v := (.int .i64 n21)) rfl) (Qc (Qu ⟨_, QT rfl rfl rfl, ⟨⟨x21, n21, rfl, t21, q21, htb21, hto21, htd21, htm21, htj21, hte21, htmm21, l21, htl21, htos21⟩, hX⟩⟩)))))
set_option maxHeartbeats 2000000 in
theorem tupd0_ok (b0 b b1 : Nat) (p p1 : PtV) (s s1 : StV) (tb : TbV) (tq : TbP) (w : World) (hb1 : TbIs w b0 tb tq) (hto : tb.o = pB b1) (hst1 : At w b1 0 (ptC p1)) (hp1 : PsIs w p1 s1) (hst : At w b 0 (ptC p)) (hp : PsIs w p s) (hs : StOk s) (hlk : p1.lk = p.lk) (hday : p1.day = p.day) (hus : s1.us = s.us) (hrs2 : s1.rs = s.rs) (hb : b = b1) (hgr : s1.gr = s.gr) (hmb : s1.mb = s.mb) (hss : s1.ss = s.ss) (hlkl : s1.lk.length ≤ 1000) : Ok Tryz.prog 23 #[pB b0, pB b] w fun v w' => v = .tuple #[pB b0, .int .i64 0] ∧ Ext False w w' := by
 have hb0 : At w b0 0 (tbL (pB b1) tb.day (.slice tq.ae tb.E.length tq.ce) (.slice tq.am tb.M.length tq.cm) (.slice tq.aj tb.J.length tq.cj) (.map (some tq.mo)) (pB tq.tr) (.slice tq.ag tb.G.length tq.cg)) := by
  have h := hb1.at'
  unfold tbC at h
  rw [hto] at h
  exact h
 have hbl := hst.lt
 have hb0l := hb0.lt
 refine Qv 24 func23 rfl rfl rfl ?_
 have hX := xRf w
 refine Qf (Qb (Rr Qj (Rr Qj (Qc (Qf (Qf (Qb (Rr (mvP rfl) (Rr (Zi underlying40 rfl rfl) (Qc (Qq rfl (Qp (Qf (Qf (Qb (Rr (mvP rfl) (Rr (Zi underlying57 rfl rfl) (Qc (Qq rfl (Qp (Qf (Qf (Qb (Rr (mvP rfl) (Rr (QJ rfl) (Rr (Qy underlying119 rfl sizeOf40 rfl) (Rr (Qm isAgg40 rfl (hb0.get 0 rfl)) (Rr (mvP rfl) (Qo rfl (QB call69 rfl rfl) (Ok.mono (steq_ok b1 b p1 p s1 s _ hst1 hst hp1 hp hday hus hrs2 hlk.symm hlkl hmb hgr hss) ?_))))))))))))))))))))))))))))))
 rintro _ w1 ⟨rfl, x2⟩
 replace hX := hX.ex x2
 exact Qc (Za rfl (Qf (Qb (Rr (mvP rfl) (Rr (asP rfl) (Rr Qj (Qc (Qu ⟨_, QT rfl rfl rfl, ⟨rfl, hX⟩⟩))))))))
