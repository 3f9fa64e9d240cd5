/- Walks: what functions return. -/
import Derived.Test.YtgmpgfokblehdaaGreatDoorWrel
import Derived.Test.YtgmpgfokblehdaaGreatDoorSortI
import Derived.Test.YtgmpgfokblehdaaGreatDoorHy
set_option linter.unusedVariables false
set_option linter.unusedSimpArgs false
set_option linter.unnecessarySimpa false
namespace Go.Proofs.YtgmpgfokblehdaaGreatDoor
open Go Go.Lx Go.RowKit Tryz
set_option maxRecDepth 100000
theorem icompactV_ok (β : Prop) (B : Nat → Prop) (l : List Pr) (v : Value) (w : World) (ho : Own encPr 2 208 B w v l) : Ok Tryz.prog 148 #[v] w fun v' w' => Own encPr 2 208 B w' v' (compL l) ∧ Bel β B w w' := by
 obtain ⟨a, c, rfl, -⟩ := ho.sl encPr_ok
 refine (icompact_ok β a c B l w ho).mono ?_
 rintro _ w' ⟨m, rfl, h1, h2⟩
 exact ⟨h1, h2⟩
theorem pclipV_ok (B : Nat → Prop) (l : List Pr) (v : Value) (w : World) (ho : Own encPr 2 208 B w v l) : Ok Tryz.prog 147 #[v] w fun v' w' => (∃ a, v' = .slice a l.length l.length ∧ Sl encPr 2 B w' a l.length l) ∧ Ext False w w' := by
 obtain ⟨a, c, rfl, hs⟩ := ho.sl encPr_ok
 refine (pclip_ok a c l.length w hs.le).mono ?_
 rintro _ w' ⟨rfl, x⟩
 exact ⟨⟨a, rfl, hs.clip.ext x⟩, x⟩
theorem onew_ok (n64 : Nat) (v0 : Value) (B : Nat → Prop) (ps : List Pr) (ρ : Fin 64 → Nat) (w : World) (hs : Rd encPr 2 B w v0 ps) (hT : Tb w) (h64 : n64 = 64) (hn : ps.length ≤ 100000) (hρ : ∀ x ∈ ps, ρ x.1 < ρ x.2) : Ok Tryz.prog 87 #[.int .i64 (n64 : Int), v0] w fun v w' => OdRes ps (Fsh w w') v w' ∧ Ext False w w' := by
 obtain ⟨a, c, rfl, hs⟩ := hs
 replace hs := hs.top
 have hlen := hs.len
 have hTl := hT.lt
 subst h64
 obtain ⟨n0, hn0⟩ : ∃ n, n = w.heap.size := ⟨_, rfl⟩
 refine Qv 55 func87 rfl rfl rfl ?_
 have hX := xRf w
 refine Qf (Qb (Rr Qj (Rr Qj (Qc (Qf (Qf (Qb (Rr (mvI rfl) (Rr (QM rfl rfl) (Rr (mvB rfl) (Qs 2 12 rfl rfl rfl (fun hg => mvI rfl) (Qs 2 12 rfl rfl rfl (fun hg => ZM (QK (u := undef) hg) rfl) (Rr (ZS (u := undef) rfl rfl) (Qc (Qq rfl (Qp (Qf (Qf (Qb (Rr (mvS rfl) (Rr (QC underlying207 rfl) (Rr QP (Qc (Qt (QU (α := Nat) [(4, 5), (7, 7), (18, 37)] (fun k => [(18, .int .i64 (k : Int))]) (fun k w' => (k ≤ ps.length) ∧ Ext False w w') (fun k => ps.length - k) 0 ⟨rfl, trivial⟩ ⟨Nat.zero_le _, Bel.refl _ _⟩ ?_)))))))))))))))))))))))))
 rintro k fb3 w2 ⟨hk, hXL1⟩
 have z4 := Bel.size hXL1
 replace hX := hX.ex hXL1
 replace hs := hs.ext hXL1
 replace hT := hT.ext hXL1
 refine Qf (Qb (Rr (QM rfl rfl) (Qc (Qf (Qw rfl (fun hc2 => ?_) (fun hc2 => ?_))))))
 ·replace hc2 := dcT hc2
  refine Qp (Qf (Qt (Qf (Qb (Rr (QW underlying207 sizeOf208 hs rfl rfl omg) (Rr (QY isAgg208 sizeOf208 hs rfl (Ze pz0 (by omega))) (Zk rfl rfl zeroValue208 rfl sizeOf208 (fun _ => rfl) rfl rfl ?_)))))))
  intro b7 w5 x6 hge7 hb7
  replace hXL1 := Bel.ex hXL1 x6
  refine Qc (Qf (Qb (Rr (ZO (i := 0) underlying208 sizeOf3 rfl rfl (by decide)) (Rr (Qm isAgg3 rfl (hb7.at.get 0 rfl)) (Rr (ZO (i := 1) underlying208 sizeOf3 rfl rfl (by decide)) (Rr (Qm isAgg3 rfl (hb7.at.get 1 rfl)) (Rr (o_min rfl rfl) (Rr (QM rfl rfl) (Rr (mvB rfl) ?_)))))))))
  refine QA 6 28 rfl (cvB (decide_eq_false (by have h1 := ZT (ps.getD k pz0).1; have h2 := ZT (ps.getD k pz0).2; split <;> omega))) ?_
  refine Rr (ZO (i := 0) underlying208 sizeOf3 rfl rfl (by decide)) ?_
  refine QA 6 28 rfl (cvB (decide_eq_false (by have h1 := ZT (ps.getD k pz0).1; have h2 := ZT (ps.getD k pz0).2; split <;> omega))) ?_
  refine Rr (Qm isAgg3 rfl (hb7.at.get 0 rfl)) ?_
  refine QA 6 28 rfl (cvB (decide_eq_false (by have h1 := ZT (ps.getD k pz0).1; have h2 := ZT (ps.getD k pz0).2; split <;> omega))) ?_
  refine Rr (ZO (i := 1) underlying208 sizeOf3 rfl rfl (by decide)) ?_
  refine QA 6 28 rfl (cvB (decide_eq_false (by have h1 := ZT (ps.getD k pz0).1; have h2 := ZT (ps.getD k pz0).2; split <;> omega))) ?_
  refine Rr (Qm isAgg3 rfl (hb7.at.get 1 rfl)) ?_
  refine QA 6 28 rfl (cvB (decide_eq_false (by have h1 := ZT (ps.getD k pz0).1; have h2 := ZT (ps.getD k pz0).2; split <;> omega))) ?_
  refine Rr (o_maxI rfl rfl) ?_
  refine QA 6 28 rfl (cvB (decide_eq_false (by have h1 := ZT (ps.getD k pz0).1; have h2 := ZT (ps.getD k pz0).2; split <;> omega))) ?_
  refine Rr (mvI rfl) ?_
  refine QA 6 28 rfl (cvB (decide_eq_false (by have h1 := ZT (ps.getD k pz0).1; have h2 := ZT (ps.getD k pz0).2; split <;> omega))) ?_
  refine Rr (ZU rfl rfl) ?_
  refine Rr (Q0 (v := .bool _) (cvB (decide_eq_false (by have h1 := ZT (ps.getD k pz0).1; have h2 := ZT (ps.getD k pz0).2; split <;> omega))) rfl) ?_
  refine Qc ?_
  refine Qq (cvB (decide_eq_false (by have h1 := ZT (ps.getD k pz0).1; have h2 := ZT (ps.getD k pz0).2; split <;> omega))) ?_
  refine Qp (Qb (Rr (QO rfl rfl omg) (Rr (mvI rfl) (Qc ⟨k + 1, ⟨sT, trivial⟩, oT, ⟨?_, hXL1⟩, ?_⟩))))
  ·show k + 1 ≤ ps.length; omega
  ·omega
 replace hc2 := dcF hc2
 refine QN (QI (Qf (Qb (ZP (vs := []) (([] : List Pr)) rfl encPr_ok el_pr rfl rfl trivial rfl rfl rfl rfl ?_))))
 intro a38 w8 x9 hown38
 have z10 := x9.size
 replace hX := hX.ex x9
 replace hs := hs.ext x9
 replace hT := hT.ext x9
 replace hown38 := hown38.mono (D' := fun g => w.heap.size ≤ g) (fun g h1 h2 => by omega)
 refine Rr (mvS rfl) ?_
 refine ZZ rfl encPr_ok el_pr rfl rfl hown38 hs rfl (by simp; omega) omU ?_
 intro v40 w11 x12 hown38
 have z13 := x12.size
 replace hX := Bel.out hX x12 om2
 replace hT := hT.keep x12 om1
 refine Rr (QL (v := v40) rfl) (Qc (Qf (Qb ?_)))
 rw [List.nil_append] at hown38
 refine Rr (QG (v := v40) rfl) (Qo rfl (QB call145 rfl rfl) (Ok.mono (sortpr_ok _ _ _ _ hown38 (by omega)) ?_))
 rintro _ w14 ⟨rfl, x15, l2, hpm, hpw, hown38⟩
 have z16 := x15.size
 replace hX := Bel.out hX x15 om2
 replace hT := hT.keep x15 om1
 refine Qc (Qf (Qb (Rr (mvI rfl) (Rr (QG (v := v40) rfl) (Qo rfl (QD call148 rfl) (Ok.mono (icompactV_ok False _ _ _ _ hown38) ?_))))))
 rintro v45 w17 ⟨hown38, x18⟩
 have z19 := x18.size
 replace hX := Bel.out hX x18 om2
 replace hT := hT.keep x18 om1
 refine Qo rfl (QD call147 rfl) (Ok.mono (pclipV_ok _ _ _ _ hown38) ?_)
 rintro _ w20 ⟨⟨a46, rfl, hps⟩, x21⟩
 have z22 := x21.size
 replace hX := hX.ex x21
 replace hT := hT.ext x21
 replace hps := hps.mono (F' := fun g => n0 ≤ g ∧ g < w20.heap.size) (fun g h1 h2 => ⟨by omega, h1⟩)
 have hcl := compL_len l2
 have hpl := hpm.length_eq
 have hρ2 : ∀ x ∈ compL l2, ρ x.1 < ρ x.2 := fun x hx => hρ x (hpm.mem_iff.1 ((mem_compL x l2).1 hx))
 obtain ⟨n1, hn1⟩ : ∃ n, n = w20.heap.size := ⟨_, rfl⟩
 rw [← hn1] at hps
 refine Rr (Q2 (cells := [.int .i64 64, .slice a46 (compL l2).length (compL l2).length, .slice none 0 0, .slice none 0 0, .slice none 0 0]) (vs := [(0, .int _ _), (1, .slice _ _ _)]) rfl (by kernel_rfl)) (QH rfl (QX (v := .agg _) rfl) ?_)
 intro b48 w23 x24 hge48 hb48
 have hlt48 := hb48.lt
 have z25 := x24.size
 replace hX := hX.ex x24
 replace hT := hT.ext x24
 replace hps := hps.ext x24
 refine Rr (asP rfl) (Qc (Qf (Qf (Qb ?_))))
 change Box _ _ _ [.int .i64 64, .slice a46 (compL l2).length (compL l2).length, .slice none 0 0, .slice none 0 0, .slice none 0 0] at hb48
 have hb48n : n1 ≤ b48 := by omega
 refine Rr (mvP rfl) (Qo rfl (QD call149 rfl) (Ok.mono (osort_ok _ _ _ (compL l2) _ _ ρ _ hb48 (hps.mono (fun g h1 h2 => by omega)) (by omega) hρ2) ?_))
 rintro _ w26 ⟨rfl, srt, sa, sc, ht, hl64, hb48, hsr, x27⟩
 have z28 := x27.size
 replace hX := Bel.out hX x27 om2
 replace hT := hT.keep x27 om1
 replace hps := hps.keep x27 om3
 refine Rr (Zp rfl) (Qc (Qq rfl (Qp (Qf (Qb (Rr (mvP rfl) ?_))))))
 refine Qo rfl (QD call150 rfl) (Ok.mono (orel_ok _ _ _ (compL l2) _ _ srt ρ _ (by rw [hl64]; exact hb48) (hps.mono (fun g h1 h2 => by omega)) (sl_F (hsr.mono (fun g h1 h2 => by omega))) hT (by omega) (by omega) ht hl64 hρ2) ?_)
 rintro _ w29 ⟨rfl, aa, ab, la, lb, hb48, hsa, hsb, hwa, hwb, hla, hlb, hbel, x30⟩
 have z31 := x30.size
 replace hX := Bel.out hX x30 om2
 replace hps := hps.keep x30 om3
 refine Qc (Qf (Qb (Rr (mvP rfl) (Rr (asP rfl) (Rr Qj (Qc (Qu ⟨_, QT rfl rfl rfl, ?_⟩)))))))
 refine ⟨⟨b48, ⟨64, a46, (compL l2).length, compL l2, aa, 64, la, ab, 64, lb, sa, sc, srt.map iv⟩, rfl, ⟨⟨by omega, by have := hb48.lt; omega⟩, ?_, hps.mono (fun g h1 h2 => ⟨by omega, h1⟩), hsa.mono (fun g h1 h2 => ⟨by omega, h1⟩), hsb.mono (fun g h1 h2 => ⟨by omega, h1⟩), hwa.mono (fun g h1 h2 => ⟨by omega, h1⟩), hwb.mono (fun g h1 h2 => ⟨by omega, h1⟩), hla, hlb, Nat.le_refl _⟩, ?_⟩, hX⟩
 ·have e : encOd ⟨64, a46, (compL l2).length, compL l2, aa, 64, la, ab, 64, lb, sa, sc, srt.map iv⟩ = [.int .i64 64, .slice a46 (compL l2).length (compL l2).length, .slice aa 64 64, .slice ab 64 64, .slice sa srt.length sc] := by simp [encOd, hla, hlb]
  rw [e]; exact hb48.at
 ·have hm : ∀ x, x ∈ compL l2 ↔ x ∈ ps := fun x => (mem_compL x l2).trans hpm.mem_iff
  exact ⟨rfl, hm, by show (compL l2).length ≤ _; omega, hbel.1.congr hm, hbel.2.congr hm⟩
theorem owith_ok (po : Nat) (o : OV) (Fo : Nat → Prop) (L : List Pr) (ρ : Fin 64 → Nat) (x y : Fin 64) (w : World) (ho : OdAt Fo w po o) (hk : HOk o L) (hT : Tb w) (hl : L.length ≤ 1000) (hρ : ∀ z ∈ L, ρ z.1 < ρ z.2) (hxy : ρ x < ρ y) (hn : (x, y) ∉ L) : Ok Tryz.prog 57 #[.pointer (some ⟨po, 0, none⟩), .int .i64 (iv x), .int .i64 (iv y)] w fun v w' => OdRes (o.pairs ++ [(x, y)]) (Lt w'.heap.size) v w' ∧ Ext False w w' := by
 replace ho := ho.mono (F' := fun g => g < w.heap.size) (fun g h1 h2 => h1)
 have hoa := ho.at'
 have hol := ho.lt
 have hon := hk.n
 have hle := hk.le
 have hx1 := ZT x
 have hy1 := ZT y
 have hn2 : (x, y) ∉ o.pairs := fun h => hn ((hk.ps _).1 h)
 have hρ2 : ∀ z ∈ (o.pairs ++ [(x, y)]), ρ z.1 < ρ z.2 := fun z hz => by
  rcases List.mem_append.1 hz with hz | hz
  ·exact hρ z ((hk.ps _).1 hz)
  ·rw [List.mem_singleton.1 hz]; exact hxy
 refine Qv 42 func57 rfl rfl rfl ?_
 have hX := xRf w
 refine Qf (Qb (Rr Qj (Rr Qj (Qc (Qf (Qf (Qb (Rr (mvP rfl) (Rr (Zi underlying128 rfl rfl) (Qc (Qq rfl (Qp (Qf (Qf (Qb (Rr (mvP rfl) (Rr (mvI rfl) (Qo rfl (QB call122 rfl rfl) (Ok.mono (oin_ok _ _ _ _ ho _) ?_)))))))))))))))))))
 rintro _ w1 ⟨rfl, x2⟩
 replace hX := hX.ex x2
 replace ho := ho.ext x2
 replace hoa := hoa.ext x2
 replace hT := hT.ext x2
 refine Rr (Zp rfl) (Rr (mvB rfl) ?_)
 refine QA 4 14 rfl (cvB (by rw [hon]; simp; omega)) ?_
 refine Rr (mvP rfl) ?_
 refine QA 4 14 rfl (cvB (by rw [hon]; simp; omega)) ?_
 refine Rr (mvI rfl) ?_
 refine QA 4 14 rfl (cvB (by rw [hon]; simp; omega)) ?_
 refine Qo rfl (QB call122 rfl rfl) (Ok.mono (oin_ok _ _ _ _ ho _) ?_)
 rintro _ w4 ⟨rfl, x5⟩
 replace hX := hX.ex x5
 replace ho := ho.ext x5
 replace hoa := hoa.ext x5
 replace hT := hT.ext x5
 refine QA 4 14 rfl (cvB (by rw [hon]; simp; omega)) ?_
 refine Rr (Zp rfl) ?_
 refine Rr (Q0 (v := .bool _) (cvB (by rw [hon]; simp; omega)) rfl) ?_
 refine Qc ?_
 refine Qq (cvB (by rw [hon]; simp; omega)) ?_
 refine Qp (Qf (Qf (Qb (Rr (mvP rfl) (Rr (QJ rfl) (Rr (Qy underlying210 rfl sizeOf207 rfl) (Rr (Qm isAgg207 rfl (hoa.get 1 rfl)) (Rr (mvI rfl) (Rr (mvI rfl) (Rr (Q2 (cells := encPr (x, y)) (vs := [(0, .int _ _), (1, .int _ _)]) rfl (by kernel_rfl)) (Qo rfl (QB call123 rfl rfl) (Ok.mono (pcontains_ok _ _ _ _ _ _ ho.pr) ?_))))))))))))
 rintro _ w7 ⟨rfl, x8⟩
 replace hX := hX.ex x8
 replace ho := ho.ext x8
 replace hoa := hoa.ext x8
 replace hT := hT.ext x8
 refine Qc ?_
 refine Qq (cvB (List.any_eq_false.2 (fun z hz h => hn2 (by rw [eq_of_beq h]; exact hz)))) ?_
 refine Qp (Qf ?_)
 apply Zl (β := False) (fun _ => 0) [peqC _, peqC _, peqC _, peqC _, peqC _, (postOwn encPr 2 208 1 o.pairs), peqC _, peqC _, peqC _, (fun v w c => ∃ a, v = .slice a 1 1 ∧ postOwn encPr 2 208 0 [(x, y)] v w c), (postOwn encPr 2 208 1 (o.pairs ++ [(x, y)])), (postW (OdRes (o.pairs ++ [(x, y)]))), (postW (OdPtr (o.pairs ++ [(x, y)]))), peqC _] [0, 0, 0, 0, 0, 1, 0, 0, 0, 0, 1, 0, 0, 0] 14 QV (by kernel_rfl) (by kernel_rfl) rfl ⟨Qk _ _, Qk _ _, Qk _ _, Qk _ _, Qk _ _, (Zc), Qk _ _, Qk _ _, Qk _ _, (ZJ), (Zc), (ZA (OdRes.keepS _)), (ZA (OdPtr.keepS _)), Qk _ _, trivial⟩ ?ob7 ?fin7
 case ob7 =>
  refine Ql (fun w10 c12 x11 hc013 hk14 => Qi (Qx rfl (mvP rfl))) (Ql (fun w16 c18 x17 hc019 hk20 => Qh (Qi (Qx rfl (QJ rfl)))) (Ql (fun w22 c24 x23 hc025 hk26 => Qh (Qi (Qx rfl (Qy underlying210 rfl sizeOf3 rfl)))) (Ql (fun w28 c30 x29 hc031 hk32 => ?_) ?_)))
  ·replace x29 := RelG.ext0 x29
   have hoa := hoa.ext x29
   exact Qh (Qi (Qx rfl (Qm isAgg3 rfl (hoa.get 0 rfl))))
  refine Ql (fun w34 c36 x35 hc037 hk38 => Qi (Qx rfl (mvP rfl))) (Ql (fun w40 c42 x41 hc043 hk44 => ?_) ?_)
  ·replace x41 := RelG.ext0 x41
   have ho := ho.ext x41
   exact Qh (Qi (Vm rfl (QD call124 rfl) (opairs_ok _ _ _ _ ho (by omega))))
  refine Ql (fun w46 c48 x47 hc049 hk50 => Qi (Qx rfl (mvI rfl))) (Ql (fun w52 c54 x53 hc055 hk56 => Qi (Qx rfl (mvI rfl))) (Ql (fun w58 c60 x59 hc061 hk62 => Qh (Qh (Qi (Qx rfl (Q2 (cells := encPr (x, y)) (vs := [(0, .int _ _), (1, .int _ _)]) rfl (by kernel_rfl)))))) (Ql (fun w64 c66 x65 hc067 hk68 => Qh (Qi (Jw (vs := [.agg _]) [(x, y)] encPr_ok el_pr rfl rfl ⟨rfl, trivial⟩ rfl rfl rfl rfl))) (Ql (fun w70 c72 x71 hc073 hk74 => ?_) ?_))))
  ·refine Qz (fun v33 hv33 => Qz (fun v37 hv37 => Qz (fun v33 hv33 => Qi ?_)))
   obtain ⟨a37, rfl, ho37⟩ := hv37
   exact Jg (by decide) encPr_ok el_pr rfl rfl hv33 (Own.slA ho37 encPr_ok) rfl (by simp; omega)
  refine Ql (fun w76 c78 x77 hc079 hk80 => ?_) ?_
  ·replace x77 := RelG.ext0 x77
   have hT := hT.ext x77
   refine Qh (Qz (fun v38 hv38 => Qz (fun v38 hv38 => Qi ?_)))
   exact Yt rfl (QB call87 rfl rfl) (onew_ok _ _ _ (o.pairs ++ [(x, y)]) ρ _ (Own.rd hv38 encPr_ok) hT hon (by simp; omega) hρ2)
  refine Ql (fun w82 c84 x83 hc085 hk86 => ?_) ?_
  ·refine Qz (fun v39 hv39 => ?_)
   obtain ⟨F39, hF39, p39, o39, rfl, ho39, hk39⟩ := hv39
   exact Qi (OpC_vp rfl (QE rfl rfl) ⟨F39, hF39, p39, o39, rfl, ho39, hk39⟩)
  refine Ql (fun w88 c90 x89 hc091 hk92 => ?_) ?_
  ·refine Qz (fun v39 hv39 => ?_)
   obtain ⟨F39, hF39, p39, o39, rfl, ho39, hk39⟩ := hv39
   exact Qi (Qx rfl (QE rfl rfl))
  exact Q8
 case fin7 =>
  intro w94 c96 x95 hc097
  replace x95 := RelG.ext0 x95
  replace hX := hX.ex x95
  refine Qh (Qh (Qh (Qh (Qh (Qz (fun v33 _ => Qh (Qh (Qh (Qz (fun v37 hv37 => Qz (fun v38 hv38 => Qz (fun v39 hv39 => ?_))))))))))))
  obtain ⟨F39, hF39, p39, o39, rfl, ho39, hk39⟩ := hv39
  refine Qz (fun v40 hv40 => Qh (Qi ?_))
  obtain ⟨F40, hF40, p40, o40, rfl, ho40, hk40⟩ := hv40
  exact Rr (asP rfl) (Rr (asI rfl) (Qc (Qu ⟨_, QT rfl rfl rfl, ⟨⟨p40, o40, rfl, ho40.mono (fun g h1 h2 => h1), hk40⟩, hX⟩⟩)))
theorem hnew_ok (w : World) (hT : Tb w) : Ok Tryz.prog 36 #[] w fun v w' => HyIs w' v [] ∧ Ext False w w' := by
 refine Qv 10 func36 rfl rfl rfl ?_
 have hX := xRf w
 refine Qf (Qb (Rr Qj (Qc (Qf (Qb (Qo rfl (QB call87 rfl rfl) (Ok.mono (onew_ok 64 _ (fun _ => True) [] (fun _ => 0) _ Rd.none hT rfl (by simp) (by simp)) ?_)))))))
 rintro _ w1 ⟨⟨p4, o4, rfl, ho4, hk4⟩, x2⟩
 replace hX := hX.ex x2
 refine Rr (QG (v := .tuple _) rfl) (Rr (QE rfl rfl) (Rr (QE rfl rfl) (Rr (asP rfl) (Rr (asI rfl) (Qc (Qf (Qb (Rr (mvP rfl) (Rr (Q2 (cells := [.pointer (some ⟨p4, 0, none⟩)]) (vs := [(0, .pointer _)]) rfl (by kernel_rfl)) (QH rfl (QX (v := .agg _) rfl) ?_))))))))))
 intro b9 w4 x5 hge9 hb9
 replace hX := hX.ex x5
 replace ho4 := ho4.ext x5
 refine Rr (asP rfl) (Qc (Qu ⟨_, Qr rfl rfl, ?_⟩))
 change Box _ _ _ [.pointer (some ⟨p4, 0, none⟩)] at hb9
 exact ⟨⟨b9, p4, o4, rfl, hb9.at, ho4.mono (fun g h1 h2 => h1), hk4⟩, hX⟩
theorem hlinkP_ok (ph po : Nat) (o : OV) (L : List Pr) (ρ : Fin 64 → Nat) (x y : Fin 64) (w : World) (hha : At w ph 0 [.pointer (some ⟨po, 0, none⟩)]) (ho : OdAt (Lt w.heap.size) w po o) (hk : HOk o L) (hT : Tb w) (hl : L.length ≤ 1000) (hρ : ∀ z ∈ L, ρ z.1 < ρ z.2) (hxy : ρ x < ρ y) (hn : (x, y) ∉ L) (hp1 : 1 ≤ x.val) (hp2 : 1 ≤ y.val) : Ok Tryz.prog 18 #[.pointer (some ⟨ph, 0, none⟩), .int .i64 (iv x), .int .i64 (iv y)] w fun v w' => HyRes (L ++ [(x, y)]) v w' ∧ Ext False w w' := by
 have hx1 : 1 ≤ iv x ∧ iv x < 64 := by unfold iv; have := x.isLt; omega
 have hy1 : 1 ≤ iv y ∧ iv y < 64 := by unfold iv; have := y.isLt; omega
 have hne : x ≠ y := fun e => by rw [e] at hxy; exact Nat.lt_irrefl _ hxy
 have hl1 := hha.lt; have hl2 := ho.lt
 refine Qv 43 func18 rfl rfl rfl ?_
 have hX := xRf w
 refine Qf (Qb (Rr Qj (Rr Qj (Qc (Qf (Qf (Qb (Rr (mvP rfl) (Rr (Zi underlying33 rfl rfl) (Rr (mvB rfl) (QA 2 12 rfl rfl (Rr (mvI rfl) (QA 2 12 rfl rfl (Qo rfl (QD call56 rfl) (Ok.mono (hrole_ok _ _) ?_)))))))))))))))
 rintro _ w1 ⟨rfl, x2⟩
 replace hX := hX.ex x2
 replace hha := hha.ext x2
 replace ho := ho.ext x2
 replace hT := hT.ext x2
 refine QA 2 12 rfl rfl (Rr (Zp rfl) (Rr (Q0 (v := .bool _) rfl rfl) (Rr (mvB rfl) ?_)))
 refine QA 7 17 rfl (cvB (by simp; omega)) ?_
 refine Rr (mvI rfl) ?_
 refine QA 7 17 rfl (cvB (by simp; omega)) ?_
 refine Qo rfl (QD call56 rfl) (Ok.mono (hrole_ok _ _) ?_)
 rintro _ w4 ⟨rfl, x5⟩
 replace hX := hX.ex x5
 replace hha := hha.ext x5
 replace ho := ho.ext x5
 replace hT := hT.ext x5
 refine QA 7 17 rfl (cvB (by simp; omega)) ?_
 refine Rr (Zp rfl) ?_
 refine Rr (Q0 (v := .bool _) (cvB (by simp; omega)) rfl) ?_
 refine Rr (mvB rfl) ?_
 refine QA 12 22 rfl (cvB (by simp; omega)) ?_
 refine Rr (mvI rfl) ?_
 refine QA 12 22 rfl (cvB (by simp; omega)) ?_
 refine Rr (mvI rfl) ?_
 refine QA 12 22 rfl (cvB (by simp; omega)) ?_
 refine Rr (Zu rfl rfl) ?_
 refine Rr (Q0 (v := .bool _) (cvB (by simp; omega)) rfl) ?_
 refine Qc ?_
 refine Qq (cvB (by rw [iv_beq]; simpa using hne)) ?_
 refine Qp (Qf (Qb (Rr (mvP rfl) (Rr (QJ rfl) (Rr (Qy underlying131 rfl sizeOf128 rfl) (Rr (Qm isAgg128 rfl (hha.get 0 rfl)) (Rr (mvI rfl) (Rr (mvI rfl) (Qo rfl (Zg call57 rfl rfl rfl) (Ok.mono (owith_ok po o _ L ρ x y _ ho hk hT hl hρ hxy hn) ?_))))))))))
 rintro _ w7 ⟨⟨p34, o34, rfl, ho34, hk34⟩, x8⟩
 replace hX := hX.ex x8
 refine Rr (QG (v := .tuple _) rfl) (Rr (QE rfl rfl) (Rr (QE rfl rfl) (Rr (asP rfl) (Rr (asI rfl) (Qc (Qf (Qf (Qb (Rr (mvI rfl) (Rr (Zv rfl rfl) (Qc (Qq rfl (Qp (Qf (Qb (Rr (mvP rfl) (Rr (Q2 (cells := [.pointer (some ⟨p34, 0, none⟩)]) (vs := [(0, .pointer _)]) rfl (by kernel_rfl)) (QH rfl (QX (v := .agg _) rfl) ?_))))))))))))))))))
 intro b42 w10 x11 hge42 hb42
 replace hX := hX.ex x11
 replace ho34 := ho34.ext x11
 refine Rr (asP rfl) (Rr Qj (Qc (Qu ⟨_, QT rfl rfl rfl, ?_⟩)))
 change Box _ _ _ [.pointer (some ⟨p34, 0, none⟩)] at hb42
 exact ⟨⟨_, rfl, b42, p34, o34, rfl, hb42.at, ho34.mono (fun g h1 h2 => h1), hk34.congr (fun z => by simp [hk.ps]) (by have := hk.le; simp; omega)⟩, hX⟩
theorem hlink_ok (v : Value) (L : List Pr) (ρ : Fin 64 → Nat) (x y : Fin 64) (w : World) (hh : HyIs w v L) (hT : Tb w) (hl : L.length ≤ 1000) (hρ : ∀ z ∈ L, ρ z.1 < ρ z.2) (hxy : ρ x < ρ y) (hn : (x, y) ∉ L) (hp1 : 1 ≤ x.val) (hp2 : 1 ≤ y.val) :
  Ok Tryz.prog 18 #[v, .int .i64 (iv x), .int .i64 (iv y)] w fun v w' => HyRes (L ++ [(x, y)]) v w' ∧ Ext False w w' := by
 obtain ⟨ph, po, o, rfl, h1, h2, h3⟩ := hh
 exact hlinkP_ok ph po o L ρ x y w h1 h2 h3 hT hl hρ hxy hn hp1 hp2
