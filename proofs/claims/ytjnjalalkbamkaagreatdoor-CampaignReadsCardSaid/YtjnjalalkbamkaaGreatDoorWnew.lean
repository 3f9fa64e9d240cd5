/- Walks: what functions return. -/
import Derived.Test.YtjnjalalkbamkaaGreatDoorWrel
import Derived.Test.YtjnjalalkbamkaaGreatDoorLk
import Derived.Test.YtjnjalalkbamkaaGreatDoorWpr
set_option linter.unusedVariables false
set_option linter.unusedSimpArgs false
set_option linter.unnecessarySimpa false
namespace Go.Proofs.YtjnjalalkbamkaaGreatDoor
open Go Go.Lx Go.RowKit Tryz
set_option maxRecDepth 100000
theorem icompactV_ok (β : Prop) (B : Nat → Prop) (l : List Pr) (v : Value) (w : World) (ho : Own encPr 2 47 B w v l) : Ok Tryz.prog 124 #[v] w fun v' w' => Own encPr 2 47 B w' v' (compL l) ∧ Bel β B w w' := by
 obtain ⟨a, c, rfl, -⟩ := ho.sl encPr_ok
 refine (icompact_ok β a c B l w ho).mono ?_
 rintro _ w' ⟨m, rfl, h1, h2⟩
 exact ⟨h1, h2⟩
theorem pclipV_ok (B : Nat → Prop) (l : List Pr) (v : Value) (w : World) (ho : Own encPr 2 47 B w v l) : Ok Tryz.prog 123 #[v] w fun v' w' => (∃ a, v' = .slice a l.length l.length ∧ Sl encPr 2 B w' a l.length l) ∧ Ext False w w' := by
 obtain ⟨a, c, rfl, hs⟩ := ho.sl encPr_ok
 refine (pclip_ok a c l.length w hs.le).mono ?_
 rintro _ w' ⟨rfl, x⟩
 exact ⟨⟨a, rfl, hs.clip.ext x⟩, x⟩
theorem onew_ok (n64 : Nat) (v0 : Value) (B : Nat → Prop) (ps : List Pr) (ρ : Fin 64 → Nat) (w : World) (hs : Rd encPr 2 B w v0 ps) (hT : Tb w) (h64 : n64 = 64) (hn : ps.length ≤ 100000) (hρ : ∀ x ∈ ps, ρ x.1 < ρ x.2) : Ok Tryz.prog 98 #[.int .i64 (n64 : Int), v0] w fun v w' => OdRes ps (Fsh w w') v w' ∧ Ext False w w' := by
 obtain ⟨a, c, rfl, hs⟩ := hs
 replace hs := hs.top
 have hlen := hs.len
 have hTl := hT.lt
 subst h64
 obtain ⟨n0, hn0⟩ : ∃ n, n = w.heap.size := ⟨_, rfl⟩
 refine Qz 55 func98 rfl rfl rfl ?_
 have hX := xRf w
 refine Qe (Qc ?_)
 refine Rr Qm ?_
 refine Rr Qm ?_
 refine Qd (Qe (Qe (Qc ?_)))
 refine Rr (mvI rfl) ?_
 refine Rr (QQ rfl rfl) ?_
 refine Rr (mvB rfl) ?_
 refine Qq 2 12 rfl rfl rfl (fun hg => (mvI rfl)) ?_
 refine Qq 2 12 rfl rfl rfl (fun hg => (o_gtr (QE (u := undef) hg) rfl)) ?_
 refine Rr (o_or (u := undef) rfl rfl) ?_
 refine Qd ?_
 refine Qr rfl ?_
 refine Qu (Qe (Qe (Qc ?_)))
 refine Rr (mvS rfl) ?_
 refine Rr (QK underlying48 rfl) ?_
 refine Rr QT ?_
 refine Qd (QB ?_)
 refine Za (α := Nat) [(4, 5), (7, 7), (18, 37)] (fun k => [(18, .int .i64 (k : Int))]) (fun k w' => (k ≤ ps.length) ∧ Ext False w w') (fun k => ps.length - k) 0 ⟨rfl, trivial⟩ ⟨Nat.zero_le _, Bel.refl _ _⟩ ?_
 rintro k fb3 w2 ⟨hk, hXL1⟩
 have z4 := Bel.size hXL1
 replace hX := hX.ex hXL1
 replace hs := hs.ext hXL1
 replace hT := hT.ext hXL1
 refine Qe (Qc ?_)
 refine Rr (QQ rfl rfl) ?_
 refine Qd (Qe ?_)
 refine QD rfl (fun hc2 => ?_) (fun hc2 => ?_)
 ·replace hc2 := dcT hc2
  refine Qu (Qe (QB (Qe (Qc ?_))))
  refine Rr (Zg underlying48 sizeOf47 hs rfl rfl omg) ?_
  refine Rr (o_ldRS isAgg47 sizeOf47 hs rfl (getE pz0 (by omega))) ?_
  refine Rg_alst rfl rfl zeroValue47 rfl sizeOf47 (fun _ => rfl) rfl rfl ?_
  intro b7 w5 x6 hge7 hb7
  have hlt7 := hb7.lt
  change Box _ _ _ (encPr _) at hb7
  have z7 := x6.size
  replace hX := hX.ex x6
  replace hXL1 := Bel.ex hXL1 x6
  refine Qd (Qe (Qc ?_))
  refine Rr (o_iaA (i := 0) underlying47 sizeOf3 rfl rfl (by decide)) ?_
  refine Rr (Qn isAgg3 rfl (hb7.at.get 0 rfl)) ?_
  refine Rr (o_iaA (i := 1) underlying47 sizeOf3 rfl rfl (by decide)) ?_
  refine Rr (Qn isAgg3 rfl (hb7.at.get 1 rfl)) ?_
  refine Rr (o_min rfl rfl) ?_
  refine Rr (QQ rfl rfl) ?_
  refine Rr (mvB rfl) ?_
  refine QF 6 28 rfl (cvB (decide_eq_false (by have h1 := iv_ge (ps.getD k pz0).1; have h2 := iv_ge (ps.getD k pz0).2; split <;> omega))) ?_
  refine Rr (o_iaA (i := 0) underlying47 sizeOf3 rfl rfl (by decide)) ?_
  refine QF 6 28 rfl (cvB (decide_eq_false (by have h1 := iv_ge (ps.getD k pz0).1; have h2 := iv_ge (ps.getD k pz0).2; split <;> omega))) ?_
  refine Rr (Qn isAgg3 rfl (hb7.at.get 0 rfl)) ?_
  refine QF 6 28 rfl (cvB (decide_eq_false (by have h1 := iv_ge (ps.getD k pz0).1; have h2 := iv_ge (ps.getD k pz0).2; split <;> omega))) ?_
  refine Rr (o_iaA (i := 1) underlying47 sizeOf3 rfl rfl (by decide)) ?_
  refine QF 6 28 rfl (cvB (decide_eq_false (by have h1 := iv_ge (ps.getD k pz0).1; have h2 := iv_ge (ps.getD k pz0).2; split <;> omega))) ?_
  refine Rr (Qn isAgg3 rfl (hb7.at.get 1 rfl)) ?_
  refine QF 6 28 rfl (cvB (decide_eq_false (by have h1 := iv_ge (ps.getD k pz0).1; have h2 := iv_ge (ps.getD k pz0).2; split <;> omega))) ?_
  refine Rr (o_maxI rfl rfl) ?_
  refine QF 6 28 rfl (cvB (decide_eq_false (by have h1 := iv_ge (ps.getD k pz0).1; have h2 := iv_ge (ps.getD k pz0).2; split <;> omega))) ?_
  refine Rr (mvI rfl) ?_
  refine QF 6 28 rfl (cvB (decide_eq_false (by have h1 := iv_ge (ps.getD k pz0).1; have h2 := iv_ge (ps.getD k pz0).2; split <;> omega))) ?_
  refine Rr (o_geq rfl rfl) ?_
  refine Rr (Q3 (v := .bool _) (cvB (decide_eq_false (by have h1 := iv_ge (ps.getD k pz0).1; have h2 := iv_ge (ps.getD k pz0).2; split <;> omega))) rfl) ?_
  refine Qd ?_
  refine Qr (cvB (decide_eq_false (by have h1 := iv_ge (ps.getD k pz0).1; have h2 := iv_ge (ps.getD k pz0).2; split <;> omega))) ?_
  refine Qu (Qc ?_)
  refine Rr (Q6 rfl rfl omg) ?_
  refine Rr (mvI rfl) ?_
  refine Qd ?_
  refine ⟨k + 1, ⟨sT, trivial⟩, oT, ⟨?_, hXL1⟩, ?_⟩
  ·show k + 1 ≤ ps.length; omega
  ·omega
 replace hc2 := dcF hc2
 refine QS (QL (Qe (Qc ?_)))
 refine Rg_bs (vs := []) (([] : List Pr)) rfl encPr_ok el_pr rfl rfl trivial rfl rfl rfl rfl ?_
 intro a38 w8 x9 hown38
 have z10 := x9.size
 replace hX := hX.ex x9
 replace hs := hs.ext x9
 replace hT := hT.ext x9
 replace hown38 := hown38.mono (D' := fun g => w.heap.size ≤ g) (fun g h1 h2 => by omega)
 refine Rr (mvS rfl) ?_
 refine Rg_app rfl encPr_ok el_pr rfl rfl hown38 hs rfl (by simp; omega) omU ?_
 intro v40 w11 x12 hown38
 have z13 := x12.size
 replace hX := Bel.out hX x12 om2
 replace hT := hT.keep x12 om1
 refine Rr (Qv (v := v40) rfl) ?_
 refine Qd (Qe (Qc ?_))
 rw [List.nil_append] at hown38
 refine Rr (Ql (v := v40) rfl) ?_
 refine Qo rfl (QM call121 rfl rfl) (Ok.mono (sortpr_ok _ _ _ _ hown38 (by omega)) ?_)
 rintro _ w14 ⟨rfl, x15, l2, hpm, hpw, hown38⟩
 have z16 := x15.size
 replace hX := Bel.out hX x15 om2
 replace hT := hT.keep x15 om1
 refine Qd (Qe (Qc ?_))
 refine Rr (mvI rfl) ?_
 refine Rr (Ql (v := v40) rfl) ?_
 refine Qo rfl (QA call124 rfl) (Ok.mono (icompactV_ok False _ _ _ _ hown38) ?_)
 rintro v45 w17 ⟨hown38, x18⟩
 have z19 := x18.size
 replace hX := Bel.out hX x18 om2
 replace hT := hT.keep x18 om1
 refine Qo rfl (QA call123 rfl) (Ok.mono (pclipV_ok _ _ _ _ hown38) ?_)
 rintro _ w20 ⟨⟨a46, rfl, hps⟩, x21⟩
 have z22 := x21.size
 replace hX := hX.ex x21
 replace hT := hT.ext x21
 replace hps := hps.mono (F' := fun g => n0 ≤ g ∧ g < w20.heap.size) (fun g h1 h2 => ⟨by omega, h1⟩)
 have hcl := compL_len l2
 have hpl := hpm.length_eq
 have hρ2 : ∀ x ∈ compL l2, ρ x.1 < ρ x.2 := fun x hx => hρ x (hpm.mem_iff.1 ((mem_compL x l2).1 hx))
 obtain ⟨n1, hn1⟩ : ∃ n, n = w20.heap.size := ⟨_, rfl⟩
 rw [← hn1] at hps
 refine Rr (QZ (cells := [.int .i64 64, .slice a46 (compL l2).length (compL l2).length, .slice none 0 0, .slice none 0 0, .slice none 0 0]) (vs := [(0, .int _ _), (1, .slice _ _ _)]) rfl (by kernel_rfl)) ?_
 refine QJ rfl (Q4 (v := .agg _) rfl) ?_
 intro b48 w23 x24 hge48 hb48
 have hlt48 := hb48.lt
 have z25 := x24.size
 replace hX := hX.ex x24
 replace hT := hT.ext x24
 replace hps := hps.ext x24
 refine Rr (Qv (v := .pointer _) rfl) ?_
 refine Qd (Qe (Qe (Qc ?_)))
 change Box _ _ _ [.int .i64 64, .slice a46 (compL l2).length (compL l2).length, .slice none 0 0, .slice none 0 0, .slice none 0 0] at hb48
 have hb48n : n1 ≤ b48 := by omega
 refine Rr (Ql (v := .pointer _) rfl) ?_
 refine Qo rfl (QA call125 rfl) (Ok.mono (osort_ok _ _ _ (compL l2) _ _ ρ _ hb48 (hps.mono (fun g h1 h2 => by omega)) (by omega) hρ2) ?_)
 rintro _ w26 ⟨rfl, srt, sa, sc, ht, hl64, hb48, hsr, x27⟩
 have z28 := x27.size
 replace hX := Bel.out hX x27 om2
 replace hT := hT.keep x27 om1
 replace hps := hps.keep x27 om3
 refine Rr (Q5 rfl) ?_
 refine Qd ?_
 refine Qr rfl ?_
 refine Qu (Qe (Qc ?_))
 refine Rr (Ql (v := .pointer _) rfl) ?_
 refine Qo rfl (QA call126 rfl) (Ok.mono (orel_ok _ _ _ (compL l2) _ _ srt ρ _ (by rw [hl64]; exact hb48) (hps.mono (fun g h1 h2 => by omega)) (sl_F (hsr.mono (fun g h1 h2 => by omega))) hT (by omega) (by omega) ht hl64 hρ2) ?_)
 rintro _ w29 ⟨rfl, aa, ab, la, lb, hb48, hsa, hsb, hwa, hwb, hla, hlb, hbel, x30⟩
 have z31 := x30.size
 replace hX := Bel.out hX x30 om2
 replace hps := hps.keep x30 om3
 refine Qd (Qe (Qc ?_))
 refine Rr (Ql (v := .pointer _) rfl) ?_
 refine Rr (Qv (v := .pointer _) rfl) ?_
 refine Rr Qm ?_
 refine Qd (Qy ?_)
 refine ⟨_, res_tmp2 rfl rfl rfl, ?_⟩
 refine ⟨⟨b48, ⟨64, a46, (compL l2).length, compL l2, aa, 64, la, ab, 64, lb, sa, sc, srt.map iv⟩, rfl, ⟨⟨by omega, by have := hb48.lt; omega⟩, ?_, hps.mono (fun g h1 h2 => ⟨by omega, h1⟩), hsa.mono (fun g h1 h2 => ⟨by omega, h1⟩), hsb.mono (fun g h1 h2 => ⟨by omega, h1⟩), hwa.mono (fun g h1 h2 => ⟨by omega, h1⟩), hwb.mono (fun g h1 h2 => ⟨by omega, h1⟩), hla, hlb, Nat.le_refl _⟩, ?_⟩, hX⟩
 ·have e : encOd ⟨64, a46, (compL l2).length, compL l2, aa, 64, la, ab, 64, lb, sa, sc, srt.map iv⟩ = [.int .i64 64, .slice a46 (compL l2).length (compL l2).length, .slice aa 64 64, .slice ab 64 64, .slice sa srt.length sc] := by simp [encOd, hla, hlb]
  rw [e]; exact hb48.at
 ·have hm : ∀ x, x ∈ compL l2 ↔ x ∈ ps := fun x => (mem_compL x l2).trans hpm.mem_iff
  exact ⟨rfl, hm, by show (compL l2).length ≤ _; omega, hbel.1.congr hm, hbel.2.congr hm⟩

theorem hnew_ok (w : World) (hT : Tb w) : Ok Tryz.prog 69 #[] w fun v w' => HyIs w' v [] ∧ Ext False w w' := by
 refine Qz 10 func69 rfl rfl rfl ?_
 have hX := xRf w
 refine Qe (Qc ?_)
 refine Rr Qm ?_
 refine Qd (Qe (Qc ?_))
 refine Qo rfl (QM call98 rfl rfl) (Ok.mono (onew_ok 64 _ (fun _ => True) [] (fun _ => 0) _ Rd.none hT rfl (by simp) (by simp)) ?_)
 rintro _ w1 ⟨⟨p4, o4, rfl, ho4, hk4⟩, x2⟩
 have z3 := x2.size
 replace hX := hX.ex x2
 refine Rr (Ql (v := .tuple _) rfl) ?_
 refine Rr (QH rfl rfl) ?_
 refine Rr (QH rfl rfl) ?_
 refine Rr (Qv (v := .pointer _) rfl) ?_
 refine Rr (asI rfl) ?_
 refine Qd (Qe (Qc ?_))
 refine Rr (Ql (v := .pointer _) rfl) ?_
 refine Rr (QZ (cells := [.pointer (some ⟨p4, 0, none⟩)]) (vs := [(0, .pointer _)]) rfl (by kernel_rfl)) ?_
 refine QJ rfl (Q4 (v := .agg _) rfl) ?_
 intro b9 w4 x5 hge9 hb9
 have hlt9 := hb9.lt
 have z6 := x5.size
 replace hX := hX.ex x5
 replace ho4 := ho4.ext x5
 refine Rr (Qv (v := .pointer _) rfl) ?_
 refine Qd (Qy ?_)
 refine ⟨_, Qp rfl rfl, ?_⟩
 change Box _ _ _ [.pointer (some ⟨p4, 0, none⟩)] at hb9
 exact ⟨⟨b9, p4, o4, rfl, hb9.at, ho4.mono (fun g h1 h2 => h1), hk4⟩, hX⟩

