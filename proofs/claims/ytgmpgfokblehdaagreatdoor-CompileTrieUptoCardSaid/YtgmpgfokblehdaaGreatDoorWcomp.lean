/- Walks: what functions return. -/
import Derived.Test.YtgmpgfokblehdaaGreatDoorWperm
set_option linter.unusedVariables false
set_option linter.unusedSimpArgs false
set_option linter.unnecessarySimpa false
namespace Go.Proofs.YtgmpgfokblehdaaGreatDoor
open Go Go.Lx Go.RowKit Tryz
set_option maxRecDepth 100000
theorem pcompact_ok (β : Prop) (a : Option Addr) (c : Nat) (B : Nat → Prop) (l : List Perm) (w : World) (ho : Own encP 3 50 B w (.slice a l.length c) l) : Ok Tryz.prog 178 #[.slice a l.length c] w fun v w' => ∃ m, v = .slice a m c ∧ Own encP 3 50 B w' (.slice a m c) (compL l) ∧ Bel β B w w' := by
 have hs := ho.slA encP_ok; have hlen := hs.len; have hcap := ho.capOf.1
 refine Qv 61 func178 rfl rfl rfl ?_
 have hX : Bel β (B) w w := Bel.refl _ _
 refine Qf (Qb (Rr Qj (Qc (Qf (Qf (Qb (Rr (mvS rfl) (Rr (QC underlying158 rfl) (Rr (QM rfl rfl) (Qc (Qw rfl (fun hc1 => ?_) (fun hc1 => ?_))))))))))))
 ·first | replace hc1 := dcT hc1 | replace hc1 := Zm hc1 | skip
  refine Qf (Qb (Rr (mvS rfl) (Rr (asS rfl) (Qc (Qu ⟨_, Qr rfl rfl, ?_⟩)))))
  exact ⟨_, rfl, by rw [comp_one (by omega)]; exact ho, hX⟩
 first | replace hc1 := dcF hc1 | replace hc1 := Zo hc1 | skip
 refine Qp (Qf (Qf (Qb (Rr Qj (Qc (Qt ?_))))))
 refine QU (α := Nat) [(2, 5), (10, 59)] (fun k => [(3, .int .i64 (k : Int))]) (fun k w' => (1 ≤ k ∧ k ≤ l.length ∧ compL (l.take k) = l.take k) ∧ Bel β (B) w w' ∧ (Own encP 3 50 B w' (.slice a l.length c) l)) (fun k => l.length - k) 1 ⟨rfl, trivial⟩ ⟨⟨by omega, by omega, comp_take1 (by omega)⟩, Bel.refl _ _, ho⟩ ?_
 rintro k fb3 w2 ⟨⟨hk1, hk, hall⟩, hXL1, ho⟩
 replace hX := Bel.out hX hXL1 om2
 have hs := ho.slA encP_ok
 refine Qf (Qf (Qb (Rr (mvI rfl) (Rr (mvS rfl) (Rr (QC underlying158 rfl) (Rr (QM rfl rfl) (Qc (Qw rfl (fun hc2 => ?_) (fun hc2 => ?_)))))))))
 ·first | replace hc2 := dcT hc2 | replace hc2 := Zm hc2 | skip
  refine Qp (Qf (Qt (Qf ?_)))
  apply Q3 (β := β) [peq _, peq _, peq _, peq _, peq _, peq _, peq _, peq _, peq _, peq _] 10 QV (by kernel_rfl) rfl ⟨Qd _, Qd _, Qd _, Qd _, Qd _, Qd _, Qd _, Qd _, Qd _, Qd _, trivial⟩ ?ob6 ?fin6
  case ob6 =>
   refine Qg (fun _ _ => Qe (Qn rfl (mvS rfl))) (Qg (fun _ _ => Qe (Qn rfl (mvI rfl))) (Qg (fun w11 x12 => ?_) ?_))
   ·have ho := ho.ext x12
    exact Qa (Qa (Qe (Qn rfl (ZE underlying158 sizeOf50 ho rfl rfl (by omega)))))
   refine Qg (fun w14 x15 => ?_) ?_
   ·have hs := hs.ext x15
    exact Qa (Qe (Qn rfl (QY isAgg50 sizeOf50 hs rfl (Ze pz (by omega)))))
   refine Qg (fun _ _ => Qe (Qn rfl (mvS rfl))) (Qg (fun _ _ => Qe (Qn rfl (mvI rfl))) (Qg (fun w23 x24 => Qa (Qe (Qn rfl (Ya (b := 1) rfl rfl (by omega) (by omega))))) (Qg (fun w26 x27 => ?_) ?_)))
   ·have ho := ho.ext x27
    exact Qa (Qa (Qe (Qn rfl (ZE underlying158 sizeOf50 ho rfl rfl (by omega)))))
   refine Qg (fun w29 x30 => ?_) ?_
   ·have hs := hs.ext x30
    exact Qa (Qe (Qn rfl (QY isAgg50 sizeOf50 hs rfl (Ze pz (by omega)))))
   exact Qg (fun _ _ => Qa (Qa (Qe (Qn rfl (o_teql eq_perm rfl rfl))))) QR
  case fin6 =>
   intro w35 x36
   replace hX := hX.ex x36
   replace hXL1 := Bel.ex hXL1 x36
   replace ho := ho.ext x36
   replace hs := hs.ext x36
   refine Qa (Qa (Qa (Qa (Qa (Qa (Qa (Qa (Qa (Qa (Qe (Qc (Qw rfl (fun hc3 => ?_) (fun hc3 => ?_)))))))))))))
   ·first | replace hc3 := dcT hc3 | replace hc3 := Zm hc3 | skip
    refine Qf (Qb (Rr (mvS rfl) (Rr (mvI rfl) (Rr (JZ (j := k) underlying158 sizeOf50 rfl rfl (by omega) (by omega)) (Rr (asS rfl) (Qc (Qf (Qf (Qb (Rr Qj (Qc (Qt ?_))))))))))))
    refine QU (α := List Perm × Nat × Nat) [(3, 3), (5, 5), (29, 53)] (fun p => [(3, .int .i64 (p.2.2 : Int)), (5, .int .i64 (p.2.1 : Int))]) (fun p w' => (1 ≤ p.2.1 ∧ k + p.2.1 ≤ l.length ∧ p.1 = compL (l.take (k + p.2.1)) ∧ p.1.length = p.2.2 ∧ p.2.2 + 1 ≤ k + p.2.1) ∧ Bel β (B) w35 w' ∧ (Own encP 3 50 B w' (.slice a l.length c) (p.1 ++ l.drop p.1.length))) (fun p => l.length - (k + p.2.1)) (l.take k, 1, k) ⟨rfl, rfl, trivial⟩ ⟨⟨Nat.le_refl _, by show k + 1 ≤ l.length; omega, by rw [comp_eq (z := pz) (by omega) hk1 (by simpa using hc3), hall], by simp; omega, Nat.le_refl _⟩, Bel.refl _ _, (by rw [List.length_take, Nat.min_eq_left (by omega), List.take_append_drop]; exact ho)⟩ ?_
    rintro p fb40 w39 ⟨⟨hp1, hp2, hp3, hp4, hp5⟩, hXL38, hown⟩
    replace hX := Bel.out hX hXL38 om2
    replace hXL1 := Bel.out hXL1 hXL38 om2
    have hs := hown.slA encP_ok
    refine Qf (Qf (Qb (Rr (mvI rfl) (Rr (mvS rfl) (Rr (QC underlying158 rfl) (Rr (QM rfl rfl) (Qc (Qw rfl (fun hc4 => ?_) (fun hc4 => ?_)))))))))
    ·first | replace hc4 := dcT hc4 | replace hc4 := Zm hc4 | skip
     refine Qp (Qf (Qt (Qf ?_)))
     apply Q3 (β := β) [peq _, peq _, peq _, peq _, peq _, peq _, peq _, peq _, peq _, peq _] 10 QV (by kernel_rfl) rfl ⟨Qd _, Qd _, Qd _, Qd _, Qd _, Qd _, Qd _, Qd _, Qd _, Qd _, trivial⟩ ?ob11 ?fin11
     case ob11 =>
      refine Qg (fun _ _ => Qe (Qn rfl (mvS rfl))) (Qg (fun _ _ => Qe (Qn rfl (mvI rfl))) (Qg (fun w48 x49 => ?_) ?_))
      ·have hown := hown.ext x49
       exact Qa (Qa (Qe (Qn rfl (o_iaO2 (i := p.2.1) underlying158 sizeOf50 hown rfl rfl (by omega) (by omega)))))
      refine Qg (fun w51 x52 => ?_) ?_
      ·have hs := hs.ext x52
       exact Qa (Qe (Qn rfl (QY isAgg50 sizeOf50 hs rfl (J2 (z := pz) (by omega) (by omega)))))
      refine Qg (fun _ _ => Qe (Qn rfl (mvS rfl))) (Qg (fun _ _ => Qe (Qn rfl (mvI rfl))) (Qg (fun w60 x61 => Qa (Qe (Qn rfl (Ya (b := 1) rfl rfl (by omega) (by omega))))) (Qg (fun w63 x64 => ?_) ?_)))
      ·have hown := hown.ext x64
       exact Qa (Qa (Qe (Qn rfl (o_iaO2 (i := p.2.1 - 1) underlying158 sizeOf50 hown rfl rfl (by omega) (by omega)))))
      refine Qg (fun w66 x67 => ?_) ?_
      ·have hs := hs.ext x67
       exact Qa (Qe (Qn rfl (QY isAgg50 sizeOf50 hs rfl (J2 (z := pz) (by omega) (by omega)))))
      exact Qg (fun _ _ => Qa (Qa (Qe (Qn rfl (JV eq_perm rfl rfl))))) QR
     case fin11 =>
      intro w72 x73
      replace hXL38 := Bel.ex hXL38 x73
      replace hown := hown.ext x73
      replace hs := hs.ext x73
      refine Qa (Qa (Qa (Qa (Qa (Qa (Qa (Qa (Qa (Qa (Qe (Qc (Qw rfl (fun hc5 => ?_) (fun hc5 => ?_)))))))))))))
      ·first | replace hc5 := dcT hc5 | replace hc5 := Zm hc5 | skip
       refine Qf (Qb (Rr (mvS rfl) (Rr (mvI rfl) (Rr (mvS rfl) (Rr (mvI rfl) (Rr (o_iaO2 (i := p.2.1) underlying158 sizeOf50 hown rfl rfl (by omega) (by omega)) (Rr (QY isAgg50 sizeOf50 hs rfl (J2 (z := pz) (by omega) (by omega))) (Rr (ZE underlying158 sizeOf50 hown rfl rfl (by omega)) ?_))))))))
       refine ZG (u := l.getD (k + p.2.1) pz) rfl encP_ok sizeOf50 rfl rfl rfl hown (by simp; omega) ?_
       intro w75 x76 hown
       replace hXL38 := Bel.out hXL38 x76 om2
       refine Qc (Qb (Rr (mvI rfl) (Rr (QO rfl rfl omg) (Rr (asI rfl) (Qc (Qb (Rr (mvI rfl) (Rr (QO rfl rfl omg) (Rr (asI rfl) (Qc ⟨(p.1 ++ [l.getD (k + p.2.1) pz], p.2.1 + 1, p.2.2 + 1), ⟨sT, sT, trivial⟩, oT, ⟨?_, hXL38, ?_⟩, ?_⟩))))))))))
       ·exact ⟨by show 1 ≤ p.2.1 + 1; omega, by show k + (p.2.1 + 1) ≤ l.length; omega, by show _ = compL (l.take (k + p.2.1 + 1)); rw [comp_ne (z := pz) (by omega) (by omega) (by rw [show k + p.2.1 - 1 = k + (p.2.1 - 1) by omega]; simpa using hc5), hp3], by simp [hp4], by show p.2.2 + 1 + 1 ≤ k + (p.2.1 + 1); omega⟩
       ·rw [← hp4, tail_set (by omega)] at hown; exact hown
       ·show l.length - (k + (p.2.1 + 1)) < _; omega
      first | replace hc5 := dcF hc5 | replace hc5 := Zo hc5 | skip
      refine Qp (Qb (Rr (mvI rfl) (Rr (QO rfl rfl omg) (Rr (asI rfl) (Qc ⟨(p.1, p.2.1 + 1, p.2.2), ⟨sT, sT, trivial⟩, oT, ⟨?_, hXL38, ?_⟩, ?_⟩)))))
      ·exact ⟨by show 1 ≤ p.2.1 + 1; omega, by show k + (p.2.1 + 1) ≤ l.length; omega, by show _ = compL (l.take (k + p.2.1 + 1)); rw [comp_eq (z := pz) (by omega) (by omega) (by rw [show k + p.2.1 - 1 = k + (p.2.1 - 1) by omega]; simpa using hc5), hp3], hp4, by show p.2.2 + 1 ≤ k + (p.2.1 + 1); omega⟩
      ·exact hown
      ·show l.length - (k + (p.2.1 + 1)) < _; omega
    first | replace hc4 := dcF hc4 | replace hc4 := Zo hc4 | skip
    refine QN (QI (Qf (Qb (Rr (mvS rfl) (Rr (mvI rfl) (Rr (JZ (j := p.2.2) underlying158 sizeOf50 rfl rfl (by omega) (by omega)) ?_))))))
    refine Vc pz encP_ok Y4 rfl rfl hown (by simp; omega) (by simp; omega) ?_
    intro w78 x79 hown
    replace hX := Bel.out hX x79 om2
    refine Qc (Qf (Qb (Rr (mvS rfl) (Rr (mvI rfl) (Rr (Jm underlying158 sizeOf50 rfl rfl omg) (Rr (asS rfl) (Qc (Qu ⟨_, Qr rfl rfl, ?_⟩))))))))
    have e : compL l = p.1 := by rw [hp3, show k + p.2.1 = l.length by omega, List.take_length]
    exact ⟨_, rfl, by rw [e]; exact hown.cutTo encP_ok hp4, hX⟩
   first | replace hc3 := dcF hc3 | replace hc3 := Zo hc3 | skip
   refine Qp (Qb (Rr (mvI rfl) (Rr (QO rfl rfl omg) (Rr (asI rfl) (Qc ⟨k + 1, ⟨sT, trivial⟩, oT, ⟨?_, hXL1, ?_⟩, ?_⟩)))))
   ·exact ⟨by omega, by omega, by rw [comp_ne (z := pz) (by omega) hk1 (by simpa using hc3), hall, List.take_succ_eq_append_getElem (by omega)]; simp [List.getD, show k < l.length by omega]⟩
   ·exact ho
   ·omega
 first | replace hc2 := dcF hc2 | replace hc2 := Zo hc2 | skip
 refine QN (QI (Qf (Qb (Rr (mvS rfl) (Rr (asS rfl) (Qc (Qu ⟨_, Qr rfl rfl, ?_⟩)))))))
 rw [List.take_of_length_le (by omega)] at hall
 exact ⟨_, rfl, by rw [hall]; exact ho, hX⟩
