/- Walks: what functions return. -/
import Derived.Test.YtdnkjdmfnmdpdaaGreatDoorWname
import Derived.Test.YtdnkjdmfnmdpdaaGreatDoorNorm
set_option linter.unusedVariables false
set_option linter.unusedSimpArgs false
set_option linter.unnecessarySimpa false
namespace Go.Proofs.YtdnkjdmfnmdpdaaGreatDoor
open Go Go.Lx Go.RowKit Tryz
set_option maxRecDepth 100000
theorem rpart_ok (β : Prop) (w : World) (s : Str) (hs : s.length ≤ 1000000) : Ok Tryz.prog 137 #[str s] w fun v w' => v = .bool (namedS s) ∧ Ext β w w' := by
 refine ZQ 56 func137 rfl rfl rfl ?_
 have hX : Ext β w w := Bel.refl _ _
 refine QH (Qc ?_)
 refine Rr Zi ?_
 refine Qg (QH (QH (Qc ?_)))
 refine Rr (Zt (v := str _) rfl) ?_
 refine Rr (o_seql rfl rfl) ?_
 refine Rr (mvB rfl) ?_
 refine ZI 2 7 rfl rfl rfl (fun hg => (Zt (v := str _) rfl)) ?_
 refine ZI 2 7 rfl rfl rfl (fun hg => (J8 underlying9 (ZU (u := undef) hg))) ?_
 refine ZI 2 7 rfl rfl rfl (fun hg => (JY (ZU (u := undef) hg) rfl)) ?_
 refine Rr (JP (u := undef) rfl rfl) ?_
 refine Rr (mvB rfl) ?_
 refine ZI 7 12 rfl rfl rfl (fun hg => (Zt (v := str _) rfl)) ?_
 refine ZI 7 12 rfl rfl rfl (fun hg => (o_seql (ZU (u := undef) hg) rfl)) ?_
 refine Rr (JP (u := undef) rfl rfl) ?_
 refine Rr (mvB rfl) ?_
 refine ZI 11 16 rfl rfl rfl (fun hg => (Zt (v := str _) rfl)) ?_
 refine ZI 11 16 rfl rfl rfl (fun hg => (o_seql (ZU (u := undef) hg) rfl)) ?_
 refine Rr (JP (u := undef) rfl rfl) ?_
 refine Qg ?_
 refine ZG rfl (fun hc1 => ?_) (fun hc1 => ?_)
 ·refine QH (Qc ?_)
  refine Rr Zi ?_
  refine Qg (ZJ ?_)
  refine ⟨_, ZF rfl rfl, ?_⟩
  refine ⟨cvB ?_, hX⟩
  all_goals (rw [← rPart_eq, rPart, hc1]; rfl)
 refine ZH (QH (QH (Qc ?_)))
 refine Rr Zi ?_
 refine Qg (ZM ?_)
 refine Jk (α := Nat) [(2, 4), (20, 55)] (fun k => [(3, .int .i64 (k : Int))]) (fun k w' => (k ≤ s.length ∧ (s.take k).all nameB = true) ∧ Ext β w w') (fun k => s.length - k) 0 ⟨rfl, trivial⟩ ⟨⟨by omega, by simp⟩, Bel.refl _ _⟩ ?_
 rintro k fb3 w2 ⟨⟨hk, hall⟩, hXL1⟩
 replace hX := hX.ex hXL1
 refine QH (QH (Qc ?_))
 refine Rr (mvI rfl) ?_
 refine Rr (Zt (v := str _) rfl) ?_
 refine Rr (J8 underlying9 rfl) ?_
 refine Rr (Z5 rfl rfl) ?_
 refine Qg ?_
 refine ZG rfl (fun hc2 => ?_) (fun hc2 => ?_)
 ·replace hc2 := dcT hc2
  refine ZH (QH (ZM (QH (Qc ?_))))
  refine Rr (Zt (v := str _) rfl) ?_
  refine Rr (mvI rfl) ?_
  refine Rr (o_sidx underlying9 rfl rfl omg) ?_
  refine Rr (asI rfl) ?_
  refine Qg (QH (Qc ?_))
  refine Rr (mvI rfl) ?_
  refine Rr (o_geq rfl rfl) ?_
  refine Rr (mvB rfl) ?_
  refine ZI 2 31 rfl rfl rfl (fun hg => (mvI rfl)) ?_
  refine ZI 2 31 rfl rfl rfl (fun hg => (o_leq (ZU (u := undef) hg) rfl)) ?_
  refine Rr (Jq (u := undef) rfl rfl) ?_
  refine Rr (mvB rfl) ?_
  refine ZI 6 35 rfl rfl rfl (fun hg => (mvI rfl)) ?_
  refine ZI 6 35 rfl rfl rfl (fun hg => (o_geq (ZU (u := undef) hg) rfl)) ?_
  refine ZI 6 35 rfl rfl rfl (fun hg => (Zt (v := .bool _) (ZU (u := undef) hg))) ?_
  refine JU 9 38 rfl rfl rfl (fun hg => (mvI rfl)) ?_
  refine JU 9 38 rfl rfl rfl (fun hg => (o_leq (ZU (u := undef) hg) rfl)) ?_
  refine ZI 6 35 rfl rfl rfl (fun hg => (Jq (u := undef) (ZU (u := undef) hg) (gand (u := undef) hg))) ?_
  refine Rr (JP (u := undef) rfl rfl) ?_
  refine Rr (mvB rfl) ?_
  refine ZI 14 43 rfl rfl rfl (fun hg => (mvI rfl)) ?_
  refine ZI 14 43 rfl rfl rfl (fun hg => (ZZ (ZU (u := undef) hg) rfl)) ?_
  refine Rr (JP (u := undef) rfl rfl) ?_
  refine Rr (mvB rfl) ?_
  refine ZI 18 47 rfl rfl rfl (fun hg => (mvI rfl)) ?_
  refine ZI 18 47 rfl rfl rfl (fun hg => (ZZ (ZU (u := undef) hg) rfl)) ?_
  refine Rr (JP (u := undef) rfl rfl) ?_
  refine Rr (mvB rfl) ?_
  refine ZI 22 51 rfl rfl rfl (fun hg => (mvI rfl)) ?_
  refine ZI 22 51 rfl rfl rfl (fun hg => (ZZ (ZU (u := undef) hg) rfl)) ?_
  refine Rr (JP (u := undef) rfl rfl) ?_
  refine Rr (Jf rfl) ?_
  refine Qg ?_
  refine ZG rfl (fun hc3 => ?_) (fun hc3 => ?_)
  ·refine QH (Qc ?_)
   refine Rr Zi ?_
   refine Qg (ZJ ?_)
   refine ⟨_, ZF rfl rfl, ?_⟩
   refine ⟨cvB ?_, hX⟩
   all_goals (rw [← rPart_eq, rPart, all_at (k := k) (by omega) (by rw [← rName]; exact JN hc3), Bool.and_false])
  refine ZH (Qc ?_)
  refine Rr (mvI rfl) ?_
  refine Rr (Z1 rfl rfl omg) ?_
  refine Rr (asI rfl) ?_
  refine Qg ?_
  refine ⟨k + 1, ⟨sT, trivial⟩, oT, ⟨?_, hXL1⟩, ?_⟩
  ·exact ⟨by omega, by rw [all_take_succ (by omega), hall]; show (true && nameB _) = true; rw [← rName, JO hc3]; rfl⟩
  ·omega
 replace hc2 := dcF hc2
 refine Z4 (ZX (QH (Qc ?_)))
 refine Rr Zi ?_
 refine Qg (ZJ ?_)
 refine ⟨_, ZF rfl rfl, ?_⟩
 refine ⟨cvB ?_, hX⟩
 all_goals (rw [← rPart_eq, rPart, hc1, all_end (k := k) (by omega) hall]; rfl)

theorem rsplit_ok (w : World) (p : Str) (hp : p.length ≤ 1000000) : Ok Tryz.prog 107 #[str p] w fun v w' => ∃ a c l, v = .tuple #[.slice a l.length c, .bool (splitOk p)] ∧ Sl encS 1 (Fsh w w') w' a c l ∧ (splitOk p = true → l = splitL p) ∧ Ext False w w' := by
 refine ZQ 50 func107 rfl rfl rfl ?_
 have hX := xRf w
 refine QH (Qc ?_)
 refine Rr Zi ?_
 refine Rr Zi ?_
 refine Qg (QH (QH (Qc ?_)))
 refine Rr (Zt (v := str _) rfl) ?_
 refine Rr (o_seql rfl rfl) ?_
 refine Qg ?_
 refine ZG rfl (fun hc1 => ?_) (fun hc1 => ?_)
 ·refine QH (Qc ?_)
  refine Rr Zi ?_
  refine Rr Zi ?_
  refine Qg (ZJ ?_)
  refine ⟨_, Je rfl rfl rfl, ?_⟩
  exact ⟨none, 0, [], by rw [splitOk_some (splitP_root hc1)]; rfl, Sl.none, fun _ => (splitL_some (splitP_root hc1)).symm, hX⟩
 refine ZH (QH (QH (Qc ?_)))
 refine Rr (Zt (v := str _) rfl) ?_
 refine Rr (o_seql rfl rfl) ?_
 refine Rr (mvB rfl) ?_
 refine ZI 2 11 rfl rfl rfl (fun hg => (Zt (v := str _) rfl)) ?_
 refine ZI 2 11 rfl rfl rfl (fun hg => (o_sidx (i := 0) underlying9 (ZU (u := undef) hg) rfl (by cases p with | nil => simp at hg | cons => simp))) ?_
 refine ZI 2 11 rfl rfl rfl (fun hg => (JD (ZU (u := undef) hg) rfl)) ?_
 refine Rr (JP (u := undef) rfl rfl) ?_
 refine Qg ?_
 refine ZG rfl (fun hc2 => ?_) (fun hc2 => ?_)
 ·refine QH (Qc ?_)
  refine Rr Zi ?_
  refine Rr Zi ?_
  refine Qg (ZJ ?_)
  refine ⟨_, Je rfl rfl rfl, ?_⟩
  have e := splitP_none (Or.inl ⟨hc1, pre_no hc2⟩); exact ⟨none, 0, [], by rw [splitOk_none e]; rfl, Sl.none, fun h => absurd h (by rw [splitOk_none e]; decide), hX⟩
 refine ZH (QH (Qc ?_))
 refine Rr Zi ?_
 refine Qg (QH (Qc ?_))
 refine Rr Zi ?_
 refine Qg (QH (QH (Qc ?_)))
 refine Rr Zi ?_
 refine Qg (ZM ?_)
 refine Jk (α := List Str × Str × Nat × Value) [(2, 6), (16, 45)] (fun g => [(4, g.2.2.2), (5, str g.2.1), (6, .int .i64 (g.2.2.1 : Int))]) (fun g w' => (SpAt p g.1 g.2.1 g.2.2.1) ∧ Bel False (fun g => w.heap.size ≤ g) w w' ∧ (Own encS 1 9 (fun g => w.heap.size ≤ g) w' g.2.2.2 g.1)) (fun g => p.length + 1 - g.2.2.1) ([], [], 1, .slice none 0 0) ⟨rfl, rfl, rfl, trivial⟩ ⟨SpAt.start (pre_yes hc2).2, Bel.refl _ _, Own.nil _ _⟩ ?_
 rintro g fb3 w2 ⟨hI, hXL1, hown⟩
 have z4 := Bel.size hXL1
 replace hX := Bel.out hX hXL1 om2
 refine QH (QH (Qc ?_))
 refine Rr (mvI rfl) ?_
 refine Rr (Zt (v := str _) rfl) ?_
 refine Rr (J8 underlying9 rfl) ?_
 refine Rr (o_leq rfl rfl) ?_
 refine Qg ?_
 refine ZG rfl (fun hc3 => ?_) (fun hc3 => ?_)
 ·replace hc3 := dcT hc3
  refine ZH (QH (ZM (QH (QH (Qc ?_)))))
  refine Rr (mvI rfl) ?_
  refine Rr (Zt (v := str _) rfl) ?_
  refine Rr (J8 underlying9 rfl) ?_
  refine Rr (Z5 rfl rfl) ?_
  refine Rr (mvB rfl) ?_
  refine ZI 4 26 rfl rfl rfl (fun hg => (Zt (v := str _) rfl)) ?_
  refine ZI 4 26 rfl rfl rfl (fun hg => (mvI rfl)) ?_
  refine ZI 4 26 rfl rfl rfl (fun hg => (o_sidx underlying9 (ZU (u := undef) hg) (ZU (u := undef) hg) (by have := dcT (eq_of_beq hg); omega))) ?_
  refine ZI 4 26 rfl rfl rfl (fun hg => (JD (ZU (u := undef) hg) rfl)) ?_
  refine Rr (Jq (u := undef) rfl rfl) ?_
  refine Qg ?_
  refine ZG rfl (fun hc4 => ?_) (fun hc4 => ?_)
  ·refine QH (Qc ?_)
   refine Rr (Zt (v := str _) rfl) ?_
   refine Rr (Zt (v := str _) rfl) ?_
   refine Rr (mvI rfl) ?_
   refine Rr (mvI rfl) ?_
   refine Rr (Z1 rfl rfl (by have := hI.2.1; unfold I64; omega)) ?_
   refine Rr (o_sslice (i := g.2.2.1) (j := g.2.2.1 + 1) underlying9 rfl rfl rfl (by omega) (by have := (hI.char hc4).1; omega)) ?_
   refine Rr (Z3 rfl rfl (by have := hI.2.2.2.1; have := hI.2.1; simp; omega)) ?_
   refine Rr (ZD (v := str _) rfl) ?_
   refine Qg (Z4 (ZX (Qc ?_)))
   refine Rr (mvI rfl) ?_
   refine Rr (Z1 rfl rfl (by have := hI.2.1; unfold I64; omega)) ?_
   refine Rr (asI rfl) ?_
   refine Qg ?_
   refine ⟨(g.1, g.2.1 ++ [p.getD g.2.2.1 0], g.2.2.1 + 1, g.2.2.2), ⟨sT, ?_, sT, trivial⟩, oT, ⟨?_, hXL1, ?_⟩, ?_⟩
   ·first | rfl | exact congrArg str (by rw [one_byte (hI.char hc4).1])
   ·exact (hI.char hc4).2
   ·exact hown
   ·show p.length + 1 - (g.2.2.1 + 1) < p.length + 1 - g.2.2.1; omega
  refine ZH (QH (QH (Qc ?_)))
  refine Rr (Zt (v := str _) rfl) ?_
  refine ZC rfl (ZK call137 rfl) (Ok.mono (rpart_ok (False) _ _ (by have := hI.2.2.2.1; have := hI.2.1; omega)) ?_)
  rintro _ w5 ⟨rfl, x6⟩
  have z7 := x6.size
  replace hX := hX.ex x6
  replace hXL1 := Bel.ex hXL1 x6
  replace hown := hown.ext x6
  refine Rr (Jf rfl) ?_
  refine Qg ?_
  refine ZG rfl (fun hc5 => ?_) (fun hc5 => ?_)
  ·refine QH (Qc ?_)
   refine Rr Zi ?_
   refine Rr Zi ?_
   refine Qg (ZJ ?_)
   refine ⟨_, Je rfl rfl rfl, ?_⟩
   have e := hI.bad hc1 (by omega) hc4 (JN hc5); exact ⟨none, 0, [], by rw [e]; rfl, Sl.none, fun h => absurd h (by rw [e]; decide), hX⟩
  refine ZH (QH (Qc ?_))
  refine Rr (Zt (v := g.2.2.2) rfl) ?_
  refine Rr (Zt (v := str _) rfl) ?_
  refine Jh (vs := [str _]) ([g.2.1]) rfl Jy Yb rfl rfl ⟨rfl, trivial⟩ rfl rfl rfl rfl ?_
  intro a44 w8 x9 hown44
  have z10 := x9.size
  replace hX := hX.ex x9
  replace hXL1 := Bel.ex hXL1 x9
  replace hown := hown.ext x9
  replace hown44 := hown44.mono (D' := fun g => w.heap.size ≤ g) (fun g h1 h2 => by omega)
  refine Jd rfl Jy Yb rfl rfl hown (hown44.slA Jy) rfl (by have := hI.2.2.1; have := hI.2.1; simp; omega) omU ?_
  intro v45 w11 x12 hown
  have z13 := x12.size
  replace hX := Bel.out hX x12 om2
  replace hXL1 := Bel.out hXL1 x12 om2
  refine Rr (ZD (v := v45) rfl) ?_
  refine Qg (Qc ?_)
  refine Rr Zi ?_
  refine Qg (Qc ?_)
  refine Rr (mvI rfl) ?_
  refine Rr (Z1 rfl rfl (by have := hI.2.1; unfold I64; omega)) ?_
  refine Rr (asI rfl) ?_
  refine Qg ?_
  refine ⟨(g.1 ++ [g.2.1], [], g.2.2.1 + 1, v45), ⟨sT, ?_, sT, trivial⟩, oT, ⟨?_, hXL1, ?_⟩, ?_⟩
  ·first | rfl | exact congrArg str (by rw [one_byte (hI.char hc4).1])
  ·exact hI.sep (by omega) hc4 (JO hc5)
  ·exact hown
  ·show p.length + 1 - (g.2.2.1 + 1) < p.length + 1 - g.2.2.1; omega
 replace hc3 := dcF hc3
 refine Z4 (ZX (QH (Qc ?_)))
 refine Rr (Zt (v := g.2.2.2) rfl) ?_
 refine Rr (Zt (v := g.2.2.2) rfl) ?_
 refine Rr (o_llenO underlying29 rfl hown) ?_
 refine Rr (o_leq rfl rfl) ?_
 refine Rr (ZD (v := g.2.2.2) rfl) ?_
 refine Rr (asB rfl) ?_
 refine Qg (ZJ ?_)
 refine ⟨_, Je rfl rfl rfl, ?_⟩
 obtain ⟨e1, e2⟩ := hI.fin hc1 (pre_yes hc2).1 hc3; obtain ⟨a, c, hv, hs⟩ := hown.sl Jy; exact ⟨a, c, g.1, by rw [← e1, ← hv]; rfl, hs.mono (fun g h1 h2 => by omega), e2, hX⟩

