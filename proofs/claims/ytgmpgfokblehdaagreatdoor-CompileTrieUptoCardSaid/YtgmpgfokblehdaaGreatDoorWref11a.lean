/- Walks: what functions return. -/
import Derived.Test.YtgmpgfokblehdaaGreatDoorWname
import Derived.Test.YtgmpgfokblehdaaGreatDoorPerm0
set_option linter.unusedVariables false
set_option linter.unusedSimpArgs false
set_option linter.unnecessarySimpa false
namespace Go.Proofs.YtgmpgfokblehdaaGreatDoor
open Go Go.Lx Go.RowKit Tryz
set_option maxRecDepth 100000
theorem rpart_ok (β : Prop) (w : World) (s : Str) (hs : s.length ≤ 1100000) : Ok Tryz.prog 195 #[str s] w fun v w' => v = .bool (namedS s) ∧ Ext β w w' := by
 refine Qv 56 func195 rfl rfl rfl ?_
 have hX : Ext β w w := Bel.refl _ _
 refine Qf (Qb (Rr Qj (Qc (Qf (Qf (Qb (Rr (mvT rfl) (Rr (Z9 rfl rfl) (Rr (mvB rfl) (Qs 2 7 rfl rfl rfl (fun hg => mvT rfl) (Qs 2 7 rfl rfl rfl (fun hg => ZW underlying9 (QK (u := undef) hg)) (Qs 2 7 rfl rfl rfl (fun hg => ZM (QK (u := undef) hg) rfl) (Rr (ZS (u := undef) rfl rfl) (Rr (mvB rfl) (Qs 7 12 rfl rfl rfl (fun hg => mvT rfl) (Qs 7 12 rfl rfl rfl (fun hg => Z9 (QK (u := undef) hg) rfl) (Rr (ZS (u := undef) rfl rfl) (Rr (mvB rfl) (Qs 11 16 rfl rfl rfl (fun hg => mvT rfl) (Qs 11 16 rfl rfl rfl (fun hg => Z9 (QK (u := undef) hg) rfl) (Rr (ZS (u := undef) rfl rfl) (Qc (Qw rfl (fun hc1 => ?_) (fun hc1 => ?_))))))))))))))))))))))))
 ·refine Qf (Qb (Rr Qj (Qc (Qu ⟨_, Qr rfl rfl, ⟨cvB ?_, hX⟩⟩))))
  all_goals (rw [← rPart_eq, rPart, hc1]; rfl)
 refine Qp (Qf (Qf (Qb (Rr Qj (Qc (Qt ?_))))))
 refine QU (α := Nat) [(2, 4), (20, 55)] (fun k => [(3, .int .i64 (k : Int))]) (fun k w' => (k ≤ s.length ∧ (s.take k).all nameB = true) ∧ Ext β w w') (fun k => s.length - k) 0 ⟨rfl, trivial⟩ ⟨⟨by omega, by simp⟩, Bel.refl _ _⟩ ?_
 rintro k fb3 w2 ⟨⟨hk, hall⟩, hXL1⟩
 replace hX := hX.ex hXL1
 refine Qf (Qf (Qb (Rr (mvI rfl) (Rr (mvT rfl) (Rr (ZW underlying9 rfl) (Rr (QM rfl rfl) (Qc (Qw rfl (fun hc2 => ?_) (fun hc2 => ?_)))))))))
 ·replace hc2 := dcT hc2
  refine Qp (Qf (Qt (Qf (Qb (Rr (mvT rfl) (Rr (mvI rfl) (Rr (Jl underlying9 rfl rfl omg) (Rr (asI rfl) (Qc (Qf (Qb (Rr (mvI rfl) (Rr (ZU rfl rfl) (Rr (mvB rfl) (Qs 2 31 rfl rfl rfl (fun hg => mvI rfl) (Qs 2 31 rfl rfl rfl (fun hg => Jk (QK (u := undef) hg) rfl) (Rr (Zt (u := undef) rfl rfl) (Rr (mvB rfl) (Qs 6 35 rfl rfl rfl (fun hg => mvI rfl) (Qs 6 35 rfl rfl rfl (fun hg => ZU (QK (u := undef) hg) rfl) (Qs 6 35 rfl rfl rfl (fun hg => QG (v := .bool _) (QK (u := undef) hg)) (ZR 9 38 rfl rfl rfl (fun hg => mvI rfl) (ZR 9 38 rfl rfl rfl (fun hg => Jk (QK (u := undef) hg) rfl) (Qs 6 35 rfl rfl rfl (fun hg => Zt (u := undef) (QK (u := undef) hg) (gand (u := undef) hg)) (Rr (ZS (u := undef) rfl rfl) (Rr (mvB rfl) (Qs 14 43 rfl rfl rfl (fun hg => mvI rfl) (Qs 14 43 rfl rfl rfl (fun hg => Zu (QK (u := undef) hg) rfl) (Rr (ZS (u := undef) rfl rfl) (Rr (mvB rfl) (Qs 18 47 rfl rfl rfl (fun hg => mvI rfl) (Qs 18 47 rfl rfl rfl (fun hg => Zu (QK (u := undef) hg) rfl) (Rr (ZS (u := undef) rfl rfl) (Rr (mvB rfl) (Qs 22 51 rfl rfl rfl (fun hg => mvI rfl) (Qs 22 51 rfl rfl rfl (fun hg => Zu (QK (u := undef) hg) rfl) (Rr (ZS (u := undef) rfl rfl) (Rr (Zp rfl) (Qc (Qw rfl (fun hc3 => ?_) (fun hc3 => ?_)))))))))))))))))))))))))))))))))))))))))
  ·refine Qf (Qb (Rr Qj (Qc (Qu ⟨_, Qr rfl rfl, ⟨cvB ?_, hX⟩⟩))))
   all_goals (rw [← rPart_eq, rPart, all_at (k := k) (by omega) (by rw [← rName]; exact Zm hc3), Bool.and_false])
  refine Qp (Qb (Rr (mvI rfl) (Rr (QO rfl rfl omg) (Rr (asI rfl) (Qc ⟨k + 1, ⟨sT, trivial⟩, oT, ⟨?_, hXL1⟩, ?_⟩)))))
  ·exact ⟨by omega, by rw [YO (by omega), hall]; show (true && nameB _) = true; rw [← rName, Zo hc3]; rfl⟩
  ·omega
 replace hc2 := dcF hc2
 refine QN (QI (Qf (Qb (Rr Qj (Qc (Qu ⟨_, Qr rfl rfl, ⟨cvB ?_, hX⟩⟩))))))
 all_goals (rw [← rPart_eq, rPart, hc1, all_end (k := k) (by omega) hall]; rfl)
theorem rsplit_ok (w : World) (p : Str) (hp : p.length ≤ 1100000) : Ok Tryz.prog 142 #[str p] w fun v w' => ∃ a c l, v = .tuple #[.slice a l.length c, .bool (splitOk p)] ∧ Sl encS 1 (Fsh w w') w' a c l ∧ (splitOk p = true → l = splitL p) ∧ Ext False w w' := by
 refine Qv 50 func142 rfl rfl rfl ?_
 have hX := xRf w
 refine Qf (Qb (Rr Qj (Rr Qj (Qc (Qf (Qf (Qb (Rr (mvT rfl) (Rr (Z9 rfl rfl) (Qc (Qw rfl (fun hc1 => ?_) (fun hc1 => ?_))))))))))))
 ·refine Qf (Qb (Rr Qj (Rr Qj (Qc (Qu ⟨_, QT rfl rfl rfl, ?_⟩)))))
  exact ⟨none, 0, [], by rw [Jy (Yw hc1)]; rfl, Sl.none, fun _ => (Z0 (Yw hc1)).symm, hX⟩
 refine Qp (Qf (Qf (Qb (Rr (mvT rfl) (Rr (Z9 rfl rfl) (Rr (mvB rfl) (Qs 2 11 rfl rfl rfl (fun hg => mvT rfl) (Qs 2 11 rfl rfl rfl (fun hg => Jl (i := 0) underlying9 (QK (u := undef) hg) rfl (by cases p with | nil => simp at hg | cons => simp)) (Qs 2 11 rfl rfl rfl (fun hg => Zv (QK (u := undef) hg) rfl) (Rr (ZS (u := undef) rfl rfl) (Qc (Qw rfl (fun hc2 => ?_) (fun hc2 => ?_)))))))))))))
 ·refine Qf (Qb (Rr Qj (Rr Qj (Qc (Qu ⟨_, QT rfl rfl rfl, ?_⟩)))))
  have e := JQ (Or.inl ⟨hc1, pre_no hc2⟩); exact ⟨none, 0, [], by rw [Jz e]; rfl, Sl.none, fun h => absurd h (by rw [Jz e]; decide), hX⟩
 refine Qp (Qf (Qb (Rr Qj (Qc (Qf (Qb (Rr Qj (Qc (Qf (Qf (Qb (Rr Qj (Qc (Qt (QU (α := List Str × Str × Nat × Value) [(2, 6), (16, 45)] (fun g => [(4, g.2.2.2), (5, str g.2.1), (6, .int .i64 (g.2.2.1 : Int))]) (fun g w' => (SpAt p g.1 g.2.1 g.2.2.1) ∧ Bel False (fun g => w.heap.size ≤ g) w w' ∧ (Own encS 1 9 (fun g => w.heap.size ≤ g) w' g.2.2.2 g.1)) (fun g => p.length + 1 - g.2.2.1) ([], [], 1, .slice none 0 0) ⟨rfl, rfl, rfl, trivial⟩ ⟨SpAt.start (pre_yes hc2).2, Bel.refl _ _, Own.nil _ _⟩ ?_)))))))))))))))
 rintro g fb3 w2 ⟨hI, hXL1, hown⟩
 have z4 := Bel.size hXL1
 replace hX := Bel.out hX hXL1 om2
 refine Qf (Qf (Qb (Rr (mvI rfl) (Rr (mvT rfl) (Rr (ZW underlying9 rfl) (Rr (Jk rfl rfl) (Qc (Qw rfl (fun hc3 => ?_) (fun hc3 => ?_)))))))))
 ·replace hc3 := dcT hc3
  refine Qp (Qf (Qt (Qf (Qf (Qb (Rr (mvI rfl) (Rr (mvT rfl) (Rr (ZW underlying9 rfl) (Rr (QM rfl rfl) (Rr (mvB rfl) (Qs 4 26 rfl rfl rfl (fun hg => mvT rfl) (Qs 4 26 rfl rfl rfl (fun hg => mvI rfl) ?_))))))))))))
  refine Qs 4 26 rfl rfl rfl (fun hg => Jl underlying9 (QK (u := undef) hg) (QK (u := undef) hg) (by have := dcT (eq_of_beq hg); omega)) ?_
  refine Qs 4 26 rfl rfl rfl (fun hg => Zv (QK (u := undef) hg) rfl) (Rr (Zt (u := undef) rfl rfl) (Qc (Qw rfl (fun hc4 => ?_) (fun hc4 => ?_))))
  ·refine Qf (Qb (Rr (mvT rfl) (Rr (mvT rfl) (Rr (mvI rfl) (Rr (mvI rfl) ?_)))))
   refine Rr (QO rfl rfl (by have := hI.2.1; unfold I64; omega)) ?_
   refine Rr (o_sslice (i := g.2.2.1) (j := g.2.2.1 + 1) underlying9 rfl rfl rfl (by omega) (by have := (hI.char hc4).1; omega)) ?_
   refine Rr (o_sadd rfl rfl (by have := hI.2.2.2.1; have := hI.2.1; simp; omega)) ?_
   refine Rr (asT rfl) (Qc (QN (QI (Qb (Rr (mvI rfl) ?_)))))
   refine Rr (QO rfl rfl (by have := hI.2.1; unfold I64; omega)) ?_
   refine Rr (asI rfl) (Qc ⟨(g.1, g.2.1 ++ [p.getD g.2.2.1 0], g.2.2.1 + 1, g.2.2.2), ⟨sT, ?_, sT, trivial⟩, oT, ⟨?_, hXL1, ?_⟩, ?_⟩)
   ·first | rfl | exact congrArg str (by rw [one_byte (hI.char hc4).1])
   ·exact (hI.char hc4).2
   ·exact hown
   ·show p.length + 1 - (g.2.2.1 + 1) < p.length + 1 - g.2.2.1; omega
  refine Qp (Qf (Qf (Qb (Rr (mvT rfl) ?_))))
  refine Qo rfl (QD call195 rfl) (Ok.mono (rpart_ok (False) _ _ (by have := hI.2.2.2.1; have := hI.2.1; omega)) ?_)
  rintro _ w5 ⟨rfl, x6⟩
  have z7 := x6.size
  replace hX := hX.ex x6
  replace hXL1 := Bel.ex hXL1 x6
  replace hown := hown.ext x6
  refine Rr (Zp rfl) (Qc (Qw rfl (fun hc5 => ?_) (fun hc5 => ?_)))
  ·refine Qf (Qb (Rr Qj (Rr Qj (Qc (Qu ⟨_, QT rfl rfl rfl, ?_⟩)))))
   have e := hI.bad hc1 (by omega) hc4 (Zm hc5); exact ⟨none, 0, [], by rw [e]; rfl, Sl.none, fun h => absurd h (by rw [e]; decide), hX⟩
  refine Qp (Qf (Qb (Rr (QG (v := g.2.2.2) rfl) (Rr (mvT rfl) (ZP (vs := [str _]) ([g.2.1]) rfl Q5 ZC rfl rfl ⟨rfl, trivial⟩ rfl rfl rfl rfl ?_)))))
  intro a44 w8 x9 hown44
  have z10 := x9.size
  replace hXL1 := Bel.ex hXL1 x9
  replace hown := hown.ext x9
  replace hown44 := hown44.mono (D' := fun g => w.heap.size ≤ g) (fun g h1 h2 => by omega)
  refine ZZ rfl Q5 ZC rfl rfl hown (hown44.slA Q5) rfl (by have := hI.2.2.1; have := hI.2.1; simp; omega) omU ?_
  intro v45 w11 x12 hown
  replace hXL1 := Bel.out hXL1 x12 om2
  refine Rr (QL (v := v45) rfl) (Qc (Qb (Rr Qj (Qc (Qb (Rr (mvI rfl) ?_))))))
  refine Rr (QO rfl rfl (by have := hI.2.1; unfold I64; omega)) ?_
  refine Rr (asI rfl) (Qc ⟨(g.1 ++ [g.2.1], [], g.2.2.1 + 1, v45), ⟨sT, ?_, sT, trivial⟩, oT, ⟨?_, hXL1, ?_⟩, ?_⟩)
  ·first | rfl | exact congrArg str (by rw [one_byte (hI.char hc4).1])
  ·exact hI.sep (by omega) hc4 (Zo hc5)
  ·exact hown
  ·show p.length + 1 - (g.2.2.1 + 1) < p.length + 1 - g.2.2.1; omega
 replace hc3 := dcF hc3
 refine QN (QI (Qf (Qb (Rr (QG (v := g.2.2.2) rfl) (Rr (QG (v := g.2.2.2) rfl) (Rr (o_llenO underlying23 rfl hown) (Rr (Jk rfl rfl) (Rr (QL (v := g.2.2.2) rfl) (Rr (asB rfl) (Qc (Qu ⟨_, QT rfl rfl rfl, ?_⟩)))))))))))
 obtain ⟨e1, e2⟩ := hI.fin hc1 (pre_yes hc2).1 hc3; obtain ⟨a, c, hv, hs⟩ := hown.sl Q5; exact ⟨a, c, g.1, by rw [← e1, ← hv]; rfl, hs.mono (fun g h1 h2 => by omega), e2, hX⟩
theorem rjoin_ok (β : Prop) (w : World) (vl : Value) (l : List Str) (hl : Rd encS 1 (Lt w.heap.size) w vl l) (nl : l.length ≤ 1100000) (ol : ∀ p ∈ l, (fun p => p.length ≤ 1100000) p) (hlen : (joinP l).length ≤ 140737488355328) : Ok Tryz.prog 140 #[vl] w fun v w' => v = str (joinP l) ∧ Ext β w w' := by
 obtain ⟨al, cl, rfl, hl⟩ := hl; have ml := hl.len
 refine Qv 21 func140 rfl rfl rfl ?_
 have hX : Ext β w w := Bel.refl _ _
 refine Qf (Qb (Rr Qj (Qc (Qf (Qf (Qb (Rr (mvS rfl) (Rr (QC underlying23 rfl) (Rr (Zu rfl rfl) (Qc (Qw rfl (fun hc1 => ?_) (fun hc1 => ?_))))))))))))
 ·refine Qf (Qb (Rr Qj (Qc (Qu ⟨_, Qr rfl rfl, ⟨congrArg str ?_, hX⟩⟩))))
  all_goals
   have h : l = [] := by simpa using hc1
   subst h; rfl
 refine Qp (Qf (Qb (Rr Qj (Qc (Qf (Qf (Qb (Rr (mvS rfl) (Rr (QC underlying23 rfl) (Rr QP (Qc (Qt ?_))))))))))))
 have hne : l ≠ [] := by rintro rfl; simp at hc1
 have hjl := joinP_flat l hne
 refine QU (α := Nat) [(3, 3), (5, 5), (11, 19)] (fun k => [(11, .int .i64 (k : Int)), (3, str ((l.take k).flatMap (fun s => 47 :: s)))]) (fun k w' => (k ≤ l.length) ∧ Ext β w w') (fun k => l.length - k) 0 ⟨rfl, rfl, trivial⟩ ⟨Nat.zero_le _, Bel.refl _ _⟩ ?_
 rintro k fb3 w2 ⟨hk, hXL1⟩
 replace hX := hX.ex hXL1
 replace hl := hl.ext hXL1
 refine Qf (Qb (Rr (QM rfl rfl) (Qc (Qf (Qw rfl (fun hc2 => ?_) (fun hc2 => ?_))))))
 ·replace hc2 := dcT hc2; have hr := flat_take (l := l) (k := k) (by omega); have hr2 := flat_len (l := l) (k + 1); rw [hr, hjl] at hr2; simp only [List.length_append, List.length_singleton] at hr2
  refine Qp (Qf (Qt (Qf (Qb (Rr (QW underlying23 sizeOf9 hl rfl rfl omg) (Rr (Zx isAgg9 hl rfl rfl (getElem?_of (by first | omega | assumption)) rfl) ?_))))))
  refine Rr (asT rfl) (Qc (Qb (Rr (mvT rfl) ?_)))
  refine Rr (o_sadd rfl rfl (by rw [List.length_singleton]; omega)) ?_
  refine Rr (mvT rfl) ?_
  refine Rr (o_sadd rfl rfl (by rw [List.length_append, List.length_singleton]; omega)) ?_
  refine Rr (asT rfl) (Qc (Qb (Rr (QO rfl rfl omg) (Rr (mvI rfl) (Qc ⟨k + 1, ⟨sT, ?_, trivial⟩, oT, ⟨?_, hXL1⟩, ?_⟩)))))
  ·exact congrArg str (flat_take (by omega)).symm
  ·show k + 1 ≤ l.length; omega
  ·omega
 replace hc2 := dcF hc2
 refine QN (QI (Qf (Qb (Rr (mvT rfl) (Rr (asT rfl) (Qc (Qu ⟨_, Qr rfl rfl, ⟨congrArg str ?_, hX⟩⟩)))))))
 all_goals (rw [List.take_of_length_le (by omega)]; exact hjl)
