/- Walks: what functions return. -/
import Derived.Test.YtgmpgfokblehdaaGreatDoorPure11
set_option linter.unusedVariables false
set_option linter.unusedSimpArgs false
set_option linter.unnecessarySimpa false
namespace Go.Proofs.YtgmpgfokblehdaaGreatDoor
open Go Go.Lx Go.RowKit Tryz
set_option maxRecDepth 100000
theorem named_ok (β : Prop) (l : Str) (hl : l.length ≤ 4611686018427387904) (w : World) : Ok Tryz.prog 181 #[str l] w fun v w' => v = .bool (namedS l) ∧ Ext β w w' := by
 refine Qv 56 func181 rfl rfl rfl ?_
 have hX : Ext β w w := Bel.refl _ _
 refine Qf (Qb (Rr Qj (Qc (Qf (Qf (Qb (Rr (mvT rfl) (Rr (ZW underlying9 rfl) (Rr (QM rfl rfl) (Rr (mvB rfl) (Qs 3 8 rfl rfl rfl (fun hg => mvT rfl) (Qs 3 8 rfl rfl rfl (fun hg => ZW underlying9 (QK (u := undef) hg)) (Qs 3 8 rfl rfl rfl (fun hg => ZM (QK (u := undef) hg) rfl) (Rr (ZS (u := undef) rfl rfl) (Rr (mvB rfl) (Qs 8 13 rfl rfl rfl (fun hg => mvT rfl) (Qs 8 13 rfl rfl rfl (fun hg => Z9 (QK (u := undef) hg) rfl) (Rr (ZS (u := undef) rfl rfl) (Rr (mvB rfl) (Qs 12 17 rfl rfl rfl (fun hg => mvT rfl) (Qs 12 17 rfl rfl rfl (fun hg => Z9 (QK (u := undef) hg) rfl) (Rr (ZS (u := undef) rfl rfl) (Qc (Qw rfl (fun hc1 => ?_) (fun hc1 => ?_)))))))))))))))))))))))))
 ·first | replace hc1 := dcT hc1 | replace hc1 := Zm hc1 | skip
  refine Qf (Qb (Rr Qj (Qc (Qu ⟨_, Qr rfl rfl, ⟨cvB ?_, hX⟩⟩))))
  all_goals (simp only [namedS]; rw [hc1]; rfl)
 first | replace hc1 := dcF hc1 | replace hc1 := Zo hc1 | skip
 refine Qp (Qf (Qf (Qb (Rr (mvT rfl) (Rr (ZW underlying9 rfl) (Rr QP (Qc (Qt ?_))))))))
 refine QU (α := Nat) [(2, 4), (23, 55)] (fun k => [(23, .int .i64 (k : Int))]) (fun k w' => (k ≤ l.length ∧ (l.take k).all nameB = true) ∧ Ext β w w') (fun k => l.length - k) 0 ⟨rfl, trivial⟩ ⟨⟨by omega, by simp⟩, Bel.refl _ _⟩ ?_
 rintro k fb3 w2 ⟨⟨hk, hall⟩, hXL1⟩
 replace hX := hX.ex hXL1
 refine Qf (Qb (Rr (QM rfl rfl) (Qc (Qf (Qw rfl (fun hc2 => ?_) (fun hc2 => ?_))))))
 ·first | replace hc2 := dcT hc2 | replace hc2 := Zm hc2 | skip
  refine Qp (Qf (Qt (Qf (Qb (Rr (mvI rfl) (Rr (asI rfl) (Qc (Qf (Qb (Rr (mvT rfl) (Rr (mvI rfl) (Rr (Jl underlying9 rfl rfl omg) (Rr (asI rfl) (Qc (Qf (Qb (Rr (mvI rfl) (Rr (QM rfl rfl) (Rr (mvB rfl) (Qs 2 31 rfl rfl rfl (fun hg => mvI rfl) (Qs 2 31 rfl rfl rfl (fun hg => ZM (QK (u := undef) hg) rfl) (Rr (ZS (u := undef) rfl rfl) (Rr (mvB rfl) (Qs 6 35 rfl rfl rfl (fun hg => mvI rfl) (Qs 6 35 rfl rfl rfl (fun hg => QM (QK (u := undef) hg) rfl) (Qs 6 35 rfl rfl rfl (fun hg => QG (v := .bool _) (QK (u := undef) hg)) (ZR 9 38 rfl rfl rfl (fun hg => mvI rfl) (ZR 9 38 rfl rfl rfl (fun hg => ZM (QK (u := undef) hg) rfl) (Qs 6 35 rfl rfl rfl (fun hg => ZS (u := undef) (QK (u := undef) hg) (gand (u := undef) hg)) (Rr (Zt (u := undef) rfl rfl) (Rr (mvB rfl) (Qs 14 43 rfl rfl rfl (fun hg => mvI rfl) (Qs 14 43 rfl rfl rfl (fun hg => Zv (QK (u := undef) hg) rfl) (Rr (Zt (u := undef) rfl rfl) (Rr (mvB rfl) (Qs 18 47 rfl rfl rfl (fun hg => mvI rfl) (Qs 18 47 rfl rfl rfl (fun hg => Zv (QK (u := undef) hg) rfl) (Rr (Zt (u := undef) rfl rfl) (Rr (mvB rfl) (Qs 22 51 rfl rfl rfl (fun hg => mvI rfl) (Qs 22 51 rfl rfl rfl (fun hg => Zv (QK (u := undef) hg) rfl) (Rr (Zt (u := undef) rfl rfl) (Qc (Qw rfl (fun hc3 => ?_) (fun hc3 => ?_)))))))))))))))))))))))))))))))))))))))))))))
  ·first | replace hc3 := dcT hc3 | replace hc3 := Zm hc3 | skip
   refine Qf (Qb (Rr Qj (Qc (Qu ⟨_, Qr rfl rfl, ⟨cvB ?_, hX⟩⟩))))
   all_goals (simp only [namedS]; rw [all_at (k := k) (by omega) (by simp only [nameB]; rw [hc3]; rfl), Bool.and_false])
  first | replace hc3 := dcF hc3 | replace hc3 := Zo hc3 | skip
  refine Qp (Qb (Rr (QO rfl rfl omg) (Rr (mvI rfl) (Qc ⟨k + 1, ⟨sT, trivial⟩, oT, ⟨?_, hXL1⟩, ?_⟩))))
  ·exact ⟨by omega, by rw [YO (by omega), hall]; show (true && nameB _) = true; simp only [nameB]; rw [hc3]; rfl⟩
  ·omega
 first | replace hc2 := dcF hc2 | replace hc2 := Zo hc2 | skip
 refine QN (QI (Qf (Qb (Rr Qj (Qc (Qu ⟨_, Qr rfl rfl, ⟨cvB ?_, hX⟩⟩))))))
 all_goals (simp only [namedS]; rw [hc1, all_end (k := k) (by omega) hall]; rfl)
theorem hasprefix0_ok (β : Prop) (s p : Str) (hs : s.length ≤ 4611686018427387904) (hp : p.length ≤ 4611686018427387904) (w : World) : Ok Tryz.prog 212 #[str s, str p] w fun v w' => v = .bool (hasPre s p) ∧ Ext β w w' := by
 refine Qv 18 func212 rfl rfl rfl ?_
 have hX : Ext β w w := Bel.refl _ _
 refine Qf (Qb (Rr Qj (Qc (Qf (Qb (Rr (mvT rfl) (Rr (ZW underlying9 rfl) (Rr (mvT rfl) (Rr (ZW underlying9 rfl) (Rr (ZU rfl rfl) (Rr (mvB rfl) (Qs 5 10 rfl rfl rfl (fun hg => mvT rfl) (Qs 5 10 rfl rfl rfl (fun hg => mvT rfl) (Qs 5 10 rfl rfl rfl (fun hg => ZW underlying9 (QK (u := undef) hg)) ?_))))))))))))))
 refine Qs 5 10 rfl rfl rfl (fun hg => o_sto underlying9 (QK (u := undef) hg) (QK (u := undef) hg) (by have := dcT (eq_of_beq hg); omega)) ?_
 refine Qs 5 10 rfl rfl rfl (fun hg => mvT rfl) (Qs 5 10 rfl rfl rfl (fun hg => Z9 (QK (u := undef) hg) (QK (u := undef) hg)) (Rr (Zt (u := undef) rfl rfl) (Rr (asB rfl) (Qc (Qu ⟨_, Qr rfl rfl, ⟨cvB ?_, hX⟩⟩)))))
 all_goals (rfl)
theorem hasprefix_ok (β : Prop) (s p : Str) (hs : s.length ≤ 4611686018427387904) (hp : p.length ≤ 4611686018427387904) (w : World) : Ok Tryz.prog 179 #[str s, str p] w fun v w' => v = .bool (hasPre s p) ∧ Ext β w w' := by
 refine Qv 8 func179 rfl rfl rfl ?_
 have hX : Ext β w w := Bel.refl _ _
 refine Qf (Qb (Rr Qj (Qc (Qf (Qb (Rr (mvT rfl) (Rr (mvT rfl) (Qo rfl (QB call212 rfl rfl) (Ok.mono (hasprefix0_ok (β) _ _ hs hp _) ?_)))))))))
 rintro _ w1 ⟨rfl, x2⟩
 replace hX := hX.ex x2
 refine Rr (asB rfl) (Qc (Qu ⟨_, Qr rfl rfl, ⟨cvB ?_, hX⟩⟩))
 all_goals (rfl)
theorem indexbyte_ok (β : Prop) (s : Str) (c : Int) (w : World) : Ok Tryz.prog 263 #[str s, .int .u8 c] w fun v w' => v = .int .i64 (Lib.indexByte s c.toNat.toUInt8) ∧ Ext β w w' := by
 refine Qv 8 func263 rfl rfl rfl ?_
 have hX : Ext β w w := Bel.refl _ _
 refine Qf (Qb (Rr Qj (Qc (Qf (Qb (Rr (mvT rfl) (Rr (mvI rfl) (Rr (o_ext2 rfl rfl (x_index _ _ _)) (Rr (asI rfl) (Qc (Qu ⟨_, Qr rfl rfl, ⟨congrArg (Value.int .i64) ?_, hX⟩⟩)))))))))))
 all_goals (rfl)
theorem count_ok (β : Prop) (s : Str) (hs : s.length ≤ 4611686018427387904) (w : World) : Ok Tryz.prog 242 #[str s, str [47]] w fun v w' => v = .int .i64 (s.count 47 : Nat) ∧ Ext β w w' := by
 refine Qv 34 func242 rfl rfl rfl ?_
 have hX : Ext β w w := Bel.refl _ _
 refine Qf (Qb (Rr Qj (Qc (Qf (Qf (Qb (Rr (mvT rfl) (Rr (ZW underlying9 rfl) (Rr (Zu rfl rfl) (Qc (Qq rfl (Qp (Qf (Qf (Qb (Rr (mvT rfl) (Rr (ZW underlying9 rfl) (Rr (Zu rfl rfl) (Qc (Za rfl (Qf (Qb (Rr (mvT rfl) (Rr (mvT rfl) (Rr (Jl (i := 0) underlying9 rfl rfl omg) (Rr (o_ext2 rfl rfl (x_count _ _ _)) (Rr (asI rfl) (Qc (Qu ⟨_, Qr rfl rfl, ⟨congrArg (Value.int .i64) ?_, hX⟩⟩)))))))))))))))))))))))))))))
 all_goals (rfl)
theorem index0_ok (β : Prop) (s : Str) (c : UInt8) (hs : s.length ≤ 4611686018427387904) (w : World) : Ok Tryz.prog 258 #[str s, str [c]] w fun v w' => v = .int .i64 (Lib.indexByte s c) ∧ Ext β w w' := by
 refine Qv 143 func258 rfl rfl rfl ?_
 have hX : Ext β w w := Bel.refl _ _
 refine Qf (Qb (Rr Qj (Qc (Qf (Qb (Rr (mvT rfl) (Rr (ZW underlying9 rfl) (Rr (asI rfl) (Qc (Qf (Qt (Qf (Qb (Rr (mvI rfl) (Rr (Zu rfl rfl) (Rr (mvB rfl) (Qs 2 19 rfl rfl rfl (fun hg => mvT rfl) (Qs 2 19 rfl rfl rfl (fun hg => mvT rfl) (Qs 2 19 rfl rfl rfl (fun hg => Z9 (QK (u := undef) hg) (QK (u := undef) hg)) (Rr (ZS (u := undef) rfl rfl) (Rr (asB rfl) (Qc (Qw rfl (fun hc1 => ?_) (fun hc1 => ?_))))))))))))))))))))))))
 ·refine Qf (Qb (Rr Qj (Qc (Qu ⟨_, Qr rfl rfl, ⟨congrArg (Value.int .i64) ?_, hX⟩⟩))))
  all_goals (have h : [c] = s := (by simpa using hc1); subst h; simp [Lib.indexByte])
 refine Qf (Qb (Rr (mvI rfl) (Rr (Zu rfl rfl) (Rr (asB rfl) (Qc (Za rfl (Qf (Qb (Rr (mvT rfl) (Rr (mvT rfl) (Rr (Jl (i := 0) underlying9 rfl rfl omg) (Qo rfl (QB call263 rfl rfl) (Ok.mono (indexbyte_ok (β) _ _ _) ?_)))))))))))))
 rintro _ w1 ⟨rfl, x2⟩
 replace hX := hX.ex x2
 refine Rr (asI rfl) (Qc (Qu ⟨_, Qr rfl rfl, ⟨congrArg (Value.int .i64) ?_, hX⟩⟩))
 all_goals (show Lib.indexByte s (c.toNat : Int).toNat.toUInt8 = _; simp)
theorem index_ok (β : Prop) (s : Str) (c : UInt8) (hs : s.length ≤ 4611686018427387904) (w : World) : Ok Tryz.prog 243 #[str s, str [c]] w fun v w' => v = .int .i64 (Lib.indexByte s c) ∧ Ext β w w' := by
 refine Qv 8 func243 rfl rfl rfl ?_
 have hX : Ext β w w := Bel.refl _ _
 refine Qf (Qb (Rr Qj (Qc (Qf (Qb (Rr (mvT rfl) (Rr (mvT rfl) (Qo rfl (QB call258 rfl rfl) (Ok.mono (index0_ok (β) _ _ hs _) ?_)))))))))
 rintro _ w1 ⟨rfl, x2⟩
 replace hX := hX.ex x2
 refine Rr (asI rfl) (Qc (Qu ⟨_, Qr rfl rfl, ⟨congrArg (Value.int .i64) ?_, hX⟩⟩))
 all_goals (rfl)
theorem isnan_ok (β : Prop) (s : Str) (w : World) : Ok Tryz.prog 201 #[str s] w fun v w' => v = .bool false ∧ Ext β w w' := by
 refine Qv 6 func201 rfl rfl rfl ?_
 have hX : Ext β w w := Bel.refl _ _
 refine Qf (Qb (Rr Qj (Qc (Qf (Qb (Rr (mvT rfl) (Rr (mvT rfl) (Rr (o_sneq rfl rfl) (Rr (asB rfl) (Qc (Qu ⟨_, Qr rfl rfl, ⟨cvB ?_, hX⟩⟩)))))))))))
 all_goals (simp)
theorem cmp_ok (β : Prop) (a b : Str) (w : World) : Ok Tryz.prog 154 #[str a, str b] w fun v w' => v = .int .i64 (cmpS a b) ∧ Ext β w w' := by
 refine Qv 20 func154 rfl rfl rfl ?_
 have hX : Ext β w w := Bel.refl _ _
 refine Qf (Qb (Rr Qj (Qc (Qf (Qb (Rr (mvT rfl) (Qo rfl (QD call201 rfl) (Ok.mono (isnan_ok (β) _ _) ?_))))))))
 rintro _ w1 ⟨rfl, x2⟩
 replace hX := hX.ex x2
 refine Rr (asB rfl) (Qc (Qf (Qb (Rr (mvT rfl) (Qo rfl (QD call201 rfl) (Ok.mono (isnan_ok (β) _ _) ?_))))))
 rintro _ w3 ⟨rfl, x4⟩
 replace hX := hX.ex x4
 refine Rr (asB rfl) (Qc (Qf (Qf (Qb (Rr (mvB rfl) (Qc (Qq rfl (Qp (Qf (Qf (Qb (Rr (mvB rfl) (Qc (Qq rfl (Qp (Qf (Qf (Qb (Rr (mvT rfl) (Rr (mvT rfl) (Rr (o_slss rfl rfl) (Qc (Qw rfl (fun hc3 => ?_) (fun hc3 => ?_))))))))))))))))))))))))
 ·refine Qf (Qb (Rr Qj (Qc (Qu ⟨_, Qr rfl rfl, ⟨congrArg (Value.int .i64) ?_, hX⟩⟩))))
  all_goals (simp only [cmpS, hc3, if_true])
 refine Qp (Qf (Qf (Qb (Rr (mvT rfl) (Rr (mvT rfl) (Rr (o_sgtr rfl rfl) (Qc (Qw rfl (fun hc4 => ?_) (fun hc4 => ?_)))))))))
 ·refine Qf (Qb (Rr Qj (Qc (Qu ⟨_, Qr rfl rfl, ⟨congrArg (Value.int .i64) ?_, hX⟩⟩))))
  all_goals (rw [cmpS, if_neg (by simp [hc3]), if_pos hc4])
 refine Qp (Qf (Qb (Rr Qj (Qc (Qu ⟨_, Qr rfl rfl, ⟨congrArg (Value.int .i64) ?_, hX⟩⟩)))))
 all_goals (rw [cmpS, if_neg (by simp [hc3]), if_neg (by rw [hc4]; simp)])
theorem sindex_ok (β : Prop) (a : Option Addr) (c : Nat) (B : Nat → Prop) (l : List Str) (x : Str) (w : World) (hs : Sl encS 1 B w a c l) : Ok Tryz.prog 152 #[.slice a l.length c, str x] w fun v w' => v = .int .i64 (ixOf (fun y => x == y) l) ∧ Ext β w w' := by
 have hlen := hs.len
 refine Qv 19 func152 rfl rfl rfl ?_
 have hX : Ext β w w := Bel.refl _ _
 refine Qf (Qb (Rr Qj (Qc (Qf (Qf (Qb (Rr (mvS rfl) (Rr (QC underlying23 rfl) (Rr QP (Qc (Qt ?_)))))))))))
 refine QU (α := Nat) [(4, 5), (8, 18)] (fun k => [(8, .int .i64 (k : Int))]) (fun k w' => (k ≤ l.length ∧ (l.take k).any (fun y => x == y) = false) ∧ Ext β w w') (fun k => l.length - k) 0 ⟨rfl, trivial⟩ ⟨⟨by omega, by simp⟩, Bel.refl _ _⟩ ?_
 rintro k fb3 w2 ⟨⟨hk, hall⟩, hXL1⟩
 replace hX := hX.ex hXL1
 replace hs := hs.ext hXL1
 refine Qf (Qb (Rr (QM rfl rfl) (Qc (Qf (Qw rfl (fun hc1 => ?_) (fun hc1 => ?_))))))
 ·first | replace hc1 := dcT hc1 | replace hc1 := Zm hc1 | skip
  refine Qp (Qf (Qt (Qf (Qb (Rr (mvI rfl) (Rr (asI rfl) (Qc (Qf (Qb (Rr (mvT rfl) (Rr (mvS rfl) (Rr (mvI rfl) (Rr (QW underlying23 sizeOf9 hs rfl rfl omg) (Rr (Zx isAgg9 hs rfl rfl (getElem?_of (by first | omega | assumption)) rfl) ?_))))))))))))))
  refine Rr (Z9 rfl rfl) (Qc (Qw rfl (fun hc2 => ?_) (fun hc2 => ?_)))
  ·first | replace hc2 := dcT hc2 | replace hc2 := Zm hc2 | skip
   refine Qf (Qb (Rr (mvI rfl) (Rr (asI rfl) (Qc (Qu ⟨_, Qr rfl rfl, ⟨congrArg (Value.int .i64) ?_, hX⟩⟩)))))
   all_goals (exact (YH (by omega) hall hc2).symm)
  first | replace hc2 := dcF hc2 | replace hc2 := Zo hc2 | skip
  refine Qp (Qb (Rr (QO rfl rfl omg) (Rr (mvI rfl) (Qc ⟨k + 1, ⟨sT, trivial⟩, oT, ⟨?_, hXL1⟩, ?_⟩))))
  ·exact ⟨by omega, Jd (by omega) hall hc2⟩
  ·omega
 first | replace hc1 := dcF hc1 | replace hc1 := Zo hc1 | skip
 refine QN (QI (Qf (Qb (Rr Qj (Qc (Qu ⟨_, Qr rfl rfl, ⟨congrArg (Value.int .i64) ?_, hX⟩⟩))))))
 all_goals (exact (Jo (k := k) (by omega) hall).symm)
theorem scontains_ok (β : Prop) (a : Option Addr) (c : Nat) (B : Nat → Prop) (l : List Str) (x : Str) (w : World) (hs : Sl encS 1 B w a c l) : Ok Tryz.prog 89 #[.slice a l.length c, str x] w fun v w' => v = .bool (l.any fun y => x == y) ∧ Ext β w w' := by
 refine Qv 9 func89 rfl rfl rfl ?_
 have hX : Ext β w w := Bel.refl _ _
 refine Qf (Qb (Rr Qj (Qc (Qf (Qb (Rr (mvS rfl) (Rr (mvT rfl) (Qo rfl (QB call152 rfl rfl) (Ok.mono (sindex_ok (β) _ _ _ _ _ _ hs) ?_)))))))))
 rintro _ w1 ⟨rfl, x2⟩
 replace hX := hX.ex x2
 refine Rr (ZU rfl rfl) (Rr (asB rfl) (Qc (Qu ⟨_, Qr rfl rfl, ⟨cvB ?_, hX⟩⟩)))
 all_goals (exact Vr _ _)
theorem gensplit_ok (β : Prop) (s : Str) (hs : s.length ≤ 1100000) (w : World) : Ok Tryz.prog 213 #[str s, str [47], .int .i64 0, .int .i64 (-1)] w fun v w' => ∃ a c, v = .slice a (splitS s).length c ∧ Sl encS 1 (Fsh w w') w' a c (splitS s) ∧ Ext β w w' := by
 have hcnt := List.count_le_length (a := (47 : UInt8)) (l := s)
 refine Qv 66 func213 rfl rfl rfl ?_
 have hX : Ext β w w := Bel.refl _ _
 refine Qf (Qb (Rr Qj (Qc (Qf (Qf (Qb (Rr (mvI rfl) (Rr (Zu rfl rfl) (Qc (Qq rfl (Qp (Qf (Qf (Qb (Rr (mvT rfl) (Rr (Z9 rfl rfl) (Qc (Qq rfl (Qp (Qf (Qf (Qb (Rr (mvI rfl) (Rr (QM rfl rfl) (Qc (Za rfl (Qb (Rr (mvT rfl) (Rr (mvT rfl) (Qo rfl (QB call242 rfl rfl) (Ok.mono (count_ok (β) _ (by omega) _) ?_)))))))))))))))))))))))))))))))
 rintro _ w1 ⟨rfl, x2⟩
 have z3 := x2.size
 replace hX := hX.ex x2
 refine Rr (QO rfl rfl omg) (Rr (asI rfl) (Qc (Qf (Qb (Rr (mvI rfl) (Rr (mvT rfl) (Rr (ZW underlying9 rfl) (Rr (QO rfl rfl omg) ?_))))))))
 refine Rr (o_minL rfl rfl (by have := List.count_le_length (a := (47 : UInt8)) (l := s); omega)) ?_
 refine Rr (asI rfl) (Qc (Qf (Qb (Rr (mvI rfl) ?_))))
 refine Z8 (m := s.count 47 + 1) ([] : Str) rfl Q5 ZC rfl rfl rfl (by have := List.count_le_length (a := (47 : UInt8)) (l := s); omega) ?_
 intro a31 w4 x5 hown31
 have z6 := x5.size
 replace hX := hX.ex x5
 replace hown31 := hown31.mono (D' := fun g => w.heap.size ≤ g) (fun g h1 h2 => by omega)
 refine Rr (asS rfl) (Qc (Qf (Qb (Rr (mvI rfl) (Rr (Yh rfl rfl omg) (Rr (asI rfl) (Qc (Qf (Qb (Rr Qj (Qc (Qf (Qt ?_)))))))))))))
 refine QU (α := List Str × Str) [(0, 0), (10, 11), (34, 57)] (fun p => [(0, str p.2), (10, .int .i64 (p.1.length : Int))]) (fun p w' => (splitS s = p.1 ++ splitS p.2 ∧ p.1.length + p.2.count 47 = s.count 47 ∧ p.2.length ≤ s.length) ∧ Bel β (Ge w.heap.size) w4 w' ∧ (Own encS 1 9 (Ge w.heap.size) w' (.slice a31 (s.count 47 + 1) (s.count 47 + 1)) (p.1 ++ List.replicate (s.count 47 + 1 - p.1.length) []))) (fun p => p.2.count 47) ([], s) ⟨rfl, rfl, trivial⟩ ⟨⟨rfl, by simp, Nat.le_refl _⟩, Bel.refl _ _, (by simpa using hown31)⟩ ?_
 rintro p fb9 w8 ⟨hp, hXL7, hown⟩
 replace hX := Bel.out hX hXL7 om2
 refine Qf (Qf (Qb (Rr (mvI rfl) (Rr (mvI rfl) (Rr (QM rfl rfl) (Qc (Qw rfl (fun hc4 => ?_) (fun hc4 => ?_))))))))
 ·first | replace hc4 := dcT hc4 | replace hc4 := Zm hc4 | skip
  refine Qp (Qt (Qf (Qb (Rr (mvT rfl) (Rr (mvT rfl) (Qo rfl (QB call243 rfl rfl) (Ok.mono (index_ok (β) _ _ (by first | assumption | omega) _) ?_)))))))
  rintro _ w11 ⟨rfl, x12⟩
  replace hX := hX.ex x12
  replace hXL7 := Bel.ex hXL7 x12
  replace hown := hown.ext x12
  refine Rr (asI rfl) (Qc (Qf (Qf (Qb (Rr (mvI rfl) (Rr (QM rfl rfl) (Qc (Qw rfl (fun hc5 => ?_) (fun hc5 => ?_)))))))))
  ·have h0 := split_neg (dcT hc5)
   refine QN (exAt_miss rfl (QI (Qf (Qb (Rr (mvS rfl) (Rr (mvI rfl) (Rr (mvT rfl) ?_)))))))
   refine Rr (ZE (i := p.1.length) underlying23 sizeOf9 hown rfl rfl (by have := hp.2.1; omega)) ?_
   refine ZG (u := p.2) rfl Q5 sizeOf9 rfl rfl rfl hown (by have := hown.capOf; omega) ?_
   intro w14 x15 hown
   replace hX := Bel.out hX x15 om2
   refine Qc (Qf (Qb (Rr (mvS rfl) (Rr (mvI rfl) (Rr (QO rfl rfl omg) ?_)))))
   refine Rr (Jm (j := p.1.length + 1) underlying23 sizeOf9 rfl rfl (by have := hown.capOf; have := hp.2.1; omega)) ?_
   refine Rr (asS rfl) (Qc (Qu ⟨_, Qr rfl rfl, ?_⟩))
   have hlen : p.1.length = s.count 47 := by have := hp.2.1; omega
   rw [app_set p.1 p.2 ([] : Str) (k := 0) (by omega)] at hown
   have hL := hown.cut Q5 (j := p.1.length + 1) (by simp)
   have e : ((p.1 ++ [p.2]) ++ List.replicate 0 []).take (p.1.length + 1) = splitS s := (by rw [hp.1, split_last h0, List.replicate_zero, List.append_nil]; exact List.take_of_length_le (by simp))
   rw [e] at hL
   have h := hL.sl Q5
   exact h.elim fun a h => h.elim fun c h => ⟨a, c, h.1, h.2.mono (fun g h1 h2 => by omega), hX⟩
  obtain ⟨m, hm1, hm2, hm3, hm4⟩ := split_pos (dcF hc5); rw [hm1]
  refine Qp (Qf (Qb (Rr (mvS rfl) (Rr (mvI rfl) (Rr (mvT rfl) (Rr (mvI rfl) (Rr (mvI rfl) ?_)))))))
  refine Rr (QO rfl rfl (by have := hp.2.2; unfold I64; omega)) ?_
  refine Rr (o_sto (j := m) underlying9 rfl rfl (by omega)) ?_
  refine Rr (ZE (i := p.1.length) underlying23 sizeOf9 hown rfl rfl (by have := hp.2.1; omega)) ?_
  refine ZG (u := p.2.take m) rfl Q5 sizeOf9 rfl rfl rfl hown (by have := hown.capOf; omega) ?_
  intro w17 x18 hown
  replace hXL7 := Bel.out hXL7 x18 om2
  refine Qc (Qf (Qb (Rr (mvT rfl) (Rr (mvI rfl) (Rr (mvT rfl) (Rr (ZW underlying9 rfl) ?_))))))
  refine Rr (QO rfl rfl (by have := hp.2.2; unfold I64; simp; omega)) ?_
  refine Rr (o_sfrom (i := m + 1) underlying9 rfl rfl (by omega)) (Rr (asT rfl) (Qc (Qb (Rr (mvI rfl) (Rr (QO rfl rfl omg) (Rr (asI rfl) (Qc ⟨(p.1 ++ [p.2.take m], p.2.drop (m + 1)), ⟨sT, ?_, trivial⟩, oT, ⟨?_, hXL7, ?_⟩, ?_⟩)))))))
  ·show Value.int .i64 _ = Value.int .i64 _; simp
  ·exact ⟨by rw [hp.1, hm3]; simp, by have := hp.2.1; simp; omega, by have := hp.2.2; simp; omega⟩
  ·have e := app_set p.1 (p.2.take m) ([] : Str) (n := s.count 47 + 1 - p.1.length) (k := s.count 47 + 1 - (p.1.length + 1)) (by have := hp.2.1; omega); rw [e] at hown; simpa using hown
  ·show (p.2.drop (m + 1)).count 47 < p.2.count 47; omega
 have h0 : p.2.count 47 = 0 := by have := dcF hc4; have := hp.2.1; omega
 refine QN (QI (Qf (Qb (Rr (mvS rfl) (Rr (mvI rfl) (Rr (mvT rfl) ?_))))))
 refine Rr (ZE (i := p.1.length) underlying23 sizeOf9 hown rfl rfl (by have := hp.2.1; omega)) ?_
 refine ZG (u := p.2) rfl Q5 sizeOf9 rfl rfl rfl hown (by have := hown.capOf; omega) ?_
 intro w20 x21 hown
 replace hX := Bel.out hX x21 om2
 refine Qc (Qf (Qb (Rr (mvS rfl) (Rr (mvI rfl) (Rr (QO rfl rfl omg) ?_)))))
 refine Rr (Jm (j := p.1.length + 1) underlying23 sizeOf9 rfl rfl (by have := hown.capOf; have := hp.2.1; omega)) ?_
 refine Rr (asS rfl) (Qc (Qu ⟨_, Qr rfl rfl, ?_⟩))
 have hlen : p.1.length = s.count 47 := by have := hp.2.1; omega
 rw [app_set p.1 p.2 ([] : Str) (k := 0) (by omega)] at hown
 have hL := hown.cut Q5 (j := p.1.length + 1) (by simp)
 have e : ((p.1 ++ [p.2]) ++ List.replicate 0 []).take (p.1.length + 1) = splitS s := (by rw [hp.1, split_last h0, List.replicate_zero, List.append_nil]; exact List.take_of_length_le (by simp))
 rw [e] at hL
 have h := hL.sl Q5
 exact h.elim fun a h => h.elim fun c h => ⟨a, c, h.1, h.2.mono (fun g h1 h2 => by omega), hX⟩
theorem split0_ok (β : Prop) (s : Str) (hs : s.length ≤ 1100000) (w : World) : Ok Tryz.prog 180 #[str s, str [47]] w fun v w' => ∃ a c, v = .slice a (splitS s).length c ∧ Sl encS 1 (Fsh w w') w' a c (splitS s) ∧ Ext β w w' := by
 refine Qv 8 func180 rfl rfl rfl ?_
 have hX : Ext β w w := Bel.refl _ _
 refine Qf (Qb (Rr Qj (Qc (Qf (Qb (Rr (mvT rfl) (Rr (mvT rfl) (Qo rfl (o_call4 call213 rfl rfl rfl rfl) (Ok.mono (gensplit_ok (β) _ hs _) ?_)))))))))
 rintro _ w1 ⟨a7, c7, rfl, hs7, x2⟩
 replace hX := hX.ex x2
 exact Rr (asS rfl) (Qc (Qu ⟨_, Qr rfl rfl, ⟨_, _, rfl, hs7.mono (fun g h1 h2 => by omega), hX⟩⟩))
theorem JI (β : Prop) (p : Str) (hp : p.length ≤ 1100000) (w : World) : Ok Tryz.prog 119 #[str p] w fun v w' => ∃ a c, v = .tuple #[.slice a (splitL p).length c, .bool (splitOk p)] ∧ Sl encS 1 (Fsh w w') w' a c (splitL p) ∧ Ext β w w' := by
 refine Qv 29 func119 rfl rfl rfl ?_
 have hX : Ext β w w := Bel.refl _ _
 refine Qf (Qb (Rr Qj (Rr Qj (Qc (Qf (Qf (Qb (Rr (mvT rfl) (Rr (Z9 rfl rfl) (Qc (Qw rfl (fun hc1 => ?_) (fun hc1 => ?_))))))))))))
 ·first | replace hc1 := dcT hc1 | replace hc1 := Zm hc1 | skip
  exact Qf (Qb (Rr Qj (Rr Qj (Qc (Qu ⟨_, QT rfl rfl rfl, (split_r hX (Yw hc1))⟩)))))
 first | replace hc1 := dcF hc1 | replace hc1 := Zo hc1 | skip
 refine Qp (Qf (Qf (Qb (Rr (mvT rfl) ?_))))
 refine Qo rfl (QB call179 rfl rfl) (Ok.mono (hasprefix_ok (β) _ _ (by first | assumption | omega | (simp; done) | (simp; omega) | (simp at *; omega)) (by first | assumption | omega | (simp; done) | (simp; omega) | (simp at *; omega)) _) ?_)
 rintro _ w1 ⟨rfl, x2⟩
 have z3 := x2.size
 replace hX := hX.ex x2
 refine Rr (Zp rfl) (Qc (Qw rfl (fun hc2 => ?_) (fun hc2 => ?_)))
 ·first | replace hc2 := dcT hc2 | replace hc2 := Zm hc2 | skip
  exact Qf (Qb (Rr Qj (Rr Qj (Qc (Qu ⟨_, QT rfl rfl rfl, (split_r hX (JQ (Or.inl ⟨hc1, hc2⟩)))⟩)))))
 first | replace hc2 := dcF hc2 | replace hc2 := Zo hc2 | skip
 refine Qp (Qf (Qb (Rr (mvT rfl) ?_)))
 refine Rr (o_sfrom (i := 1) underlying9 rfl rfl (by have := hasPre_len hc2; omega)) ?_
 refine Qo rfl (QB call180 rfl rfl) (Ok.mono (split0_ok (β) _ (by simp; omega) _) ?_)
 rintro _ w4 ⟨a14, c14, rfl, hs14, x5⟩
 have z6 := x5.size
 replace hX := hX.ex x5
 refine Rr (asS rfl) (Qc (Qf (Qf (Qb (Rr (mvS rfl) (Rr (QC underlying23 rfl) (Rr (ZM rfl rfl) (Qc (Qw rfl (fun hc3 => ?_) (fun hc3 => ?_))))))))))
 ·first | replace hc3 := dcT hc3 | replace hc3 := Zm hc3 | skip
  exact Qf (Qb (Rr Qj (Rr Qj (Qc (Qu ⟨_, QT rfl rfl rfl, (split_r hX (JQ (Or.inr ⟨hc1, hc2, Or.inl hc3⟩)))⟩)))))
 first | replace hc3 := dcF hc3 | replace hc3 := Zo hc3 | skip
 refine Qp (Qf (Qf (Qb (Rr (mvS rfl) (Rr (QC underlying23 rfl) (Rr QP (Qc (Qt ?_))))))))
 refine QU (α := Nat) [(2, 3), (6, 6), (20, 27)] (fun k => [(20, .int .i64 (k : Int))]) (fun k w' => (k ≤ (splitS (p.drop 1)).length ∧ ((splitS (p.drop 1)).take k).all namedS = true) ∧ Ext β w4 w') (fun k => (splitS (p.drop 1)).length - k) 0 ⟨rfl, trivial⟩ ⟨⟨by omega, by simp⟩, Bel.refl _ _⟩ ?_
 rintro k fb9 w8 ⟨⟨hk, hall⟩, hXL7⟩
 have z10 := Bel.size hXL7
 replace hX := hX.ex hXL7
 replace hs14 := hs14.ext hXL7
 refine Qf (Qb (Rr (QM rfl rfl) (Qc (Qf (Qw rfl (fun hc4 => ?_) (fun hc4 => ?_))))))
 ·first | replace hc4 := dcT hc4 | replace hc4 := Zm hc4 | skip
  refine Qp (Qf (Qt (Qf (Qb (Rr (QW underlying23 sizeOf9 hs14 rfl rfl omg) (Rr (Zx isAgg9 hs14 rfl rfl (getElem?_of (by first | omega | assumption)) rfl) ?_))))))
  refine Rr (asT rfl) (Qc (Qf (Qb (Rr (mvT rfl) (Qo rfl (QD call181 rfl) (Ok.mono (named_ok (β) _ (splitS_len1 (by omega) hp) _) ?_))))))
  rintro _ w11 ⟨rfl, x12⟩
  have z13 := x12.size
  replace hX := hX.ex x12
  replace hXL7 := Bel.ex hXL7 x12
  refine Rr (Zp rfl) (Qc (Qw rfl (fun hc5 => ?_) (fun hc5 => ?_)))
  ·first | replace hc5 := dcT hc5 | replace hc5 := Zm hc5 | skip
   exact Qf (Qb (Rr Qj (Rr Qj (Qc (Qu ⟨_, QT rfl rfl rfl, (split_r hX (JQ (Or.inr ⟨hc1, hc2, Or.inr (allT_at (by omega) hc5)⟩)))⟩)))))
  first | replace hc5 := dcF hc5 | replace hc5 := Zo hc5 | skip
  refine Qp (Qb (Rr (QO rfl rfl omg) (Rr (mvI rfl) (Qc ⟨k + 1, ⟨sT, trivial⟩, oT, ⟨?_, hXL7⟩, ?_⟩))))
  ·exact ⟨by omega, allT_succ (by omega) hall hc5⟩
  ·omega
 first | replace hc4 := dcF hc4 | replace hc4 := Zo hc4 | skip
 refine QN (QI (Qf (Qb (Rr (mvS rfl) (Rr (asS rfl) (Rr Qj (Qc (Qu ⟨_, QT rfl rfl rfl, ?_⟩))))))))
 have e := splitP_some hc1 hc2 hc3 (all_end (by omega) hall); exact ⟨_, _, by rw [Jy e, Z0 e]; rfl, by rw [Z0 e]; exact hs14.mono (fun g h1 h2 => by omega), hX⟩
theorem J1 (β : Prop) (p : Str) (hp : p.length ≤ 1100000) (w : World) : Ok Tryz.prog 51 #[str p] w fun v w' => v = .bool (splitOk p) ∧ Ext β w w' := by
 refine Qv 11 func51 rfl rfl rfl ?_
 have hX : Ext β w w := Bel.refl _ _
 refine Qf (Qb (Rr Qj (Qc (Qf (Qb (Rr (mvT rfl) ?_))))))
 refine Qo rfl (QD call119 rfl) (Ok.mono (JI (β) _ (by first | assumption | omega | (simp; done) | (simp; omega) | (simp at *; omega)) _) ?_)
 rintro _ w1 ⟨a7, c7, rfl, hs7, x2⟩
 replace hX := hX.ex x2
 refine Rr (QG (v := .tuple _) rfl) (Rr (QE rfl rfl) (Rr (QE rfl rfl) (Rr (asS rfl) (Rr (asB rfl) (Qc (Qf (Qb (Rr (mvB rfl) (Rr (asB rfl) (Qc (Qu ⟨_, Qr rfl rfl, ⟨cvB ?_, hX⟩⟩)))))))))))
 all_goals (rfl)
theorem depth_ok (β : Prop) (p : Str) (hp : p.length ≤ 1100000) (w : World) : Ok Tryz.prog 94 #[str p] w fun v w' => v = .int .i64 (depthS p) ∧ Ext β w w' := by
 refine Qv 14 func94 rfl rfl rfl ?_
 have hX : Ext β w w := Bel.refl _ _
 refine Qf (Qb (Rr Qj (Qc (Qf (Qb (Rr (mvT rfl) ?_))))))
 refine Qo rfl (QD call119 rfl) (Ok.mono (JI (β) _ (by first | assumption | omega | (simp; done) | (simp; omega) | (simp at *; omega)) _) ?_)
 rintro _ w1 ⟨a7, c7, rfl, hs7, x2⟩
 replace hX := hX.ex x2
 refine Rr (QG (v := .tuple _) rfl) (Rr (QE rfl rfl) (Rr (QE rfl rfl) (Rr (asS rfl) (Rr (asB rfl) (Qc (Qf (Qf (Qb (Rr (mvB rfl) (Rr (Zp rfl) (Qc (Qw rfl (fun hc1 => ?_) (fun hc1 => ?_)))))))))))))
 ·first | replace hc1 := dcT hc1 | replace hc1 := Zm hc1 | skip
  refine Qf (Qb (Rr Qj (Qc (Qu ⟨_, Qr rfl rfl, ⟨congrArg (Value.int .i64) ?_, hX⟩⟩))))
  all_goals (rw [depthS, if_neg (by simp [hc1])])
 first | replace hc1 := dcF hc1 | replace hc1 := Zo hc1 | skip
 refine Qp (Qf (Qb (Rr (mvS rfl) (Rr (QC underlying23 rfl) (Rr (asI rfl) (Qc (Qu ⟨_, Qr rfl rfl, ⟨congrArg (Value.int .i64) ?_, hX⟩⟩)))))))
 all_goals (rw [depthS, if_pos hc1])
