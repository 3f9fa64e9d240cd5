/- Walks: what functions return. -/
import Derived.Test.YtjnjalalkbamkaaGreatDoorDrawC
set_option linter.unusedVariables false
set_option linter.unusedSimpArgs false
set_option linter.unnecessarySimpa false
namespace Go.Proofs.YtjnjalalkbamkaaGreatDoor
open Go Go.Lx Go.RowKit Tryz
set_option maxRecDepth 100000
theorem named_ok (β : Prop) (l : Str) (hl : l.length ≤ 4611686018427387904) (w : World) : Ok Tryz.prog 193 #[str l] w fun v w' => v = .bool (namedS l) ∧ Ext β w w' := by
 refine Qz 56 func193 rfl rfl rfl ?_
 have hX : Ext β w w := Bel.refl _ _
 refine Qe (Qc ?_)
 refine Rr Qm ?_
 refine Qd (Qe (Qe (Qc ?_)))
 refine Rr (Ql (v := str _) rfl) ?_
 refine Rr (o_slen underlying9 rfl) ?_
 refine Rr (QQ rfl rfl) ?_
 refine Rr (mvB rfl) ?_
 refine Qq 3 8 rfl rfl rfl (fun hg => (Ql (v := str _) rfl)) ?_
 refine Qq 3 8 rfl rfl rfl (fun hg => (o_slen underlying9 (QE (u := undef) hg))) ?_
 refine Qq 3 8 rfl rfl rfl (fun hg => (o_gtr (QE (u := undef) hg) rfl)) ?_
 refine Rr (o_or (u := undef) rfl rfl) ?_
 refine Rr (mvB rfl) ?_
 refine Qq 8 13 rfl rfl rfl (fun hg => (Ql (v := str _) rfl)) ?_
 refine Qq 8 13 rfl rfl rfl (fun hg => (o_seql (QE (u := undef) hg) rfl)) ?_
 refine Rr (o_or (u := undef) rfl rfl) ?_
 refine Rr (mvB rfl) ?_
 refine Qq 12 17 rfl rfl rfl (fun hg => (Ql (v := str _) rfl)) ?_
 refine Qq 12 17 rfl rfl rfl (fun hg => (o_seql (QE (u := undef) hg) rfl)) ?_
 refine Rr (o_or (u := undef) rfl rfl) ?_
 refine Qd ?_
 refine QD rfl (fun hc1 => ?_) (fun hc1 => ?_)
 ·first | replace hc1 := dcT hc1 | replace hc1 := bnot_t hc1 | skip
  refine Qe (Qc ?_)
  refine Rr Qm ?_
  refine Qd (Qy ?_)
  refine ⟨_, Qp rfl rfl, ?_⟩
  refine ⟨cvB ?_, hX⟩
  all_goals (simp only [namedS]; rw [hc1]; rfl)
 first | replace hc1 := dcF hc1 | replace hc1 := bnot_f hc1 | skip
 refine Qu (Qe (Qe (Qc ?_)))
 refine Rr (Ql (v := str _) rfl) ?_
 refine Rr (o_slen underlying9 rfl) ?_
 refine Rr QT ?_
 refine Qd (QB ?_)
 refine Za (α := Nat) [(2, 4), (23, 55)] (fun k => [(23, .int .i64 (k : Int))]) (fun k w' => (k ≤ l.length ∧ (l.take k).all nameB = true) ∧ Ext β w w') (fun k => l.length - k) 0 ⟨rfl, trivial⟩ ⟨⟨by omega, by simp⟩, Bel.refl _ _⟩ ?_
 rintro k fb3 w2 ⟨⟨hk, hall⟩, hXL1⟩
 replace hX := hX.ex hXL1
 refine Qe (Qc ?_)
 refine Rr (QQ rfl rfl) ?_
 refine Qd (Qe ?_)
 refine QD rfl (fun hc2 => ?_) (fun hc2 => ?_)
 ·first | replace hc2 := dcT hc2 | replace hc2 := bnot_t hc2 | skip
  refine Qu (Qe (QB (Qe (Qc ?_))))
  refine Rr (mvI rfl) ?_
  refine Rr (asI rfl) ?_
  refine Qd (Qe (Qc ?_))
  refine Rr (Ql (v := str _) rfl) ?_
  refine Rr (mvI rfl) ?_
  refine Rr (o_sidx underlying9 rfl rfl omg) ?_
  refine Rr (asI rfl) ?_
  refine Qd (Qe (Qc ?_))
  refine Rr (mvI rfl) ?_
  refine Rr (QQ rfl rfl) ?_
  refine Rr (mvB rfl) ?_
  refine Qq 2 31 rfl rfl rfl (fun hg => (mvI rfl)) ?_
  refine Qq 2 31 rfl rfl rfl (fun hg => (o_gtr (QE (u := undef) hg) rfl)) ?_
  refine Rr (o_or (u := undef) rfl rfl) ?_
  refine Rr (mvB rfl) ?_
  refine Qq 6 35 rfl rfl rfl (fun hg => (mvI rfl)) ?_
  refine Qq 6 35 rfl rfl rfl (fun hg => (QQ (QE (u := undef) hg) rfl)) ?_
  refine Qq 6 35 rfl rfl rfl (fun hg => (Ql (v := .bool _) (QE (u := undef) hg))) ?_
  refine Rg_may2 9 38 rfl rfl rfl (fun hg => (mvI rfl)) ?_
  refine Rg_may2 9 38 rfl rfl rfl (fun hg => (o_gtr (QE (u := undef) hg) rfl)) ?_
  refine Qq 6 35 rfl rfl rfl (fun hg => (o_or (u := undef) (QE (u := undef) hg) (gand (u := undef) hg))) ?_
  refine Rr (o_and (u := undef) rfl rfl) ?_
  refine Rr (mvB rfl) ?_
  refine Qq 14 43 rfl rfl rfl (fun hg => (mvI rfl)) ?_
  refine Qq 14 43 rfl rfl rfl (fun hg => (o_neq (QE (u := undef) hg) rfl)) ?_
  refine Rr (o_and (u := undef) rfl rfl) ?_
  refine Rr (mvB rfl) ?_
  refine Qq 18 47 rfl rfl rfl (fun hg => (mvI rfl)) ?_
  refine Qq 18 47 rfl rfl rfl (fun hg => (o_neq (QE (u := undef) hg) rfl)) ?_
  refine Rr (o_and (u := undef) rfl rfl) ?_
  refine Rr (mvB rfl) ?_
  refine Qq 22 51 rfl rfl rfl (fun hg => (mvI rfl)) ?_
  refine Qq 22 51 rfl rfl rfl (fun hg => (o_neq (QE (u := undef) hg) rfl)) ?_
  refine Rr (o_and (u := undef) rfl rfl) ?_
  refine Qd ?_
  refine QD rfl (fun hc3 => ?_) (fun hc3 => ?_)
  ·first | replace hc3 := dcT hc3 | replace hc3 := bnot_t hc3 | skip
   refine Qe (Qc ?_)
   refine Rr Qm ?_
   refine Qd (Qy ?_)
   refine ⟨_, Qp rfl rfl, ?_⟩
   refine ⟨cvB ?_, hX⟩
   all_goals (simp only [namedS]; rw [all_at (k := k) (by omega) (by simp only [nameB]; rw [hc3]; rfl), Bool.and_false])
  first | replace hc3 := dcF hc3 | replace hc3 := bnot_f hc3 | skip
  refine Qu (Qc ?_)
  refine Rr (Q6 rfl rfl omg) ?_
  refine Rr (mvI rfl) ?_
  refine Qd ?_
  refine ⟨k + 1, ⟨sT, trivial⟩, oT, ⟨?_, hXL1⟩, ?_⟩
  ·exact ⟨by omega, by rw [all_take_succ (by omega), hall]; show (true && nameB _) = true; simp only [nameB]; rw [hc3]; rfl⟩
  ·omega
 first | replace hc2 := dcF hc2 | replace hc2 := bnot_f hc2 | skip
 refine QS (QL (Qe (Qc ?_)))
 refine Rr Qm ?_
 refine Qd (Qy ?_)
 refine ⟨_, Qp rfl rfl, ?_⟩
 refine ⟨cvB ?_, hX⟩
 all_goals (simp only [namedS]; rw [hc1, all_end (k := k) (by omega) hall]; rfl)

theorem hasprefix0_ok (β : Prop) (s p : Str) (hs : s.length ≤ 4611686018427387904) (hp : p.length ≤ 4611686018427387904) (w : World) : Ok Tryz.prog 203 #[str s, str p] w fun v w' => v = .bool (hasPre s p) ∧ Ext β w w' := by
 refine Qz 18 func203 rfl rfl rfl ?_
 have hX : Ext β w w := Bel.refl _ _
 refine Qe (Qc ?_)
 refine Rr Qm ?_
 refine Qd (Qe (Qc ?_))
 refine Rr (Ql (v := str _) rfl) ?_
 refine Rr (o_slen underlying9 rfl) ?_
 refine Rr (Ql (v := str _) rfl) ?_
 refine Rr (o_slen underlying9 rfl) ?_
 refine Rr (o_geq rfl rfl) ?_
 refine Rr (mvB rfl) ?_
 refine Qq 5 10 rfl rfl rfl (fun hg => (Ql (v := str _) rfl)) ?_
 refine Qq 5 10 rfl rfl rfl (fun hg => (Ql (v := str _) rfl)) ?_
 refine Qq 5 10 rfl rfl rfl (fun hg => (o_slen underlying9 (QE (u := undef) hg))) ?_
 refine Qq 5 10 rfl rfl rfl (fun hg => (o_sto underlying9 (QE (u := undef) hg) (QE (u := undef) hg) (by have := dcT (eq_of_beq hg); omega))) ?_
 refine Qq 5 10 rfl rfl rfl (fun hg => (Ql (v := str _) rfl)) ?_
 refine Qq 5 10 rfl rfl rfl (fun hg => (o_seql (QE (u := undef) hg) (QE (u := undef) hg))) ?_
 refine Rr (o_and (u := undef) rfl rfl) ?_
 refine Rr (asB rfl) ?_
 refine Qd (Qy ?_)
 refine ⟨_, Qp rfl rfl, ?_⟩
 refine ⟨cvB ?_, hX⟩
 all_goals (rfl)

theorem hasprefix_ok (β : Prop) (s p : Str) (hs : s.length ≤ 4611686018427387904) (hp : p.length ≤ 4611686018427387904) (w : World) : Ok Tryz.prog 191 #[str s, str p] w fun v w' => v = .bool (hasPre s p) ∧ Ext β w w' := by
 refine Qz 8 func191 rfl rfl rfl ?_
 have hX : Ext β w w := Bel.refl _ _
 refine Qe (Qc ?_)
 refine Rr Qm ?_
 refine Qd (Qe (Qc ?_))
 refine Rr (Ql (v := str _) rfl) ?_
 refine Rr (Ql (v := str _) rfl) ?_
 refine Qo rfl (QM call203 rfl rfl) (Ok.mono (hasprefix0_ok (β) _ _ hs hp _) ?_)
 rintro _ w1 ⟨rfl, x2⟩
 replace hX := hX.ex x2
 refine Rr (asB rfl) ?_
 refine Qd (Qy ?_)
 refine ⟨_, Qp rfl rfl, ?_⟩
 refine ⟨cvB ?_, hX⟩
 all_goals (rfl)

theorem indexbyte_ok (β : Prop) (s : Str) (c : Int) (w : World) : Ok Tryz.prog 216 #[str s, .int .u8 c] w fun v w' => v = .int .i64 (Lib.indexByte s c.toNat.toUInt8) ∧ Ext β w w' := by
 refine Qz 8 func216 rfl rfl rfl ?_
 have hX : Ext β w w := Bel.refl _ _
 refine Qe (Qc ?_)
 refine Rr Qm ?_
 refine Qd (Qe (Qc ?_))
 refine Rr (Ql (v := str _) rfl) ?_
 refine Rr (mvI rfl) ?_
 refine Rr (o_ext2 rfl rfl (x_index _ _ _)) ?_
 refine Rr (asI rfl) ?_
 refine Qd (Qy ?_)
 refine ⟨_, Qp rfl rfl, ?_⟩
 refine ⟨congrArg (Value.int .i64) ?_, hX⟩
 all_goals (rfl)

theorem count_ok (β : Prop) (s : Str) (hs : s.length ≤ 4611686018427387904) (w : World) : Ok Tryz.prog 208 #[str s, str [47]] w fun v w' => v = .int .i64 (s.count 47 : Nat) ∧ Ext β w w' := by
 refine Qz 34 func208 rfl rfl rfl ?_
 have hX : Ext β w w := Bel.refl _ _
 refine Qe (Qc ?_)
 refine Rr Qm ?_
 refine Qd (Qe (Qe (Qc ?_)))
 refine Rr (Ql (v := str _) rfl) ?_
 refine Rr (o_slen underlying9 rfl) ?_
 refine Rr (Q0 rfl rfl) ?_
 refine Qd ?_
 refine Qr rfl ?_
 refine Qu (Qe (Qe (Qc ?_)))
 refine Rr (Ql (v := str _) rfl) ?_
 refine Rr (o_slen underlying9 rfl) ?_
 refine Rr (Q0 rfl rfl) ?_
 refine Qd ?_
 refine Q2 rfl ?_
 refine Qe (Qc ?_)
 refine Rr (Ql (v := str _) rfl) ?_
 refine Rr (Ql (v := str _) rfl) ?_
 refine Rr (o_sidx (i := 0) underlying9 rfl rfl omg) ?_
 refine Rr (o_ext2 rfl rfl (x_count _ _ _)) ?_
 refine Rr (asI rfl) ?_
 refine Qd (Qy ?_)
 refine ⟨_, Qp rfl rfl, ?_⟩
 refine ⟨congrArg (Value.int .i64) ?_, hX⟩
 all_goals (rfl)

theorem index0_ok (β : Prop) (s : Str) (c : UInt8) (hs : s.length ≤ 4611686018427387904) (w : World) : Ok Tryz.prog 214 #[str s, str [c]] w fun v w' => v = .int .i64 (Lib.indexByte s c) ∧ Ext β w w' := by
 refine Qz 143 func214 rfl rfl rfl ?_
 have hX : Ext β w w := Bel.refl _ _
 refine Qe (Qc ?_)
 refine Rr Qm ?_
 refine Qd (Qe (Qc ?_))
 refine Rr (Ql (v := str _) rfl) ?_
 refine Rr (o_slen underlying9 rfl) ?_
 refine Rr (asI rfl) ?_
 refine Qd (Qe (QB (Qe (Qc ?_))))
 refine Rr (mvI rfl) ?_
 refine Rr (Q0 rfl rfl) ?_
 refine Rr (mvB rfl) ?_
 refine Qq 2 19 rfl rfl rfl (fun hg => (Ql (v := str _) rfl)) ?_
 refine Qq 2 19 rfl rfl rfl (fun hg => (Ql (v := str _) rfl)) ?_
 refine Qq 2 19 rfl rfl rfl (fun hg => (o_seql (QE (u := undef) hg) (QE (u := undef) hg))) ?_
 refine Rr (o_or (u := undef) rfl rfl) ?_
 refine Rr (asB rfl) ?_
 refine Qd ?_
 refine QD rfl (fun hc1 => ?_) (fun hc1 => ?_)
 ·refine Qe (Qc ?_)
  refine Rr Qm ?_
  refine Qd (Qy ?_)
  refine ⟨_, Qp rfl rfl, ?_⟩
  refine ⟨congrArg (Value.int .i64) ?_, hX⟩
  all_goals (have h : [c] = s := (by simpa using hc1); subst h; simp [Lib.indexByte])
 refine Qe (Qc ?_)
 refine Rr (mvI rfl) ?_
 refine Rr (Q0 rfl rfl) ?_
 refine Rr (asB rfl) ?_
 refine Qd ?_
 refine Q2 rfl ?_
 refine Qe (Qc ?_)
 refine Rr (Ql (v := str _) rfl) ?_
 refine Rr (Ql (v := str _) rfl) ?_
 refine Rr (o_sidx (i := 0) underlying9 rfl rfl omg) ?_
 refine Qo rfl (QM call216 rfl rfl) (Ok.mono (indexbyte_ok (β) _ _ _) ?_)
 rintro _ w1 ⟨rfl, x2⟩
 replace hX := hX.ex x2
 refine Rr (asI rfl) ?_
 refine Qd (Qy ?_)
 refine ⟨_, Qp rfl rfl, ?_⟩
 refine ⟨congrArg (Value.int .i64) ?_, hX⟩
 all_goals (show Lib.indexByte s (c.toNat : Int).toNat.toUInt8 = _; simp)

theorem index_ok (β : Prop) (s : Str) (c : UInt8) (hs : s.length ≤ 4611686018427387904) (w : World) : Ok Tryz.prog 209 #[str s, str [c]] w fun v w' => v = .int .i64 (Lib.indexByte s c) ∧ Ext β w w' := by
 refine Qz 8 func209 rfl rfl rfl ?_
 have hX : Ext β w w := Bel.refl _ _
 refine Qe (Qc ?_)
 refine Rr Qm ?_
 refine Qd (Qe (Qc ?_))
 refine Rr (Ql (v := str _) rfl) ?_
 refine Rr (Ql (v := str _) rfl) ?_
 refine Qo rfl (QM call214 rfl rfl) (Ok.mono (index0_ok (β) _ _ hs _) ?_)
 rintro _ w1 ⟨rfl, x2⟩
 replace hX := hX.ex x2
 refine Rr (asI rfl) ?_
 refine Qd (Qy ?_)
 refine ⟨_, Qp rfl rfl, ?_⟩
 refine ⟨congrArg (Value.int .i64) ?_, hX⟩
 all_goals (rfl)

theorem isnan_ok (β : Prop) (s : Str) (w : World) : Ok Tryz.prog 195 #[str s] w fun v w' => v = .bool false ∧ Ext β w w' := by
 refine Qz 6 func195 rfl rfl rfl ?_
 have hX : Ext β w w := Bel.refl _ _
 refine Qe (Qc ?_)
 refine Rr Qm ?_
 refine Qd (Qe (Qc ?_))
 refine Rr (Ql (v := str _) rfl) ?_
 refine Rr (Ql (v := str _) rfl) ?_
 refine Rr (o_sneq rfl rfl) ?_
 refine Rr (asB rfl) ?_
 refine Qd (Qy ?_)
 refine ⟨_, Qp rfl rfl, ?_⟩
 refine ⟨cvB ?_, hX⟩
 all_goals (simp)

theorem cmp_ok (β : Prop) (a b : Str) (w : World) : Ok Tryz.prog 176 #[str a, str b] w fun v w' => v = .int .i64 (cmpS a b) ∧ Ext β w w' := by
 refine Qz 20 func176 rfl rfl rfl ?_
 have hX : Ext β w w := Bel.refl _ _
 refine Qe (Qc ?_)
 refine Rr Qm ?_
 refine Qd (Qe (Qc ?_))
 refine Rr (Ql (v := str _) rfl) ?_
 refine Qo rfl (QA call195 rfl) (Ok.mono (isnan_ok (β) _ _) ?_)
 rintro _ w1 ⟨rfl, x2⟩
 replace hX := hX.ex x2
 refine Rr (asB rfl) ?_
 refine Qd (Qe (Qc ?_))
 refine Rr (Ql (v := str _) rfl) ?_
 refine Qo rfl (QA call195 rfl) (Ok.mono (isnan_ok (β) _ _) ?_)
 rintro _ w3 ⟨rfl, x4⟩
 replace hX := hX.ex x4
 refine Rr (asB rfl) ?_
 refine Qd (Qe (Qe (Qc ?_)))
 refine Rr (mvB rfl) ?_
 refine Qd ?_
 refine Qr rfl ?_
 refine Qu (Qe (Qe (Qc ?_)))
 refine Rr (mvB rfl) ?_
 refine Qd ?_
 refine Qr rfl ?_
 refine Qu (Qe (Qe (Qc ?_)))
 refine Rr (Ql (v := str _) rfl) ?_
 refine Rr (Ql (v := str _) rfl) ?_
 refine Rr (o_slss rfl rfl) ?_
 refine Qd ?_
 refine QD rfl (fun hc3 => ?_) (fun hc3 => ?_)
 ·refine Qe (Qc ?_)
  refine Rr Qm ?_
  refine Qd (Qy ?_)
  refine ⟨_, Qp rfl rfl, ?_⟩
  refine ⟨congrArg (Value.int .i64) ?_, hX⟩
  all_goals (simp only [cmpS, hc3, if_true])
 refine Qu (Qe (Qe (Qc ?_)))
 refine Rr (Ql (v := str _) rfl) ?_
 refine Rr (Ql (v := str _) rfl) ?_
 refine Rr (o_sgtr rfl rfl) ?_
 refine Qd ?_
 refine QD rfl (fun hc4 => ?_) (fun hc4 => ?_)
 ·refine Qe (Qc ?_)
  refine Rr Qm ?_
  refine Qd (Qy ?_)
  refine ⟨_, Qp rfl rfl, ?_⟩
  refine ⟨congrArg (Value.int .i64) ?_, hX⟩
  all_goals (rw [cmpS, if_neg (by simp [hc3]), if_pos hc4])
 refine Qu (Qe (Qc ?_))
 refine Rr Qm ?_
 refine Qd (Qy ?_)
 refine ⟨_, Qp rfl rfl, ?_⟩
 refine ⟨congrArg (Value.int .i64) ?_, hX⟩
 all_goals (rw [cmpS, if_neg (by simp [hc3]), if_neg (by rw [hc4]; simp)])

theorem sindex_ok (β : Prop) (a : Option Addr) (c : Nat) (B : Nat → Prop) (l : List Str) (x : Str) (w : World) (hs : Sl encS 1 B w a c l) : Ok Tryz.prog 161 #[.slice a l.length c, str x] w fun v w' => v = .int .i64 (ixOf (fun y => x == y) l) ∧ Ext β w w' := by
 have hlen := hs.len
 refine Qz 19 func161 rfl rfl rfl ?_
 have hX : Ext β w w := Bel.refl _ _
 refine Qe (Qc ?_)
 refine Rr Qm ?_
 refine Qd (Qe (Qe (Qc ?_)))
 refine Rr (mvS rfl) ?_
 refine Rr (QK underlying96 rfl) ?_
 refine Rr QT ?_
 refine Qd (QB ?_)
 refine Za (α := Nat) [(4, 5), (8, 18)] (fun k => [(8, .int .i64 (k : Int))]) (fun k w' => (k ≤ l.length ∧ (l.take k).any (fun y => x == y) = false) ∧ Ext β w w') (fun k => l.length - k) 0 ⟨rfl, trivial⟩ ⟨⟨by omega, by simp⟩, Bel.refl _ _⟩ ?_
 rintro k fb3 w2 ⟨⟨hk, hall⟩, hXL1⟩
 replace hX := hX.ex hXL1
 replace hs := hs.ext hXL1
 refine Qe (Qc ?_)
 refine Rr (QQ rfl rfl) ?_
 refine Qd (Qe ?_)
 refine QD rfl (fun hc1 => ?_) (fun hc1 => ?_)
 ·first | replace hc1 := dcT hc1 | replace hc1 := bnot_t hc1 | skip
  refine Qu (Qe (QB (Qe (Qc ?_))))
  refine Rr (mvI rfl) ?_
  refine Rr (asI rfl) ?_
  refine Qd (Qe (Qc ?_))
  refine Rr (Ql (v := str _) rfl) ?_
  refine Rr (mvS rfl) ?_
  refine Rr (mvI rfl) ?_
  refine Rr (Zg underlying96 sizeOf9 hs rfl rfl omg) ?_
  refine Rr (o_ldR isAgg9 hs rfl rfl (getElem?_of (by first | omega | assumption)) rfl) ?_
  refine Rr (o_seql rfl rfl) ?_
  refine Qd ?_
  refine QD rfl (fun hc2 => ?_) (fun hc2 => ?_)
  ·first | replace hc2 := dcT hc2 | replace hc2 := bnot_t hc2 | skip
   refine Qe (Qc ?_)
   refine Rr (mvI rfl) ?_
   refine Rr (asI rfl) ?_
   refine Qd (Qy ?_)
   refine ⟨_, Qp rfl rfl, ?_⟩
   refine ⟨congrArg (Value.int .i64) ?_, hX⟩
   all_goals (exact (ixOf_at (by omega) hall hc2).symm)
  first | replace hc2 := dcF hc2 | replace hc2 := bnot_f hc2 | skip
  refine Qu (Qc ?_)
  refine Rr (Q6 rfl rfl omg) ?_
  refine Rr (mvI rfl) ?_
  refine Qd ?_
  refine ⟨k + 1, ⟨sT, trivial⟩, oT, ⟨?_, hXL1⟩, ?_⟩
  ·exact ⟨by omega, anyT_succ (by omega) hall hc2⟩
  ·omega
 first | replace hc1 := dcF hc1 | replace hc1 := bnot_f hc1 | skip
 refine QS (QL (Qe (Qc ?_)))
 refine Rr Qm ?_
 refine Qd (Qy ?_)
 refine ⟨_, Qp rfl rfl, ?_⟩
 refine ⟨congrArg (Value.int .i64) ?_, hX⟩
 all_goals (exact (ixOf_none (k := k) (by omega) hall).symm)

theorem scontains_ok (β : Prop) (a : Option Addr) (c : Nat) (B : Nat → Prop) (l : List Str) (x : Str) (w : World) (hs : Sl encS 1 B w a c l) : Ok Tryz.prog 128 #[.slice a l.length c, str x] w fun v w' => v = .bool (l.any fun y => x == y) ∧ Ext β w w' := by
 refine Qz 9 func128 rfl rfl rfl ?_
 have hX : Ext β w w := Bel.refl _ _
 refine Qe (Qc ?_)
 refine Rr Qm ?_
 refine Qd (Qe (Qc ?_))
 refine Rr (mvS rfl) ?_
 refine Rr (Ql (v := str _) rfl) ?_
 refine Qo rfl (QM call161 rfl rfl) (Ok.mono (sindex_ok (β) _ _ _ _ _ _ hs) ?_)
 rintro _ w1 ⟨rfl, x2⟩
 replace hX := hX.ex x2
 refine Rr (o_geq rfl rfl) ?_
 refine Rr (asB rfl) ?_
 refine Qd (Qy ?_)
 refine ⟨_, Qp rfl rfl, ?_⟩
 refine ⟨cvB ?_, hX⟩
 all_goals (exact ixOf_ge _ _)

theorem gensplit_ok (β : Prop) (s : Str) (hs : s.length ≤ 1000000) (w : World) : Ok Tryz.prog 204 #[str s, str [47], .int .i64 0, .int .i64 (-1)] w fun v w' => ∃ a c, v = .slice a (splitS s).length c ∧ Sl encS 1 (Fsh w w') w' a c (splitS s) ∧ Ext β w w' := by
 have hcnt := List.count_le_length (a := (47 : UInt8)) (l := s)
 refine Qz 66 func204 rfl rfl rfl ?_
 have hX : Ext β w w := Bel.refl _ _
 refine Qe (Qc ?_)
 refine Rr Qm ?_
 refine Qd (Qe (Qe (Qc ?_)))
 refine Rr (mvI rfl) ?_
 refine Rr (Q0 rfl rfl) ?_
 refine Qd ?_
 refine Qr rfl ?_
 refine Qu (Qe (Qe (Qc ?_)))
 refine Rr (Ql (v := str _) rfl) ?_
 refine Rr (o_seql rfl rfl) ?_
 refine Qd ?_
 refine Qr rfl ?_
 refine Qu (Qe (Qe (Qc ?_)))
 refine Rr (mvI rfl) ?_
 refine Rr (QQ rfl rfl) ?_
 refine Qd ?_
 refine Q2 rfl ?_
 refine Qc ?_
 refine Rr (Ql (v := str _) rfl) ?_
 refine Rr (Ql (v := str _) rfl) ?_
 refine Qo rfl (QM call208 rfl rfl) (Ok.mono (count_ok (β) _ (by omega) _) ?_)
 rintro _ w1 ⟨rfl, x2⟩
 have z3 := x2.size
 replace hX := hX.ex x2
 refine Rr (Q6 rfl rfl omg) ?_
 refine Rr (asI rfl) ?_
 refine Qd (Qe (Qc ?_))
 refine Rr (mvI rfl) ?_
 refine Rr (Ql (v := str _) rfl) ?_
 refine Rr (o_slen underlying9 rfl) ?_
 refine Rr (Q6 rfl rfl omg) ?_
 refine Rr (o_minL rfl rfl (by have := List.count_le_length (a := (47 : UInt8)) (l := s); omega)) ?_
 refine Rr (asI rfl) ?_
 refine Qd (Qe (Qc ?_))
 refine Rr (mvI rfl) ?_
 refine Rg_make (m := s.count 47 + 1) ([] : Str) rfl encS_ok el_string rfl rfl rfl (by have := List.count_le_length (a := (47 : UInt8)) (l := s); omega) ?_
 intro a31 w4 x5 hown31
 have z6 := x5.size
 replace hX := hX.ex x5
 replace hown31 := hown31.mono (D' := fun g => w.heap.size ≤ g) (fun g h1 h2 => by omega)
 refine Rr (asS rfl) ?_
 refine Qd (Qe (Qc ?_))
 refine Rr (mvI rfl) ?_
 refine Rr (o_sub rfl rfl omg) ?_
 refine Rr (asI rfl) ?_
 refine Qd (Qe (Qc ?_))
 refine Rr Qm ?_
 refine Qd (Qe (QB ?_))
 refine Za (α := List Str × Str) [(0, 0), (10, 11), (34, 57)] (fun p => [(0, str p.2), (10, .int .i64 (p.1.length : Int))]) (fun p w' => (splitS s = p.1 ++ splitS p.2 ∧ p.1.length + p.2.count 47 = s.count 47 ∧ p.2.length ≤ s.length) ∧ Bel β (Ge w.heap.size) w4 w' ∧ (Own encS 1 9 (Ge w.heap.size) w' (.slice a31 (s.count 47 + 1) (s.count 47 + 1)) (p.1 ++ List.replicate (s.count 47 + 1 - p.1.length) []))) (fun p => p.2.count 47) ([], s) ⟨rfl, rfl, trivial⟩ ⟨⟨rfl, by simp, Nat.le_refl _⟩, Bel.refl _ _, (by simpa using hown31)⟩ ?_
 rintro p fb9 w8 ⟨hp, hXL7, hown⟩
 have z10 := Bel.size hXL7
 replace hX := Bel.out hX hXL7 om2
 refine Qe (Qe (Qc ?_))
 refine Rr (mvI rfl) ?_
 refine Rr (mvI rfl) ?_
 refine Rr (QQ rfl rfl) ?_
 refine Qd ?_
 refine QD rfl (fun hc4 => ?_) (fun hc4 => ?_)
 ·first | replace hc4 := dcT hc4 | replace hc4 := bnot_t hc4 | skip
  refine Qu (QB (Qe (Qc ?_)))
  refine Rr (Ql (v := str _) rfl) ?_
  refine Rr (Ql (v := str _) rfl) ?_
  refine Qo rfl (QM call209 rfl rfl) (Ok.mono (index_ok (β) _ _ (by first | assumption | omega) _) ?_)
  rintro _ w11 ⟨rfl, x12⟩
  have z13 := x12.size
  replace hX := hX.ex x12
  replace hXL7 := Bel.ex hXL7 x12
  replace hown := hown.ext x12
  refine Rr (asI rfl) ?_
  refine Qd (Qe (Qe (Qc ?_)))
  refine Rr (mvI rfl) ?_
  refine Rr (QQ rfl rfl) ?_
  refine Qd ?_
  refine QD rfl (fun hc5 => ?_) (fun hc5 => ?_)
  ·have h0 := split_neg (dcT hc5)
   refine QS (exAt_miss rfl (QL (Qe (Qc ?_))))
   refine Rr (mvS rfl) ?_
   refine Rr (mvI rfl) ?_
   refine Rr (Ql (v := str _) rfl) ?_
   refine Rr (Zf (i := p.1.length) underlying96 sizeOf9 hown rfl rfl (by have := hp.2.1; omega)) ?_
   refine Rg_elst (u := p.2) rfl encS_ok sizeOf9 rfl rfl rfl hown (by have := hown.capOf; omega) ?_
   intro w14 x15 hown
   have z16 := x15.size
   replace hX := Bel.out hX x15 om2
   refine Qd (Qe (Qc ?_))
   refine Rr (mvS rfl) ?_
   refine Rr (mvI rfl) ?_
   refine Rr (Q6 rfl rfl omg) ?_
   refine Rr (o_slto (j := p.1.length + 1) underlying96 sizeOf9 rfl rfl (by have := hown.capOf; have := hp.2.1; omega)) ?_
   refine Rr (asS rfl) ?_
   refine Qd (Qy ?_)
   refine ⟨_, Qp rfl rfl, ?_⟩
   have hlen : p.1.length = s.count 47 := by have := hp.2.1; omega
   rw [app_set p.1 p.2 ([] : Str) (k := 0) (by omega)] at hown
   have hL := hown.cut encS_ok (j := p.1.length + 1) (by simp)
   have e : ((p.1 ++ [p.2]) ++ List.replicate 0 []).take (p.1.length + 1) = splitS s := (by rw [hp.1, split_last h0, List.replicate_zero, List.append_nil]; exact List.take_of_length_le (by simp))
   rw [e] at hL
   have h := hL.sl encS_ok
   exact h.elim fun a h => h.elim fun c h => ⟨a, c, h.1, h.2.mono (fun g h1 h2 => by omega), hX⟩
  obtain ⟨m, hm1, hm2, hm3, hm4⟩ := split_pos (dcF hc5); rw [hm1]
  refine Qu (Qe (Qc ?_))
  refine Rr (mvS rfl) ?_
  refine Rr (mvI rfl) ?_
  refine Rr (Ql (v := str _) rfl) ?_
  refine Rr (mvI rfl) ?_
  refine Rr (mvI rfl) ?_
  refine Rr (Q6 rfl rfl (by have := hp.2.2; unfold I64; omega)) ?_
  refine Rr (o_sto (j := m) underlying9 rfl rfl (by omega)) ?_
  refine Rr (Zf (i := p.1.length) underlying96 sizeOf9 hown rfl rfl (by have := hp.2.1; omega)) ?_
  refine Rg_elst (u := p.2.take m) rfl encS_ok sizeOf9 rfl rfl rfl hown (by have := hown.capOf; omega) ?_
  intro w17 x18 hown
  have z19 := x18.size
  replace hX := Bel.out hX x18 om2
  replace hXL7 := Bel.out hXL7 x18 om2
  refine Qd (Qe (Qc ?_))
  refine Rr (Ql (v := str _) rfl) ?_
  refine Rr (mvI rfl) ?_
  refine Rr (Ql (v := str _) rfl) ?_
  refine Rr (o_slen underlying9 rfl) ?_
  refine Rr (Q6 rfl rfl (by have := hp.2.2; unfold I64; simp; omega)) ?_
  refine Rr (o_sfrom (i := m + 1) underlying9 rfl rfl (by omega)) ?_
  refine Rr (Qv (v := str _) rfl) ?_
  refine Qd (Qc ?_)
  refine Rr (mvI rfl) ?_
  refine Rr (Q6 rfl rfl omg) ?_
  refine Rr (asI rfl) ?_
  refine Qd ?_
  refine ⟨(p.1 ++ [p.2.take m], p.2.drop (m + 1)), ⟨sT, ?_, trivial⟩, oT, ⟨?_, hXL7, ?_⟩, ?_⟩
  ·show Value.int .i64 _ = Value.int .i64 _; simp
  ·exact ⟨by rw [hp.1, hm3]; simp, by have := hp.2.1; simp; omega, by have := hp.2.2; simp; omega⟩
  ·have e := app_set p.1 (p.2.take m) ([] : Str) (n := s.count 47 + 1 - p.1.length) (k := s.count 47 + 1 - (p.1.length + 1)) (by have := hp.2.1; omega); rw [e] at hown; simpa using hown
  ·show (p.2.drop (m + 1)).count 47 < p.2.count 47; omega
 have h0 : p.2.count 47 = 0 := by have := dcF hc4; have := hp.2.1; omega
 refine QS (QL (Qe (Qc ?_)))
 refine Rr (mvS rfl) ?_
 refine Rr (mvI rfl) ?_
 refine Rr (Ql (v := str _) rfl) ?_
 refine Rr (Zf (i := p.1.length) underlying96 sizeOf9 hown rfl rfl (by have := hp.2.1; omega)) ?_
 refine Rg_elst (u := p.2) rfl encS_ok sizeOf9 rfl rfl rfl hown (by have := hown.capOf; omega) ?_
 intro w20 x21 hown
 have z22 := x21.size
 replace hX := Bel.out hX x21 om2
 refine Qd (Qe (Qc ?_))
 refine Rr (mvS rfl) ?_
 refine Rr (mvI rfl) ?_
 refine Rr (Q6 rfl rfl omg) ?_
 refine Rr (o_slto (j := p.1.length + 1) underlying96 sizeOf9 rfl rfl (by have := hown.capOf; have := hp.2.1; omega)) ?_
 refine Rr (asS rfl) ?_
 refine Qd (Qy ?_)
 refine ⟨_, Qp rfl rfl, ?_⟩
 have hlen : p.1.length = s.count 47 := by have := hp.2.1; omega
 rw [app_set p.1 p.2 ([] : Str) (k := 0) (by omega)] at hown
 have hL := hown.cut encS_ok (j := p.1.length + 1) (by simp)
 have e : ((p.1 ++ [p.2]) ++ List.replicate 0 []).take (p.1.length + 1) = splitS s := (by rw [hp.1, split_last h0, List.replicate_zero, List.append_nil]; exact List.take_of_length_le (by simp))
 rw [e] at hL
 have h := hL.sl encS_ok
 exact h.elim fun a h => h.elim fun c h => ⟨a, c, h.1, h.2.mono (fun g h1 h2 => by omega), hX⟩

theorem split0_ok (β : Prop) (s : Str) (hs : s.length ≤ 1000000) (w : World) : Ok Tryz.prog 192 #[str s, str [47]] w fun v w' => ∃ a c, v = .slice a (splitS s).length c ∧ Sl encS 1 (Fsh w w') w' a c (splitS s) ∧ Ext β w w' := by
 refine Qz 8 func192 rfl rfl rfl ?_
 have hX : Ext β w w := Bel.refl _ _
 refine Qe (Qc ?_)
 refine Rr Qm ?_
 refine Qd (Qe (Qc ?_))
 refine Rr (Ql (v := str _) rfl) ?_
 refine Rr (Ql (v := str _) rfl) ?_
 refine Qo rfl (o_call4 call204 rfl rfl rfl rfl) (Ok.mono (gensplit_ok (β) _ hs _) ?_)
 rintro _ w1 ⟨a7, c7, rfl, hs7, x2⟩
 have z3 := x2.size
 replace hX := hX.ex x2
 refine Rr (asS rfl) ?_
 refine Qd (Qy ?_)
 refine ⟨_, Qp rfl rfl, ?_⟩
 exact ⟨_, _, rfl, hs7.mono (fun g h1 h2 => by omega), hX⟩

theorem split_ok (β : Prop) (p : Str) (hp : p.length ≤ 1000000) (w : World) : Ok Tryz.prog 170 #[str p] w fun v w' => ∃ a c, v = .tuple #[.slice a (splitL p).length c, .bool (splitOk p)] ∧ Sl encS 1 (Fsh w w') w' a c (splitL p) ∧ Ext β w w' := by
 refine Qz 29 func170 rfl rfl rfl ?_
 have hX : Ext β w w := Bel.refl _ _
 refine Qe (Qc ?_)
 refine Rr Qm ?_
 refine Rr Qm ?_
 refine Qd (Qe (Qe (Qc ?_)))
 refine Rr (Ql (v := str _) rfl) ?_
 refine Rr (o_seql rfl rfl) ?_
 refine Qd ?_
 refine QD rfl (fun hc1 => ?_) (fun hc1 => ?_)
 ·first | replace hc1 := dcT hc1 | replace hc1 := bnot_t hc1 | skip
  refine Qe (Qc ?_)
  refine Rr Qm ?_
  refine Rr Qm ?_
  refine Qd (Qy ?_)
  refine ⟨_, res_tmp2 rfl rfl rfl, ?_⟩
  exact split_r hX (splitP_root hc1)
 first | replace hc1 := dcF hc1 | replace hc1 := bnot_f hc1 | skip
 refine Qu (Qe (Qe (Qc ?_)))
 refine Rr (Ql (v := str _) rfl) ?_
 refine Qo rfl (QM call191 rfl rfl) (Ok.mono (hasprefix_ok (β) _ _ (by first | assumption | omega | (simp; done) | (simp; omega) | (simp at *; omega)) (by first | assumption | omega | (simp; done) | (simp; omega) | (simp at *; omega)) _) ?_)
 rintro _ w1 ⟨rfl, x2⟩
 have z3 := x2.size
 replace hX := hX.ex x2
 refine Rr (Q5 rfl) ?_
 refine Qd ?_
 refine QD rfl (fun hc2 => ?_) (fun hc2 => ?_)
 ·first | replace hc2 := dcT hc2 | replace hc2 := bnot_t hc2 | skip
  refine Qe (Qc ?_)
  refine Rr Qm ?_
  refine Rr Qm ?_
  refine Qd (Qy ?_)
  refine ⟨_, res_tmp2 rfl rfl rfl, ?_⟩
  exact split_r hX (splitP_none (Or.inl ⟨hc1, hc2⟩))
 first | replace hc2 := dcF hc2 | replace hc2 := bnot_f hc2 | skip
 refine Qu (Qe (Qc ?_))
 refine Rr (Ql (v := str _) rfl) ?_
 refine Rr (o_sfrom (i := 1) underlying9 rfl rfl (by have := hasPre_len hc2; omega)) ?_
 refine Qo rfl (QM call192 rfl rfl) (Ok.mono (split0_ok (β) _ (by simp; omega) _) ?_)
 rintro _ w4 ⟨a14, c14, rfl, hs14, x5⟩
 have z6 := x5.size
 replace hX := hX.ex x5
 refine Rr (asS rfl) ?_
 refine Qd (Qe (Qe (Qc ?_)))
 refine Rr (mvS rfl) ?_
 refine Rr (QK underlying96 rfl) ?_
 refine Rr (o_gtr rfl rfl) ?_
 refine Qd ?_
 refine QD rfl (fun hc3 => ?_) (fun hc3 => ?_)
 ·first | replace hc3 := dcT hc3 | replace hc3 := bnot_t hc3 | skip
  refine Qe (Qc ?_)
  refine Rr Qm ?_
  refine Rr Qm ?_
  refine Qd (Qy ?_)
  refine ⟨_, res_tmp2 rfl rfl rfl, ?_⟩
  exact split_r hX (splitP_none (Or.inr ⟨hc1, hc2, Or.inl hc3⟩))
 first | replace hc3 := dcF hc3 | replace hc3 := bnot_f hc3 | skip
 refine Qu (Qe (Qe (Qc ?_)))
 refine Rr (mvS rfl) ?_
 refine Rr (QK underlying96 rfl) ?_
 refine Rr QT ?_
 refine Qd (QB ?_)
 refine Za (α := Nat) [(2, 3), (6, 6), (20, 27)] (fun k => [(20, .int .i64 (k : Int))]) (fun k w' => (k ≤ (splitS (p.drop 1)).length ∧ ((splitS (p.drop 1)).take k).all namedS = true) ∧ Ext β w4 w') (fun k => (splitS (p.drop 1)).length - k) 0 ⟨rfl, trivial⟩ ⟨⟨by omega, by simp⟩, Bel.refl _ _⟩ ?_
 rintro k fb9 w8 ⟨⟨hk, hall⟩, hXL7⟩
 have z10 := Bel.size hXL7
 replace hX := hX.ex hXL7
 replace hs14 := hs14.ext hXL7
 refine Qe (Qc ?_)
 refine Rr (QQ rfl rfl) ?_
 refine Qd (Qe ?_)
 refine QD rfl (fun hc4 => ?_) (fun hc4 => ?_)
 ·first | replace hc4 := dcT hc4 | replace hc4 := bnot_t hc4 | skip
  refine Qu (Qe (QB (Qe (Qc ?_))))
  refine Rr (Zg underlying96 sizeOf9 hs14 rfl rfl omg) ?_
  refine Rr (o_ldR isAgg9 hs14 rfl rfl (getElem?_of (by first | omega | assumption)) rfl) ?_
  refine Rr (Qv (v := str _) rfl) ?_
  refine Qd (Qe (Qc ?_))
  refine Rr (Ql (v := str _) rfl) ?_
  refine Qo rfl (QA call193 rfl) (Ok.mono (named_ok (β) _ (splitS_len1 (by omega) hp) _) ?_)
  rintro _ w11 ⟨rfl, x12⟩
  have z13 := x12.size
  replace hX := hX.ex x12
  replace hXL7 := Bel.ex hXL7 x12
  refine Rr (Q5 rfl) ?_
  refine Qd ?_
  refine QD rfl (fun hc5 => ?_) (fun hc5 => ?_)
  ·first | replace hc5 := dcT hc5 | replace hc5 := bnot_t hc5 | skip
   refine Qe (Qc ?_)
   refine Rr Qm ?_
   refine Rr Qm ?_
   refine Qd (Qy ?_)
   refine ⟨_, res_tmp2 rfl rfl rfl, ?_⟩
   exact split_r hX (splitP_none (Or.inr ⟨hc1, hc2, Or.inr (allT_at (by omega) hc5)⟩))
  first | replace hc5 := dcF hc5 | replace hc5 := bnot_f hc5 | skip
  refine Qu (Qc ?_)
  refine Rr (Q6 rfl rfl omg) ?_
  refine Rr (mvI rfl) ?_
  refine Qd ?_
  refine ⟨k + 1, ⟨sT, trivial⟩, oT, ⟨?_, hXL7⟩, ?_⟩
  ·exact ⟨by omega, allT_succ (by omega) hall hc5⟩
  ·omega
 first | replace hc4 := dcF hc4 | replace hc4 := bnot_f hc4 | skip
 refine QS (QL (Qe (Qc ?_)))
 refine Rr (mvS rfl) ?_
 refine Rr (asS rfl) ?_
 refine Rr Qm ?_
 refine Qd (Qy ?_)
 refine ⟨_, res_tmp2 rfl rfl rfl, ?_⟩
 have e := splitP_some hc1 hc2 hc3 (all_end (by omega) hall); exact ⟨_, _, by rw [splitOk_some e, splitL_some e]; rfl, by rw [splitL_some e]; exact hs14.mono (fun g h1 h2 => by omega), hX⟩

theorem pvalid_ok (β : Prop) (p : Str) (hp : p.length ≤ 1000000) (w : World) : Ok Tryz.prog 146 #[str p] w fun v w' => v = .bool (splitOk p) ∧ Ext β w w' := by
 refine Qz 11 func146 rfl rfl rfl ?_
 have hX : Ext β w w := Bel.refl _ _
 refine Qe (Qc ?_)
 refine Rr Qm ?_
 refine Qd (Qe (Qc ?_))
 refine Rr (Ql (v := str _) rfl) ?_
 refine Qo rfl (QA call170 rfl) (Ok.mono (split_ok (β) _ (by first | assumption | omega | (simp; done) | (simp; omega) | (simp at *; omega)) _) ?_)
 rintro _ w1 ⟨a7, c7, rfl, hs7, x2⟩
 replace hX := hX.ex x2
 refine Rr (Ql (v := .tuple _) rfl) ?_
 refine Rr (QH rfl rfl) ?_
 refine Rr (QH rfl rfl) ?_
 refine Rr (asS rfl) ?_
 refine Rr (asB rfl) ?_
 refine Qd (Qe (Qc ?_))
 refine Rr (mvB rfl) ?_
 refine Rr (asB rfl) ?_
 refine Qd (Qy ?_)
 refine ⟨_, Qp rfl rfl, ?_⟩
 refine ⟨cvB ?_, hX⟩
 all_goals (rfl)

theorem depth_ok (β : Prop) (p : Str) (hp : p.length ≤ 1000000) (w : World) : Ok Tryz.prog 147 #[str p] w fun v w' => v = .int .i64 (depthS p) ∧ Ext β w w' := by
 refine Qz 14 func147 rfl rfl rfl ?_
 have hX : Ext β w w := Bel.refl _ _
 refine Qe (Qc ?_)
 refine Rr Qm ?_
 refine Qd (Qe (Qc ?_))
 refine Rr (Ql (v := str _) rfl) ?_
 refine Qo rfl (QA call170 rfl) (Ok.mono (split_ok (β) _ (by first | assumption | omega | (simp; done) | (simp; omega) | (simp at *; omega)) _) ?_)
 rintro _ w1 ⟨a7, c7, rfl, hs7, x2⟩
 replace hX := hX.ex x2
 refine Rr (Ql (v := .tuple _) rfl) ?_
 refine Rr (QH rfl rfl) ?_
 refine Rr (QH rfl rfl) ?_
 refine Rr (asS rfl) ?_
 refine Rr (asB rfl) ?_
 refine Qd (Qe (Qe (Qc ?_)))
 refine Rr (mvB rfl) ?_
 refine Rr (Q5 rfl) ?_
 refine Qd ?_
 refine QD rfl (fun hc1 => ?_) (fun hc1 => ?_)
 ·first | replace hc1 := dcT hc1 | replace hc1 := bnot_t hc1 | skip
  refine Qe (Qc ?_)
  refine Rr Qm ?_
  refine Qd (Qy ?_)
  refine ⟨_, Qp rfl rfl, ?_⟩
  refine ⟨congrArg (Value.int .i64) ?_, hX⟩
  all_goals (rw [depthS, if_neg (by simp [hc1])])
 first | replace hc1 := dcF hc1 | replace hc1 := bnot_f hc1 | skip
 refine Qu (Qe (Qc ?_))
 refine Rr (mvS rfl) ?_
 refine Rr (QK underlying96 rfl) ?_
 refine Rr (asI rfl) ?_
 refine Qd (Qy ?_)
 refine ⟨_, Qp rfl rfl, ?_⟩
 refine ⟨congrArg (Value.int .i64) ?_, hX⟩
 all_goals (rw [depthS, if_pos hc1])

