/- Walks: what functions return. -/
import Derived.Test.YtdnkjdmfnmdpdaaGreatDoorWpath2
set_option linter.unusedVariables false
set_option linter.unusedSimpArgs false
set_option linter.unnecessarySimpa false
namespace Go.Proofs.YtdnkjdmfnmdpdaaGreatDoor
open Go Go.Lx Go.RowKit Tryz
set_option maxRecDepth 100000
theorem kw_ok (β : Prop) (w : World) : Ok Tryz.prog 132 #[] w fun v w' => ∃ a c, v = .slice a keywordsS.length c ∧ Sl encS 1 (Fsh w w') w' a c keywordsS ∧ Ext β w w' := by
 refine QD 2 func132 rfl rfl rfl ?_
 have hX : Ext β w w := Bel.refl _ _
 refine Qd (Qa ?_)
 refine Rr Qf ?_
 refine Qb (Qd (Qa ?_))
 refine Q7 (vs := [str _, str _, str _, str _, str _, str _, str _, str _, str _, str _, str _, str _, str _, str _, str _, str _, str _, str _, str _, str _]) (keywordsS) rfl Zv el_string rfl rfl ⟨rfl, ⟨rfl, ⟨rfl, ⟨rfl, ⟨rfl, ⟨rfl, ⟨rfl, ⟨rfl, ⟨rfl, ⟨rfl, ⟨rfl, ⟨rfl, ⟨rfl, ⟨rfl, ⟨rfl, ⟨rfl, ⟨rfl, ⟨rfl, ⟨rfl, ⟨rfl, trivial⟩⟩⟩⟩⟩⟩⟩⟩⟩⟩⟩⟩⟩⟩⟩⟩⟩⟩⟩⟩ rfl rfl rfl rfl ?_
 intro a1 w1 x2 hown1
 have z3 := x2.size
 replace hX := hX.ex x2
 replace hown1 := hown1.mono (D' := fun g => w.heap.size ≤ g) (fun g h1 h2 => by omega)
 refine Rr (asS rfl) ?_
 refine Qb (Qx ?_)
 refine ⟨_, Qu rfl rfl, ?_⟩
 exact ⟨_, _, rfl, (hown1.slA Zv).mono (fun g h1 h2 => by omega), hX⟩

theorem rkw_ok (β : Prop) (w : World) : Ok Tryz.prog 136 #[] w fun v w' => ∃ a c, v = .slice a keywordsS.length c ∧ Sl encS 1 (Fsh w w') w' a c keywordsS ∧ Ext β w w' := by
 refine QD 2 func136 rfl rfl rfl ?_
 have hX : Ext β w w := Bel.refl _ _
 refine Qd (Qa ?_)
 refine Rr Qf ?_
 refine Qb (Qd (Qa ?_))
 refine Q7 (vs := [str _, str _, str _, str _, str _, str _, str _, str _, str _, str _, str _, str _, str _, str _, str _, str _, str _, str _, str _, str _]) (keywordsS) rfl Zv el_string rfl rfl ⟨rfl, ⟨rfl, ⟨rfl, ⟨rfl, ⟨rfl, ⟨rfl, ⟨rfl, ⟨rfl, ⟨rfl, ⟨rfl, ⟨rfl, ⟨rfl, ⟨rfl, ⟨rfl, ⟨rfl, ⟨rfl, ⟨rfl, ⟨rfl, ⟨rfl, ⟨rfl, trivial⟩⟩⟩⟩⟩⟩⟩⟩⟩⟩⟩⟩⟩⟩⟩⟩⟩⟩⟩⟩ rfl rfl rfl rfl ?_
 intro a1 w1 x2 hown1
 have z3 := x2.size
 replace hX := hX.ex x2
 replace hown1 := hown1.mono (D' := fun g => w.heap.size ≤ g) (fun g h1 h2 => by omega)
 refine Rr (asS rfl) ?_
 refine Qb (Qx ?_)
 refine ⟨_, Qu rfl rfl, ?_⟩
 exact ⟨_, _, rfl, (hown1.slA Zv).mono (fun g h1 h2 => by omega), hX⟩

theorem letter_ok (β : Prop) (c : UInt8) (w : World) : Ok Tryz.prog 133 #[.int .u8 (c.toNat : Int)] w fun v w' => v = .bool (letterB c) ∧ Ext β w w' := by
 refine QD 9 func133 rfl rfl rfl ?_
 have hX : Ext β w w := Bel.refl _ _
 refine Qd (Qa ?_)
 refine Rr Qf ?_
 refine Qb (Qd (Qa ?_))
 refine Rr (mvI rfl) ?_
 refine Rr (o_geq rfl rfl) ?_
 refine Rr (mvB rfl) ?_
 refine Qr 2 5 rfl rfl rfl (fun hg => (mvI rfl)) ?_
 refine Qr 2 5 rfl rfl rfl (fun hg => (o_leq (QE (u := undef) hg) rfl)) ?_
 refine Rr (Q9 (u := undef) rfl rfl) ?_
 refine Rr (asB rfl) ?_
 refine Qb (Qx ?_)
 refine ⟨_, Qu rfl rfl, ?_⟩
 refine ⟨congrArg Value.bool ?_, hX⟩
 all_goals (rfl)

theorem inner_ok (β : Prop) (c : UInt8) (b : Nat) (w : World) (hb : At w b 0 [.func (.func 133) #[] #[]]) : Ok Tryz.prog 134 #[.int .u8 (c.toNat : Int), .pointer (some ⟨b, 0, none⟩)] w fun v w' => v = .bool (innerB c) ∧ Ext β w w' := by
 refine QD 19 func134 rfl rfl rfl ?_
 have hX : Ext β w w := Bel.refl _ _
 refine Qd (Qa ?_)
 refine Rr Qf ?_
 refine Qb (Qd (Qa ?_))
 refine Rr (Qo isAgg209 rfl (hb.get 0 rfl)) ?_
 refine Rr (mvI rfl) ?_
 refine Qn rfl (o_clo1 call133 rfl rfl) (Ok.mono (letter_ok (β) _ _) ?_)
 rintro _ w1 ⟨rfl, x2⟩
 replace hX := hX.ex x2
 refine Rr (mvB rfl) ?_
 refine Qr 3 7 rfl rfl rfl (fun hg => (mvI rfl)) ?_
 refine Qr 3 7 rfl rfl rfl (fun hg => (o_geq (QE (u := undef) hg) rfl)) ?_
 refine Qr 3 7 rfl rfl rfl (fun hg => (Qh (v := .bool _) (QE (u := undef) hg))) ?_
 refine Q8 6 10 rfl rfl rfl (fun hg => (mvI rfl)) ?_
 refine Q8 6 10 rfl rfl rfl (fun hg => (o_leq (QE (u := undef) hg) rfl)) ?_
 refine Qr 3 7 rfl rfl rfl (fun hg => (Q9 (u := undef) (QE (u := undef) hg) (gand (u := undef) hg))) ?_
 refine Rr (o_or (u := undef) rfl rfl) ?_
 refine Rr (mvB rfl) ?_
 refine Qr 11 15 rfl rfl rfl (fun hg => (mvI rfl)) ?_
 refine Qr 11 15 rfl rfl rfl (fun hg => (QO (QE (u := undef) hg) rfl)) ?_
 refine Rr (o_or (u := undef) rfl rfl) ?_
 refine Rr (asB rfl) ?_
 refine Qb (Qx ?_)
 refine ⟨_, Qu rfl rfl, ?_⟩
 refine ⟨congrArg Value.bool ?_, hX⟩
 all_goals (rfl)

theorem rname_ok (β : Prop) (s : Str) (hs : s.length ≤ 4611686018427387904) (w : World) : Ok Tryz.prog 106 #[str s] w fun v w' => v = .bool (nmS s) ∧ Ext β w w' := by
 have hkl : keywordsS.length = 20 := rfl
 refine QD 68 func106 rfl rfl rfl ?_
 have hX : Ext β w w := Bel.refl _ _
 refine Qd (Qa ?_)
 refine Rr Qf ?_
 refine Qb (Qd (Qd (Qa ?_)))
 refine Rr (Qh (v := str _) rfl) ?_
 refine Rr (o_slen underlying9 rfl) ?_
 refine Rr (QO rfl rfl) ?_
 refine Rr (mvB rfl) ?_
 refine Qr 3 11 rfl rfl rfl (fun hg => (Qh (v := str _) rfl)) ?_
 refine Qr 3 11 rfl rfl rfl (fun hg => (o_slen underlying9 (QE (u := undef) hg))) ?_
 refine Qr 3 11 rfl rfl rfl (fun hg => (Zy (QE (u := undef) hg) rfl)) ?_
 refine Rr (o_or (u := undef) rfl rfl) ?_
 refine Qb ?_
 refine Qt rfl (fun hc1 => ?_) (fun hc1 => ?_)
 ·first | replace hc1 := of_decide_eq_true hc1 | replace hc1 := bnot_t hc1 | skip
  refine Qd (Qa ?_)
  refine Rr Qf ?_
  refine Qb (Qx ?_)
  refine ⟨_, Qu rfl rfl, ?_⟩
  refine ⟨congrArg Value.bool ?_, hX⟩
  all_goals (exact (nmS_pre hc1).symm)
 first | replace hc1 := of_decide_eq_false hc1 | replace hc1 := bnot_f hc1 | skip
 refine Qs (Qd (Qd (Qa ?_)))
 refine Rr Qf ?_
 refine Qb (Qz ?_)
 refine Zd (α := Nat) [(2, 5), (16, 57)] (fun k => [(3, .int .i64 (k : Int))]) (fun k w' => (k ≤ s.length ∧ ∀ i, i < k → okAt s i = true) ∧ Ext β w w') (fun k => s.length - k) 0 ⟨rfl, trivial⟩ ⟨⟨by omega, fun i hi => absurd hi (Nat.not_lt_zero _)⟩, Bel.refl _ _⟩ ?_
 rintro k fb3 w2 ⟨⟨hk, hall⟩, hXL1⟩
 replace hX := hX.ex hXL1
 refine Qd (Qd (Qa ?_))
 refine Rr (mvI rfl) ?_
 refine Rr (Qh (v := str _) rfl) ?_
 refine Rr (o_slen underlying9 rfl) ?_
 refine Rr (QV rfl rfl) ?_
 refine Qb ?_
 refine Qt rfl (fun hc2 => ?_) (fun hc2 => ?_)
 ·first | replace hc2 := of_decide_eq_true hc2 | replace hc2 := bnot_t hc2 | skip
  refine Qs (Qd (Qz (Qd (Qa ?_))))
  refine Rr (Qh (v := str _) rfl) ?_
  refine Rr (mvI rfl) ?_
  refine Rr (o_sidx underlying9 rfl rfl (by omega)) ?_
  refine Rr (o_geq rfl rfl) ?_
  refine Rr (mvB rfl) ?_
  refine Qr 4 26 rfl rfl rfl (fun hg => (Qh (v := str _) rfl)) ?_
  refine Qr 4 26 rfl rfl rfl (fun hg => (mvI rfl)) ?_
  refine Qr 4 26 rfl rfl rfl (fun hg => (o_sidx underlying9 (QE (u := undef) hg) (QE (u := undef) hg) (by omega))) ?_
  refine Qr 4 26 rfl rfl rfl (fun hg => (o_leq (QE (u := undef) hg) rfl)) ?_
  refine Rr (Q9 (u := undef) rfl rfl) ?_
  refine Rr (asB rfl) ?_
  refine Qb (Qd (Qa ?_))
  refine Rr (Qh (v := str _) rfl) ?_
  refine Rr (mvI rfl) ?_
  refine Rr (o_sidx underlying9 rfl rfl (by omega)) ?_
  refine Rr (o_geq rfl rfl) ?_
  refine Rr (mvB rfl) ?_
  refine Qr 4 36 rfl rfl rfl (fun hg => (Qh (v := str _) rfl)) ?_
  refine Qr 4 36 rfl rfl rfl (fun hg => (mvI rfl)) ?_
  refine Qr 4 36 rfl rfl rfl (fun hg => (o_sidx underlying9 (QE (u := undef) hg) (QE (u := undef) hg) (by omega))) ?_
  refine Qr 4 36 rfl rfl rfl (fun hg => (o_leq (QE (u := undef) hg) rfl)) ?_
  refine Rr (Q9 (u := undef) rfl rfl) ?_
  refine Rr (mvB rfl) ?_
  refine Qr 10 42 rfl rfl rfl (fun hg => (Qh (v := str _) rfl)) ?_
  refine Qr 10 42 rfl rfl rfl (fun hg => (mvI rfl)) ?_
  refine Qr 10 42 rfl rfl rfl (fun hg => (o_sidx underlying9 (QE (u := undef) hg) (QE (u := undef) hg) (by omega))) ?_
  refine Qr 10 42 rfl rfl rfl (fun hg => (QO (QE (u := undef) hg) rfl)) ?_
  refine Rr (o_or (u := undef) rfl rfl) ?_
  refine Rr (asB rfl) ?_
  refine Qb (Qd (Qa ?_))
  refine Rr (mvB rfl) ?_
  refine Rr (QQ rfl) ?_
  refine Rr (mvB rfl) ?_
  refine Qr 2 50 rfl rfl rfl (fun hg => (mvI rfl)) ?_
  refine Qr 2 50 rfl rfl rfl (fun hg => (QO (QE (u := undef) hg) rfl)) ?_
  refine Qr 2 50 rfl rfl rfl (fun hg => (Qh (v := .bool _) (QE (u := undef) hg))) ?_
  refine Q8 5 53 rfl rfl rfl (fun hg => (mvB rfl)) ?_
  refine Q8 5 53 rfl rfl rfl (fun hg => (QQ (QE (u := undef) hg))) ?_
  refine Qr 2 50 rfl rfl rfl (fun hg => (o_or (u := undef) (QE (u := undef) hg) (gand (u := undef) hg))) ?_
  refine Rr (Q9 (u := undef) rfl rfl) ?_
  refine Qb ?_
  refine Qt rfl (fun hc3 => ?_) (fun hc3 => ?_)
  ·first | replace hc3 := of_decide_eq_true hc3 | replace hc3 := bnot_t hc3 | skip
   refine Qd (Qa ?_)
   refine Rr Qf ?_
   refine Qb (Qx ?_)
   refine ⟨_, Qu rfl rfl, ?_⟩
   refine ⟨congrArg Value.bool ?_, hX⟩
   all_goals (exact (nmS_no (k := k) (by omega) (okAt_f hc3)).symm)
  first | replace hc3 := of_decide_eq_false hc3 | replace hc3 := bnot_f hc3 | skip
  refine Qs (Qa ?_)
  refine Rr (mvI rfl) ?_
  refine Rr (QN rfl rfl omg) ?_
  refine Rr (asI rfl) ?_
  refine Qb ?_
  refine ⟨k + 1, ⟨sT, trivial⟩, oT, ⟨?_, hXL1⟩, ?_⟩
  ·exact ⟨by omega, okAt_succ hall (okAt_r hc3)⟩
  ·omega
 first | replace hc2 := of_decide_eq_false hc2 | replace hc2 := bnot_f hc2 | skip
 refine QS (QJ (Qd (Qd (Qa ?_))))
 refine Qn rfl (o_call0 call136) (Ok.mono (rkw_ok (β) _) ?_)
 rintro _ w4 ⟨a58, c58, rfl, hs58, x5⟩
 replace hX := hX.ex x5
 refine Rr (QM underlying29 rfl) ?_
 refine Rr Zc ?_
 refine Qb (Qz ?_)
 refine Zd (α := Nat) [(2, 2), (7, 7), (60, 67)] (fun j => [(60, .int .i64 (j : Int))]) (fun j w' => (j ≤ keywordsS.length ∧ (keywordsS.take j).any (fun y => y == s) = false) ∧ Ext β w4 w') (fun j => keywordsS.length - j) 0 ⟨rfl, trivial⟩ ⟨⟨by omega, by simp⟩, Bel.refl _ _⟩ ?_
 rintro j fb8 w7 ⟨⟨hj, hany⟩, hXL6⟩
 replace hX := hX.ex hXL6
 replace hs58 := hs58.ext hXL6
 refine Qd (Qa ?_)
 refine Rr (QV rfl rfl) ?_
 refine Qb (Qd ?_)
 refine Qt rfl (fun hc4 => ?_) (fun hc4 => ?_)
 ·first | replace hc4 := of_decide_eq_true hc4 | replace hc4 := bnot_t hc4 | skip
  refine Qs (Qd (Qz (Qd (Qa ?_))))
  refine Rr (Ze underlying29 sizeOf9 hs58 rfl rfl omg) ?_
  refine Rr (o_ldR isAgg9 hs58 rfl rfl (getElem?_of (by first | omega | assumption)) rfl) ?_
  refine Rr (Qq (v := str _) rfl) ?_
  refine Qb (Qd (Qa ?_))
  refine Rr (Qh (v := str _) rfl) ?_
  refine Rr (Qh (v := str _) rfl) ?_
  refine Rr (o_seql rfl rfl) ?_
  refine Qb ?_
  refine Qt rfl (fun hc5 => ?_) (fun hc5 => ?_)
  ·first | replace hc5 := of_decide_eq_true hc5 | replace hc5 := bnot_t hc5 | skip
   refine Qd (Qa ?_)
   refine Rr Qf ?_
   refine Qb (Qx ?_)
   refine ⟨_, Qu rfl rfl, ?_⟩
   refine ⟨congrArg Value.bool ?_, hX⟩
   all_goals (exact (nmS_kw (kw_in (by omega) hc5)).symm)
  first | replace hc5 := of_decide_eq_false hc5 | replace hc5 := bnot_f hc5 | skip
  refine Qs (Qa ?_)
  refine Rr (QN rfl rfl omg) ?_
  refine Rr (mvI rfl) ?_
  refine Qb ?_
  refine ⟨j + 1, ⟨sT, trivial⟩, oT, ⟨?_, hXL6⟩, ?_⟩
  ·exact ⟨by omega, anyT_succ (by omega) hany hc5⟩
  ·omega
 first | replace hc4 := of_decide_eq_false hc4 | replace hc4 := bnot_f hc4 | skip
 refine QS (QJ (Qd (Qa ?_)))
 refine Rr Qf ?_
 refine Qb (Qx ?_)
 refine ⟨_, Qu rfl rfl, ?_⟩
 refine ⟨congrArg Value.bool ?_, hX⟩
 all_goals (rw [nmS_of (by omega) hk hall hc1, kw_out (by omega) hany]; rfl)

theorem name_ok (β : Prop) (s : Str) (hs : s.length ≤ 4611686018427387904) (w : World) : Ok Tryz.prog 103 #[str s] w fun v w' => v = .bool (nmS s) ∧ Ext β w w' := by
 refine QD 44 func103 rfl rfl rfl ?_
 have hX : Ext β w w := Bel.refl _ _
 refine Qd (Qa ?_)
 refine Rr Qf ?_
 refine Qb (Qd (Qd (Qa ?_)))
 refine Rr (Qh (v := str _) rfl) ?_
 refine Rr (o_slen underlying9 rfl) ?_
 refine Rr (QO rfl rfl) ?_
 refine Rr (mvB rfl) ?_
 refine Qr 3 9 rfl rfl rfl (fun hg => (Qh (v := str _) rfl)) ?_
 refine Qr 3 9 rfl rfl rfl (fun hg => (o_slen underlying9 (QE (u := undef) hg))) ?_
 refine Qr 3 9 rfl rfl rfl (fun hg => (Zy (QE (u := undef) hg) rfl)) ?_
 refine Rr (o_or (u := undef) rfl rfl) ?_
 refine Rr (mvB rfl) ?_
 refine Rg_split 14 rfl (fun hs1 => ?_) (fun hs1 => ?_)
 ·refine Qw 8 14 rfl rfl (congrArg Value.bool hs1) rfl rfl ?_
  refine Qw 8 14 rfl rfl (congrArg Value.bool hs1) rfl rfl ?_
  refine Qw 8 14 rfl rfl (congrArg Value.bool hs1) rfl rfl ?_
  refine Rr (Za (v := .bool _) (congrArg Value.bool hs1) rfl) ?_
  refine Qb ?_
  refine QP rfl ?_
  refine Qd (Qa ?_)
  refine Rr Qf ?_
  refine Qb (Qx ?_)
  refine ⟨_, Qu rfl rfl, ?_⟩
  refine ⟨congrArg Value.bool ?_, hX⟩
  all_goals (exact (nmS_pre hs1).symm)
 refine Qv 8 14 rfl (congrArg Value.bool hs1) ?_
 refine Qn rfl (o_call0 call132) (Ok.mono (kw_ok (β) _) ?_)
 rintro _ w2 ⟨a15, c15, rfl, hs15, x3⟩
 replace hX := hX.ex x3
 refine Qv 8 14 rfl (congrArg Value.bool hs1) ?_
 refine Rr (Qh (v := str _) rfl) ?_
 refine Qv 8 14 rfl (congrArg Value.bool hs1) ?_
 refine Qn rfl (QI call131 rfl rfl) (Ok.mono (scontains_ok (β) _ _ _ _ _ _ hs15) ?_)
 rintro _ w4 ⟨rfl, x5⟩
 replace hX := hX.ex x5
 refine Rr (Q0 (v := .bool _) (congrArg Value.bool hs1) rfl) ?_
 refine Qb ?_
 refine Qt rfl (fun hc2 => ?_) (fun hc2 => ?_)
 ·first | replace hc2 := of_decide_eq_true hc2 | replace hc2 := bnot_t hc2 | skip
  refine Qd (Qa ?_)
  refine Rr Qf ?_
  refine Qb (Qx ?_)
  refine ⟨_, Qu rfl rfl, ?_⟩
  refine ⟨congrArg Value.bool ?_, hX⟩
  all_goals (exact (nmS_kw hc2).symm)
 first | replace hc2 := of_decide_eq_false hc2 | replace hc2 := bnot_f hc2 | skip
 refine Qs (Qd (Qa ?_))
 refine QR rfl rfl zeroValue209 rfl sizeOf209 (fun _ => rfl) rfl rfl ?_
 intro b3 w6 x7 hge3 hb3
 replace hX := hX.ex x7
 refine Qb (Qd (Qa ?_))
 refine Rr (o_fn1 rfl) ?_
 refine Rr (Qq (v := .func _ _ _) rfl) ?_
 refine Qb (Qd (Qd (Qa ?_)))
 refine Rr (Qh (v := str _) rfl) ?_
 refine Rr (o_slen underlying9 rfl) ?_
 refine Rr Zc ?_
 refine Qb (Qz ?_)
 refine Zd (α := Nat) [(2, 2), (5, 5), (22, 43)] (fun k => [(22, .int .i64 (k : Int))]) (fun k w' => (k ≤ s.length ∧ ∀ i, i < k → okAt s i = true) ∧ Ext β w6 w') (fun k => s.length - k) 0 ⟨rfl, trivial⟩ ⟨⟨by omega, fun i hi => absurd hi (Nat.not_lt_zero _)⟩, Bel.refl _ _⟩ ?_
 rintro k fb10 w9 ⟨⟨hk, hall⟩, hXL8⟩
 replace hX := hX.ex hXL8
 replace hb3 := hb3.ext hXL8
 refine Qd (Qa ?_)
 refine Rr (QV rfl rfl) ?_
 refine Qb (Qd ?_)
 refine Qt rfl (fun hc3 => ?_) (fun hc3 => ?_)
 ·first | replace hc3 := of_decide_eq_true hc3 | replace hc3 := bnot_t hc3 | skip
  refine Qs (Qd (Qz (Qd (Qa ?_))))
  refine Rr (mvI rfl) ?_
  refine Rr (asI rfl) ?_
  refine Qb (Qd ?_)
  apply W_draw (β := β) [peq _, peq _, peq _, peq _, peq _, peq _, peq _, peq _, peq _, peq _, peq _, peq _, peq _, peq _, peq _, peq _, peq _, peq _] 18 Zq (by kernel_rfl) rfl ⟨Qg _, Qg _, Qg _, Qg _, Qg _, Qg _, Qg _, Qg _, Qg _, Qg _, Qg _, Qg _, Qg _, Qg _, Qg _, Qg _, Qg _, Qg _, trivial⟩ ?ob8 ?fin8
  case ob8 =>
   refine Qk (fun w11 x12 => ?_) ?_
   ·refine Qi ?_
    exact QH rfl (Qh (v := .func _ _ _) rfl)
   refine Qk (fun w13 x14 => ?_) ?_
   ·refine Qi ?_
    exact QH rfl (Qh (v := str _) rfl)
   refine Qk (fun w15 x16 => ?_) ?_
   ·refine Qi ?_
    exact QH rfl (mvI rfl)
   refine Qk (fun w17 x18 => ?_) ?_
   ·refine Qc (Qc (Qi ?_))
    exact QH rfl (o_sidx underlying9 rfl rfl omg)
   refine Qk (fun w19 x20 => ?_) ?_
   ·have hb3 := hb3.ext x20
    refine Qc (Qc (Qi ?_))
    exact OpS_call rfl (o_clo1 call134 rfl rfl) (inner_ok (β) _ _ _ hb3.at)
   refine Qk (fun w21 x22 => ?_) ?_
   ·refine Qc (Qi ?_)
    exact QH rfl (QQ rfl)
   refine Qk (fun w23 x24 => ?_) ?_
   ·refine Qc (Qc (Qi ?_))
    exact QH rfl (mvB rfl)
   refine Qk (fun w25 x26 => ?_) ?_
   ·refine Qc (Qi ?_)
    exact QU 6 31 rfl rfl (fun hg => (mvI rfl))
   refine Qk (fun w27 x28 => ?_) ?_
   ·refine Qc (Qc (Qi ?_))
    exact QU 6 31 rfl rfl (fun hg => (QO (QE (u := undef) hg) rfl))
   refine Qk (fun w29 x30 => ?_) ?_
   ·refine Qc (Qc (Qc (Qi ?_)))
    exact QU 6 31 rfl rfl (fun hg => (Qh (v := .bool _) (QE (u := undef) hg)))
   refine Qk (fun w31 x32 => ?_) ?_
   ·have hb3 := hb3.ext x32
    refine Qc (Qi ?_)
    exact Q4 9 34 rfl rfl (fun hg => (Qo isAgg209 rfl (hb3.at.get 0 rfl)))
   refine Qk (fun w33 x34 => ?_) ?_
   ·refine Qc (Qi ?_)
    exact Q4 9 34 rfl rfl (fun hg => (Qh (v := str _) rfl))
   refine Qk (fun w35 x36 => ?_) ?_
   ·refine Qc (Qi ?_)
    exact Q4 9 34 rfl rfl (fun hg => (mvI rfl))
   refine Qk (fun w37 x38 => ?_) ?_
   ·refine Qc (Qc (Qc (Qi ?_)))
    exact Q4 9 34 rfl rfl (fun hg => (o_sidx underlying9 (QE (u := undef) hg) (QE (u := undef) hg) omg))
   refine Qk (fun w39 x40 => ?_) ?_
   ·refine Qc (Qc (Qc (Qc (Qi ?_))))
    exact OpS_mayCall2 9 34 rfl rfl (fun hg => ⟨(o_clo1 call133 (QE (u := undef) hg) (QE (u := undef) hg)), letter_ok (β) _ _⟩)
   refine Qk (fun w41 x42 => ?_) ?_
   ·refine Qc (Qc (Qi ?_))
    exact Q4 9 34 rfl rfl (fun hg => (QQ (QE (u := undef) hg)))
   refine Qk (fun w43 x44 => ?_) ?_
   ·refine Qc (Qc (Qc (Qi ?_)))
    exact QU 6 31 rfl rfl (fun hg => (Q9 (u := undef) (QE (u := undef) hg) (gand (u := undef) hg)))
   refine Qk (fun w45 x46 => ?_) ?_
   ·refine Qc (Qc (Qi ?_))
    exact QH rfl (o_or (u := undef) rfl rfl)
   exact Zt
  case fin8 =>
   intro w47 x48
   replace hX := hX.ex x48
   replace hXL8 := Bel.ex hXL8 x48
   refine Qc (Qc (Qc (Qc (Qc (Qc (Qc (Qc (Qc ?_))))))))
   refine Qc (Qc (Qc (Qc (Qc (Qc (Qc (Qc (Qc ?_))))))))
   refine Qi (Qb ?_)
   refine Qt rfl (fun hc4 => ?_) (fun hc4 => ?_)
   ·first | replace hc4 := of_decide_eq_true hc4 | replace hc4 := bnot_t hc4 | skip
    refine Qd (Qa ?_)
    refine Rr Qf ?_
    refine Qb (Qx ?_)
    refine ⟨_, Qu rfl rfl, ?_⟩
    refine ⟨congrArg Value.bool ?_, hX⟩
    all_goals (exact (nmS_no (k := k) (by omega) (by rw [okAt, hc4]; rfl)).symm)
   first | replace hc4 := of_decide_eq_false hc4 | replace hc4 := bnot_f hc4 | skip
   refine Qs (Qa ?_)
   refine Rr (QN rfl rfl omg) ?_
   refine Rr (mvI rfl) ?_
   refine Qb ?_
   refine ⟨k + 1, ⟨sT, trivial⟩, oT, ⟨?_, hXL8⟩, ?_⟩
   ·exact ⟨by omega, okAt_succ hall (by rw [okAt, hc4]; rfl)⟩
   ·omega
 first | replace hc3 := of_decide_eq_false hc3 | replace hc3 := bnot_f hc3 | skip
 refine QS (QJ (Qd (Qa ?_)))
 refine Rr Qf ?_
 refine Qb (Qx ?_)
 refine ⟨_, Qu rfl rfl, ?_⟩
 refine ⟨congrArg Value.bool ?_, hX⟩
 all_goals (rw [nmS_of (by omega) hk hall hs1, hc2]; rfl)

end Go.Proofs.YtdnkjdmfnmdpdaaGreatDoor
