/- Walks: what functions return. -/
import Derived.Test.YtdnkjdmfnmdpdaaGreatDoorWpr
import Derived.Test.YtdnkjdmfnmdpdaaGreatDoorSe
set_option linter.unusedVariables false
set_option linter.unusedSimpArgs false
set_option linter.unnecessarySimpa false
namespace Go.Proofs.YtdnkjdmfnmdpdaaGreatDoor
open Go Go.Lx Go.RowKit Tryz
set_option maxRecDepth 100000
theorem r10role_ok (w : World) (r : Int) : Ok Tryz.prog 90 #[.int .i64 r] w fun v w' => v = .bool (decide (1 ≤ r) && decide (r ≤ 63)) ∧ Ext False w w' := by
 refine ZQ 9 func90 rfl rfl rfl ?_
 have hX := xRf w
 refine QH (Qc ?_)
 refine Rr Zi ?_
 refine Qg (QH (Qc ?_))
 refine Rr (mvI rfl) ?_
 refine Rr (o_geq rfl rfl) ?_
 refine Rr (mvB rfl) ?_
 refine ZI 2 5 rfl rfl rfl (fun hg => (mvI rfl)) ?_
 refine ZI 2 5 rfl rfl rfl (fun hg => (o_leq (ZU (u := undef) hg) rfl)) ?_
 refine Rr (Jq (u := undef) rfl rfl) ?_
 refine Rr (asB rfl) ?_
 refine Qg (ZJ ?_)
 refine ⟨_, ZF rfl rfl, ?_⟩
 refine ⟨cvB ?_, hX⟩
 all_goals (rfl)

theorem r10has_ok (a : Option Addr) (c : Nat) (B : Nat → Prop) (L : List Pr) (x y : Fin 64) (w : World) (hs : Sl encPr 2 B w a c L) : Ok Tryz.prog 91 #[.slice a L.length c, .int .i64 (iv x), .int .i64 (iv y)] w fun v w' => v = .bool (L.any fun z => z == (x, y)) ∧ Ext False w w' := by
 have hlen := hs.len
 refine ZQ 26 func91 rfl rfl rfl ?_
 have hX := xRf w
 refine QH (Qc ?_)
 refine Rr Zi ?_
 refine Qg (QH (QH (Qc ?_)))
 refine Rr (mvS rfl) ?_
 refine Rr (Z0 underlying31 rfl) ?_
 refine Rr Jj ?_
 refine Qg (ZM ?_)
 refine Jk (α := Nat) [(6, 6), (8, 8), (11, 25)] (fun k => [(11, .int .i64 (k : Int))]) (fun k w' => (k ≤ L.length ∧ (L.take k).any (fun z => z == (x, y)) = false) ∧ Ext False w w') (fun k => L.length - k) 0 ⟨rfl, trivial⟩ ⟨⟨by omega, by simp⟩, Bel.refl _ _⟩ ?_
 rintro k fb3 w2 ⟨⟨hk, hall⟩, hXL1⟩
 replace hX := hX.ex hXL1
 replace hs := hs.ext hXL1
 refine QH (Qc ?_)
 refine Rr (Z5 rfl rfl) ?_
 refine Qg (QH ?_)
 refine ZG rfl (fun hc1 => ?_) (fun hc1 => ?_)
 ·replace hc1 := dcT hc1
  refine ZH (QH (ZM (QH (Qc ?_))))
  refine Rr (Js underlying31 sizeOf103 hs rfl rfl omg) ?_
  refine Rr (Jx isAgg103 sizeOf103 hs rfl (Jw pz0 (by omega))) ?_
  refine Z8 rfl rfl zeroValue103 rfl sizeOf103 (fun _ => rfl) rfl rfl ?_
  intro b8 w4 x5 hge8 hb8
  change Box _ _ _ (encPr _) at hb8
  replace hX := hX.ex x5
  replace hXL1 := Bel.ex hXL1 x5
  refine Qg (QH (Qc ?_))
  refine Rr (o_iaA (i := 0) underlying103 sizeOf3 rfl rfl (by decide)) ?_
  refine Rr (ZB isAgg3 rfl (hb8.at.get 0 rfl)) ?_
  refine Rr (mvI rfl) ?_
  refine Rr (ZZ rfl rfl) ?_
  refine Rr (mvB rfl) ?_
  refine ZI 4 19 rfl rfl rfl (fun hg => (o_iaA (i := 1) underlying103 sizeOf3 rfl rfl (by decide))) ?_
  refine ZI 4 19 rfl rfl rfl (fun hg => (ZB isAgg3 (ZU (u := undef) hg) (hb8.at.get 1 rfl))) ?_
  refine ZI 4 19 rfl rfl rfl (fun hg => (mvI rfl)) ?_
  refine ZI 4 19 rfl rfl rfl (fun hg => (ZZ (ZU (u := undef) hg) (ZU (u := undef) hg))) ?_
  refine Rr (Jq (u := undef) rfl rfl) ?_
  refine Qg ?_
  refine ZG rfl (fun hc2 => ?_) (fun hc2 => ?_)
  ·rw [prB] at hc2
   refine QH (Qc ?_)
   refine Rr Zi ?_
   refine Qg (ZJ ?_)
   refine ⟨_, ZF rfl rfl, ?_⟩
   refine ⟨cvB ?_, hX⟩
   all_goals (exact (List.any_eq_true.2 ⟨_, gm (show k < L.length by omega), hc2⟩).symm)
  rw [prB] at hc2
  refine ZH (Qc ?_)
  refine Rr (Z1 rfl rfl omg) ?_
  refine Rr (mvI rfl) ?_
  refine Qg ?_
  refine ⟨k + 1, ⟨sT, trivial⟩, oT, ⟨?_, hXL1⟩, ?_⟩
  ·exact ⟨by omega, anyT_succ (by omega) hall (by simpa [List.getD, show k < L.length by omega] using hc2)⟩
  ·omega
 replace hc1 := dcF hc1
 refine Z4 (ZX (QH (Qc ?_)))
 refine Rr Zi ?_
 refine Qg (ZJ ?_)
 refine ⟨_, ZF rfl rfl, ?_⟩
 refine ⟨cvB ?_, hX⟩
 all_goals (rw [List.take_of_length_le (by omega)] at hall; exact hall.symm)

theorem r10jun_ok (a : Option Addr) (c : Nat) (B : Nat → Prop) (L : List Pr) (r : Fin 64) (J : W64) (w : World) (hs : Sl encPr 2 B w a c L) (hJ : JunIs L r J) (hr : 1 ≤ r.val) : Ok Tryz.prog 126 #[.slice a L.length c, .int .i64 (iv r)] w fun v w' => v = u64 J ∧ Ext False w w' := by
 have hlen := hs.len
 have hr1 : 1 ≤ iv r ∧ iv r < 64 := by unfold iv; have := r.isLt; omega
 refine ZQ 38 func126 rfl rfl rfl ?_
 have hX := xRf w
 refine QH (Qc ?_)
 refine Rr Zi ?_
 refine Qg (QH (QH (Qc ?_)))
 refine Rr (mvI rfl) ?_
 refine ZC rfl (ZK call90 rfl) (Ok.mono (r10role_ok _ _) ?_)
 rintro _ w1 ⟨rfl, x2⟩
 replace hX := hX.ex x2
 replace hs := hs.ext x2
 refine Rr (Jf rfl) ?_
 refine Qg ?_
 refine ZY (cvB (by simp; omega)) ?_
 refine ZH (QH (Qc ?_))
 refine Rr (mvI rfl) ?_
 refine Rr (o_shlU (a := BitVec.ofNat 64 1) rfl rfl r.isLt) ?_
 refine Rr (asI rfl) ?_
 refine Qg (ZM ?_)
 refine Jk (α := W64) [(4, 6), (8, 8), (14, 37)] (fun s => [(5, u64 s)]) (fun s w' => (JIn L r s) ∧ Ext False w1 w') (fun s => 2 ^ 64 - s.toNat) (oneW r.val) ⟨rfl, trivial⟩ ⟨JIn.start _ _, Bel.refl _ _⟩ ?_
 rintro s fb5 w4 ⟨hj, hXL3⟩
 replace hX := hX.ex hXL3
 replace hs := hs.ext hXL3
 refine ZM (QH (Qc ?_))
 refine Rr (mvI rfl) ?_
 refine Rr (asI rfl) ?_
 refine Qg (QH (QH (Qc ?_)))
 refine Rr (mvS rfl) ?_
 refine Rr (Z0 underlying31 rfl) ?_
 refine Rr Jj ?_
 refine Qg (ZM ?_)
 refine Jk (α := Nat) [(6, 6), (8, 8), (17, 32)] (fun k => [(17, .int .i64 (k : Int)), (6, u64 (nxt (L.take k) s))]) (fun k w' => (k ≤ L.length) ∧ Ext False w4 w') (fun k => L.length - k) 0 ⟨rfl, rfl, trivial⟩ ⟨Nat.zero_le _, Bel.refl _ _⟩ ?_
 rintro k fb8 w7 ⟨hk, hXL6⟩
 replace hX := hX.ex hXL6
 replace hXL3 := Bel.ex hXL3 hXL6
 replace hs := hs.ext hXL6
 refine QH (Qc ?_)
 refine Rr (Z5 rfl rfl) ?_
 refine Qg (QH ?_)
 refine ZG rfl (fun hc2 => ?_) (fun hc2 => ?_)
 ·replace hc2 := dcT hc2
  refine ZH (QH (ZM (QH (Qc ?_))))
  refine Rr (Js underlying31 sizeOf103 hs rfl rfl omg) ?_
  refine Rr (Jx isAgg103 sizeOf103 hs rfl (Jw pz0 (by omega))) ?_
  refine Z8 rfl rfl zeroValue103 rfl sizeOf103 (fun _ => rfl) rfl rfl ?_
  intro b8 w9 x10 hge8 hb8
  change Box _ _ _ (encPr _) at hb8
  replace hX := hX.ex x10
  replace hXL3 := Bel.ex hXL3 x10
  replace hXL6 := Bel.ex hXL6 x10
  refine Qg (QH (Qc ?_))
  refine Rr (mvI rfl) ?_
  refine Rr (o_iaA (i := 0) underlying103 sizeOf3 rfl rfl (by decide)) ?_
  refine Rr (ZB isAgg3 rfl (hb8.at.get 0 rfl)) ?_
  refine Rr (o_shrU rfl rfl (L.getD k pz0).1.isLt) ?_
  refine Rr (o_uremU (b := BitVec.ofNat 64 2) rfl rfl (by decide)) ?_
  refine Rr (o_eqU (b := BitVec.ofNat 64 1) rfl rfl) ?_
  refine Qg ?_
  refine ZG rfl (fun hc3 => ?_) (fun hc3 => ?_)
  ·rw [bit_rem] at hc3
   refine Qc ?_
   refine Rr (mvI rfl) ?_
   refine Rr (o_iaA (i := 1) underlying103 sizeOf3 rfl rfl (by decide)) ?_
   refine Rr (ZB isAgg3 rfl (hb8.at.get 1 rfl)) ?_
   refine Rr (o_shlU (a := BitVec.ofNat 64 1) rfl rfl (L.getD k pz0).2.isLt) ?_
   refine Rr (o_bor rfl rfl) ?_
   refine Rr (asI rfl) ?_
   refine Qg (Qc ?_)
   refine Rr (Z1 rfl rfl omg) ?_
   refine Rr (mvI rfl) ?_
   refine Qg ?_
   refine ⟨k + 1, ⟨sT, ?_, trivial⟩, oT, ⟨?_, hXL6⟩, ?_⟩
   ·refine congrArg u64 ?_
    rw [nxt_succ (by omega)]
    first | (rw [if_pos hc3]; rfl) | (rw [if_neg (by rw [hc3]; simp)])
   ·show k + 1 ≤ L.length; omega
   ·omega
  rw [bit_rem] at hc3
  refine ZH (Qc ?_)
  refine Rr (Z1 rfl rfl omg) ?_
  refine Rr (mvI rfl) ?_
  refine Qg ?_
  refine ⟨k + 1, ⟨sT, ?_, trivial⟩, oT, ⟨?_, hXL6⟩, ?_⟩
  ·refine congrArg u64 ?_
   rw [nxt_succ (by omega)]
   first | (rw [if_pos hc3]; rfl) | (rw [if_neg (by rw [hc3]; simp)])
  ·show k + 1 ≤ L.length; omega
  ·omega
 replace hc2 := dcF hc2
 refine Z4 (ZX (QH (QH (Qc ?_))))
 have hkL : L.take k = L := List.take_of_length_le (by omega)
 rw [hkL]
 refine Rr (mvI rfl) ?_
 refine Rr (mvI rfl) ?_
 refine Rr (o_eqU rfl rfl) ?_
 refine Qg ?_
 refine ZG rfl (fun hc4 => ?_) (fun hc4 => ?_)
 ·refine QH (Qc ?_)
  refine Rr (mvI rfl) ?_
  refine Rr (asI rfl) ?_
  refine Qg (ZJ ?_)
  refine ⟨_, ZF rfl rfl, ?_⟩
  refine ⟨congrArg u64 ?_, hX⟩
  all_goals (exact (hj.done (by simpa using hc4)).uniq hJ)
 refine ZH (Qc ?_)
 refine Rr (mvI rfl) ?_
 refine Rr (asI rfl) ?_
 refine Qg ?_
 refine ⟨nxt L s, ⟨sT, trivial⟩, oT, ⟨?_, hXL3⟩, ?_⟩
 ·exact hj.next
 ·have h1 := nxt_lt (L := L) (s := s) (by simpa using hc4); have h2 := (nxt L s).isLt; omega

theorem r10imp_ok (a : Option Addr) (c : Nat) (B : Nat → Prop) (L : List Pr) (r s : Fin 64) (J : W64) (w : World) (hs : Sl encPr 2 B w a c L) (hJ : JunIs L r J) (hr : 1 ≤ r.val) (hr2 : 1 ≤ s.val) : Ok Tryz.prog 92 #[.slice a L.length c, .int .i64 (iv r), .int .i64 (iv s)] w fun v w' => v = .bool (J.getLsbD s.val) ∧ Ext False w w' := by
 have hr1 : 1 ≤ iv s ∧ iv s < 64 := by unfold iv; have := s.isLt; omega
 refine ZQ 18 func92 rfl rfl rfl ?_
 have hX := xRf w
 refine QH (Qc ?_)
 refine Rr Zi ?_
 refine Qg (QH (Qc ?_))
 refine Rr (mvI rfl) ?_
 refine ZC rfl (ZK call90 rfl) (Ok.mono (r10role_ok _ _) ?_)
 rintro _ w1 ⟨rfl, x2⟩
 replace hX := hX.ex x2
 replace hs := hs.ext x2
 refine Rr (mvB rfl) ?_
 refine ZP 2 9 rfl (cvB (by simp; omega)) ?_
 refine Rr (mvS rfl) ?_
 refine ZP 2 9 rfl (cvB (by simp; omega)) ?_
 refine Rr (mvI rfl) ?_
 refine ZP 2 9 rfl (cvB (by simp; omega)) ?_
 refine ZC rfl (ZW call126 rfl rfl) (Ok.mono (r10jun_ok _ _ _ _ r J _ hs hJ hr) ?_)
 rintro _ w3 ⟨rfl, x4⟩
 replace hX := hX.ex x4
 refine ZP 2 9 rfl (cvB (by simp; omega)) ?_
 refine Rr (mvI rfl) ?_
 refine ZP 2 9 rfl (cvB (by simp; omega)) ?_
 refine Rr (o_shrU rfl rfl s.isLt) ?_
 refine ZP 2 9 rfl (cvB (by simp; omega)) ?_
 refine Rr (o_uremU (b := BitVec.ofNat 64 2) rfl rfl (by decide)) ?_
 refine ZP 2 9 rfl (cvB (by simp; omega)) ?_
 refine Rr (o_eqU (b := BitVec.ofNat 64 1) rfl rfl) ?_
 refine Rr (Jt (v := .bool _) (cvB (by simp; omega)) rfl) ?_
 refine Rr (asB rfl) ?_
 refine Qg (ZJ ?_)
 refine ⟨_, ZF rfl rfl, ?_⟩
 refine ⟨cvB ?_, hX⟩
 all_goals (exact bit_rem _ _)

theorem r10link_ok (v0 : Value) (B : Nat → Prop) (L : List Pr) (ρ : Fin 64 → Nat) (x y : Fin 64) (w : World) (hs : Rd encPr 2 B w v0 L) (hl : L.length ≤ 1000) (hL : LkOk L ρ) (hxy : ρ x < ρ y) (hp1 : 1 ≤ x.val) (hp2 : 1 ≤ y.val) : Ok Tryz.prog 41 #[v0, .int .i64 (iv x), .int .i64 (iv y)] w fun v w' => LkRes L (x, y) (fun b => B b ∨ Fsh w w' b) v w' ∧ Ext False w w' := by
 obtain ⟨a, c, rfl, hs⟩ := hs
 have hlen := hs.len
 have hx1 : 1 ≤ iv x ∧ iv x < 64 := by unfold iv; have := x.isLt; omega
 have hy1 : 1 ≤ iv y ∧ iv y < 64 := by unfold iv; have := y.isLt; omega
 have hne : x ≠ y := fun e => by rw [e] at hxy; exact Nat.lt_irrefl _ hxy
 obtain ⟨J, hJ⟩ := JunIs.ex L y
 have hac := hL.acyc hxy hJ
 refine ZQ 80 func41 rfl rfl rfl ?_
 have hX := xRf w
 refine QH (Qc ?_)
 refine Rr Zi ?_
 refine Rr Zi ?_
 refine Qg (QH (QH (Qc ?_)))
 refine Rr (mvI rfl) ?_
 refine ZC rfl (ZK call90 rfl) (Ok.mono (r10role_ok _ _) ?_)
 rintro _ w1 ⟨rfl, x2⟩
 have z3 := x2.size
 replace hX := hX.ex x2
 replace hs := hs.ext x2
 refine Rr (Jf rfl) ?_
 refine Rr (mvB rfl) ?_
 refine ZP 3 12 rfl (cvB (by simp; omega)) ?_
 refine Rr (mvI rfl) ?_
 refine ZP 3 12 rfl (cvB (by simp; omega)) ?_
 refine ZC rfl (ZK call90 rfl) (Ok.mono (r10role_ok _ _) ?_)
 rintro _ w4 ⟨rfl, x5⟩
 have z6 := x5.size
 replace hX := hX.ex x5
 replace hs := hs.ext x5
 refine ZP 3 12 rfl (cvB (by simp; omega)) ?_
 refine Rr (Jf rfl) ?_
 refine Rr (Jo (v := .bool _) (cvB (by simp; omega)) rfl) ?_
 refine Rr (mvB rfl) ?_
 refine ZP 8 17 rfl (cvB (by simp; omega)) ?_
 refine Rr (mvI rfl) ?_
 refine ZP 8 17 rfl (cvB (by simp; omega)) ?_
 refine Rr (mvI rfl) ?_
 refine ZP 8 17 rfl (cvB (by simp; omega)) ?_
 refine Rr (ZZ rfl rfl) ?_
 refine Rr (Jo (v := .bool _) (cvB (by simp; omega)) rfl) ?_
 refine Qg ?_
 refine ZY (cvB (by rw [iv_beq]; simpa using hne)) ?_
 refine ZH (QH (QH (Qc ?_)))
 refine Rr (mvS rfl) ?_
 refine Rr (mvI rfl) ?_
 refine Rr (mvI rfl) ?_
 refine ZC rfl (JH call91 rfl rfl rfl) (Ok.mono (r10has_ok _ _ _ _ x y _ hs) ?_)
 rintro _ w7 ⟨rfl, x8⟩
 have z9 := x8.size
 replace hX := hX.ex x8
 replace hs := hs.ext x8
 refine Qg ?_
 refine ZG rfl (fun hc2 => ?_) (fun hc2 => ?_)
 ·have hin : (x, y) ∈ L := by obtain ⟨z, hz, e⟩ := List.any_eq_true.1 hc2; rw [← eq_of_beq e]; exact hz
  refine QH (Qc ?_)
  refine Rr (mvS rfl) ?_
  refine Rr (asS rfl) ?_
  refine Rr Zi ?_
  refine Qg (ZJ ?_)
  refine ⟨_, Je rfl rfl rfl, ?_⟩
  exact ⟨⟨_, L, 5, rfl, (hs.mono (fun g h1 h2 => Or.inl h2)).rd, .inl ⟨hin, rfl⟩⟩, hX⟩
 have hin : (x, y) ∉ L := fun h => by have := List.any_eq_false.1 hc2 _ h; simp at this
 refine ZH (QH (QH (Qc ?_)))
 refine Rr (mvS rfl) ?_
 refine Rr (mvI rfl) ?_
 refine Rr (mvI rfl) ?_
 refine ZC rfl (JH call92 rfl rfl rfl) (Ok.mono (r10imp_ok _ _ _ _ y x J _ hs hJ hp2 hp1) ?_)
 rintro _ w10 ⟨rfl, x11⟩
 have z12 := x11.size
 replace hX := hX.ex x11
 replace hs := hs.ext x11
 refine Qg ?_
 refine ZY (cvB hac) ?_
 refine ZH (QH (Qc ?_))
 refine Rr Zi ?_
 refine Qg (QH (ZM ?_))
 refine Jk (α := Nat) [(8, 8), (33, 65)] (fun k => [(8, .int .i64 (k : Int))]) (fun k w' => (k ≤ L.length) ∧ Ext False w10 w') (fun k => L.length - k) 0 ⟨rfl, trivial⟩ ⟨Nat.zero_le _, Bel.refl _ _⟩ ?_
 rintro k fb15 w14 ⟨hk, hXL13⟩
 have z16 := Bel.size hXL13
 replace hX := hX.ex hXL13
 replace hs := hs.ext hXL13
 refine QH (QH (Qc ?_))
 refine (Decidable.em (k < L.length)).elim (fun hf1 => ?_) (fun hf1 => ?_)
 ·refine Rr (mvI rfl) ?_
  refine (Decidable.em (iv (L.getD k pz0).1 < iv x)).elim (fun hf2 => ?_) (fun hf2 => ?_)
  ·refine Rr (mvS rfl) ?_
   refine Rr (Z0 underlying31 rfl) ?_
   refine Rr (Z5 rfl rfl) ?_
   refine Rr (mvB rfl) ?_
   refine ZP 4 37 rfl (cvB (decide_eq_true (by omega))) ?_
   refine Rr (mvS rfl) ?_
   refine ZP 4 37 rfl (cvB (decide_eq_true (by omega))) ?_
   refine Rr (mvI rfl) ?_
   refine ZP 4 37 rfl (cvB (decide_eq_true (by omega))) ?_
   refine Rr (Js underlying31 sizeOf103 hs rfl rfl omg) ?_
   refine ZP 4 37 rfl (cvB (decide_eq_true (by omega))) ?_
   refine Rr (o_iaE (j := 0) underlying103 sizeOf3 hs rfl (Jw pz0 (by omega)) rfl (by decide)) ?_
   refine ZP 4 37 rfl (cvB (decide_eq_true (by omega))) ?_
   refine Rr (o_ldE (j := 0) isAgg3 hs rfl (Jw pz0 (by omega)) rfl) ?_
   refine ZP 4 37 rfl (cvB (decide_eq_true (by omega))) ?_
   refine Rr (mvI rfl) ?_
   refine ZP 4 37 rfl (cvB (decide_eq_true (by omega))) ?_
   refine Rr (Z5 rfl rfl) ?_
   refine ZP 4 37 rfl (cvB (decide_eq_true (by omega))) ?_
   refine Rr (mvB rfl) ?_
   refine ZR 12 45 rfl rfl (cvB (decide_eq_true hf2)) rfl rfl ?_
   refine ZR 12 45 rfl rfl (cvB (decide_eq_true hf2)) rfl rfl ?_
   refine ZR 12 45 rfl rfl (cvB (decide_eq_true hf2)) rfl rfl ?_
   refine ZR 12 45 rfl rfl (cvB (decide_eq_true hf2)) rfl rfl ?_
   refine ZR 12 45 rfl rfl (cvB (decide_eq_true hf2)) rfl rfl ?_
   refine ZR 12 45 rfl rfl (cvB (decide_eq_true hf2)) rfl rfl ?_
   refine ZR 12 45 rfl rfl (cvB (decide_eq_true hf2)) rfl rfl ?_
   refine ZR 12 45 rfl rfl (cvB (decide_eq_true hf2)) rfl rfl ?_
   refine JC 20 53 rfl rfl rfl rfl ?_
   refine JC 20 53 rfl rfl rfl rfl ?_
   refine JC 20 53 rfl rfl rfl rfl ?_
   refine JC 20 53 rfl rfl rfl rfl ?_
   refine JC 20 53 rfl rfl rfl rfl ?_
   refine JC 20 53 rfl rfl rfl rfl ?_
   refine JC 20 53 rfl rfl rfl rfl ?_
   refine ZR 12 45 rfl rfl (cvB (decide_eq_true hf2)) rfl rfl ?_
   refine ZP 4 37 rfl (cvB (decide_eq_true (by omega))) ?_
   refine Rr (Jt (v := .bool _) (cvB (decide_eq_true hf2)) rfl) ?_
   refine Rr (Jt (v := .bool _) (cvB (decide_eq_true (by omega))) rfl) ?_
   refine Qg ?_
   refine Jc rfl ?_
   refine ZH (ZM (Qc ?_))
   refine Rr (mvI rfl) ?_
   refine Rr (Z1 rfl rfl (by unfold I64; omega)) ?_
   refine Rr (asI rfl) ?_
   refine Qg ?_
   refine ⟨k + 1, ⟨sT, trivial⟩, oT, ⟨?_, hXL13⟩, ?_⟩
   ·show k + 1 ≤ L.length; omega
   ·omega
  refine Rr (mvS rfl) ?_
  refine (Decidable.em (iv (L.getD k pz0).1 = iv x)).elim (fun hf3 => ?_) (fun hf3 => ?_)
  ·refine Rr (Z0 underlying31 rfl) ?_
   refine Rr (Z5 rfl rfl) ?_
   refine Rr (mvB rfl) ?_
   refine ZP 4 37 rfl (cvB (decide_eq_true (by omega))) ?_
   refine Rr (mvS rfl) ?_
   refine ZP 4 37 rfl (cvB (decide_eq_true (by omega))) ?_
   refine Rr (mvI rfl) ?_
   refine ZP 4 37 rfl (cvB (decide_eq_true (by omega))) ?_
   refine Rr (Js underlying31 sizeOf103 hs rfl rfl omg) ?_
   refine ZP 4 37 rfl (cvB (decide_eq_true (by omega))) ?_
   refine Rr (o_iaE (j := 0) underlying103 sizeOf3 hs rfl (Jw pz0 (by omega)) rfl (by decide)) ?_
   refine ZP 4 37 rfl (cvB (decide_eq_true (by omega))) ?_
   refine Rr (o_ldE (j := 0) isAgg3 hs rfl (Jw pz0 (by omega)) rfl) ?_
   refine ZP 4 37 rfl (cvB (decide_eq_true (by omega))) ?_
   refine Rr (mvI rfl) ?_
   refine ZP 4 37 rfl (cvB (decide_eq_true (by omega))) ?_
   refine Rr (Z5 rfl rfl) ?_
   refine ZP 4 37 rfl (cvB (decide_eq_true (by omega))) ?_
   refine Rr (mvB rfl) ?_
   refine ZP 12 45 rfl (cvB (decide_eq_false hf2)) ?_
   refine Rr (mvS rfl) ?_
   refine ZP 12 45 rfl (cvB (decide_eq_false hf2)) ?_
   refine Rr (mvI rfl) ?_
   refine ZP 12 45 rfl (cvB (decide_eq_false hf2)) ?_
   refine Rr (Js underlying31 sizeOf103 hs rfl rfl omg) ?_
   refine ZP 12 45 rfl (cvB (decide_eq_false hf2)) ?_
   refine Rr (o_iaE (j := 0) underlying103 sizeOf3 hs rfl (Jw pz0 (by omega)) rfl (by decide)) ?_
   refine ZP 12 45 rfl (cvB (decide_eq_false hf2)) ?_
   refine Rr (o_ldE (j := 0) isAgg3 hs rfl (Jw pz0 (by omega)) rfl) ?_
   refine ZP 12 45 rfl (cvB (decide_eq_false hf2)) ?_
   refine Rr (mvI rfl) ?_
   refine ZP 12 45 rfl (cvB (decide_eq_false hf2)) ?_
   refine Rr (ZZ rfl rfl) ?_
   refine ZP 12 45 rfl (cvB (decide_eq_false hf2)) ?_
   refine Rr (mvB rfl) ?_
   refine ZP 20 53 rfl (cvB (beq_iff_eq.2 hf3)) ?_
   refine Rr (mvS rfl) ?_
   refine ZP 20 53 rfl (cvB (beq_iff_eq.2 hf3)) ?_
   refine Rr (mvI rfl) ?_
   refine ZP 20 53 rfl (cvB (beq_iff_eq.2 hf3)) ?_
   refine Rr (Js underlying31 sizeOf103 hs rfl rfl omg) ?_
   refine ZP 20 53 rfl (cvB (beq_iff_eq.2 hf3)) ?_
   refine Rr (o_iaE (j := 1) underlying103 sizeOf3 hs rfl (Jw pz0 (by omega)) rfl (by decide)) ?_
   refine ZP 20 53 rfl (cvB (beq_iff_eq.2 hf3)) ?_
   refine Rr (o_ldE (j := 1) isAgg3 hs rfl (Jw pz0 (by omega)) rfl) ?_
   refine ZP 20 53 rfl (cvB (beq_iff_eq.2 hf3)) ?_
   refine Rr (mvI rfl) ?_
   refine ZP 20 53 rfl (cvB (beq_iff_eq.2 hf3)) ?_
   refine Rr (Z5 rfl rfl) ?_
   refine ZP 12 45 rfl (cvB (decide_eq_false hf2)) ?_
   refine Rr (Jt (v := .bool _) (cvB (beq_iff_eq.2 hf3)) rfl) ?_
   refine ZP 4 37 rfl (cvB (decide_eq_true (by omega))) ?_
   refine Rr (Jo (v := .bool _) (cvB (decide_eq_false hf2)) rfl) ?_
   refine Rr (Jt (v := .bool _) (cvB (decide_eq_true (by omega))) rfl) ?_
   refine Qg ?_
   refine ZG rfl (fun hc5 => ?_) (fun hc5 => ?_)
   ·refine ZH (ZM (Qc ?_))
    refine Rr (mvI rfl) ?_
    refine Rr (Z1 rfl rfl (by unfold I64; omega)) ?_
    refine Rr (asI rfl) ?_
    refine Qg ?_
    refine ⟨k + 1, ⟨sT, trivial⟩, oT, ⟨?_, hXL13⟩, ?_⟩
    ·show k + 1 ≤ L.length; omega
    ·omega
   refine Z4 (ZX (QH ?_))
   obtain ⟨n1, hn1⟩ : ∃ n, n = w14.heap.size := ⟨_, rfl⟩
   apply JA (β := False) (fun _ => 0) [(fun v w c => ∃ a, v = .slice a 0 0 ∧ postOwn encPr 2 103 1 ([] : List Pr) v w c), peqC _, peqC _, peqC _, (postOwn encPr 2 103 1 (L.take k)), peqC _, peqC _, peqC _, (fun v w c => ∃ a, v = .slice a 1 1 ∧ postOwn encPr 2 103 0 [(x, y)] v w c), (postOwn encPr 2 103 1 (L.take k ++ [(x, y)])), peqC _, peqC _, peqC _, (postOwn encPr 2 103 1 (L.take k ++ [(x, y)] ++ L.drop k))] [1, 0, 0, 0, 1, 0, 0, 0, 0, 1, 0, 0, 0, 1] 14 Jz (by kernel_rfl) (by kernel_rfl) rfl ⟨(J4), Q4 _ _, Q4 _ _, Q4 _ _, (Jm), Q4 _ _, Q4 _ _, Q4 _ _, (J4), (Jm), Q4 _ _, Q4 _ _, Q4 _ _, (Jm), trivial⟩ ?ob10 ?fin10
   case ob10 =>
    refine Zb (fun w17 c19 x18 hc020 hk21 => ?_) ?_
    ·replace x18 := RelG.ext0 x18
     have z22 := x18.size
     refine QU ?_
     exact OpC_bs (vs := []) ([] : List Pr) JF el_pr rfl rfl trivial rfl rfl rfl rfl
    refine Zb (fun w23 c25 x24 hc026 hk27 => ?_) ?_
    ·replace x24 := RelG.ext0 x24
     have z28 := x24.size
     refine QU ?_
     exact ZL rfl (mvS rfl)
    refine Zb (fun w29 c31 x30 hc032 hk33 => ?_) ?_
    ·replace x30 := RelG.ext0 x30
     have z34 := x30.size
     refine QU ?_
     exact ZL rfl (mvI rfl)
    refine Zb (fun w35 c37 x36 hc038 hk39 => ?_) ?_
    ·replace x36 := RelG.ext0 x36
     have z40 := x36.size
     have hs := hs.ext x36
     refine Qk (Qk (QU ?_))
     exact ZL rfl (o_slto (j := k) underlying31 sizeOf103 rfl rfl (by have := hs.le; omega))
    refine Zb (fun w41 c43 x42 hc044 hk45 => ?_) ?_
    ·replace x42 := RelG.ext0 x42
     have z46 := x42.size
     have hs := hs.ext x42
     refine ZE (fun v66 hv66 => ?_)
     refine Qk (QU ?_)
     obtain ⟨a66, rfl, ho66⟩ := hv66
     exact Yd (l := []) (news := L.take k) (by decide) JF el_pr rfl rfl ho66 (hs.take k) (by rw [List.length_take]; omega) (by simp; omega)
    refine Zb (fun w47 c49 x48 hc050 hk51 => ?_) ?_
    ·replace x48 := RelG.ext0 x48
     have z52 := x48.size
     refine QU ?_
     exact ZL rfl (mvI rfl)
    refine Zb (fun w53 c55 x54 hc056 hk57 => ?_) ?_
    ·replace x54 := RelG.ext0 x54
     have z58 := x54.size
     refine QU ?_
     exact ZL rfl (mvI rfl)
    refine Zb (fun w59 c61 x60 hc062 hk63 => ?_) ?_
    ·replace x60 := RelG.ext0 x60
     have z64 := x60.size
     refine Qk (Qk (QU ?_))
     exact ZL rfl (Z7 (cells := encPr (x, y)) (vs := [(0, .int _ _), (1, .int _ _)]) rfl (by kernel_rfl))
    refine Zb (fun w65 c67 x66 hc068 hk69 => ?_) ?_
    ·replace x66 := RelG.ext0 x66
     have z70 := x66.size
     refine Qk (QU ?_)
     exact OpC_bs (vs := [.agg _]) [(x, y)] JF el_pr rfl rfl ⟨rfl, trivial⟩ rfl rfl rfl rfl
    refine Zb (fun w71 c73 x72 hc074 hk75 => ?_) ?_
    ·replace x72 := RelG.ext0 x72
     have z76 := x72.size
     refine ZE (fun v70 hv70 => ?_)
     refine ZE (fun v74 hv74 => ?_)
     refine ZE (fun v70 hv70 => ?_)
     refine QU ?_
     obtain ⟨a74, rfl, ho74⟩ := hv74
     exact Yd (by decide) JF el_pr rfl rfl hv70 (Own.slA ho74 JF) rfl (by simp; omega)
    refine Zb (fun w77 c79 x78 hc080 hk81 => ?_) ?_
    ·replace x78 := RelG.ext0 x78
     have z82 := x78.size
     refine QU ?_
     exact ZL rfl (mvS rfl)
    refine Zb (fun w83 c85 x84 hc086 hk87 => ?_) ?_
    ·replace x84 := RelG.ext0 x84
     have z88 := x84.size
     refine QU ?_
     exact ZL rfl (mvI rfl)
    refine Zb (fun w89 c91 x90 hc092 hk93 => ?_) ?_
    ·replace x90 := RelG.ext0 x90
     have z94 := x90.size
     have hs := hs.ext x90
     refine Qk (Qk (QU ?_))
     exact ZL rfl (o_slfrom2 (j := k) underlying31 sizeOf103 rfl rfl hk hs.le)
    refine Zb (fun w95 c97 x96 hc098 hk99 => ?_) ?_
    ·replace x96 := RelG.ext0 x96
     have z100 := x96.size
     have hs := hs.ext x96
     refine ZE (fun v75 hv75 => ?_)
     refine Qk ?_
     refine ZE (fun v75 hv75 => ?_)
     refine QU ?_
     exact Yd (by decide) JF el_pr rfl rfl hv75 (hs.drop hk) (by simp) (by simp; omega)
    exact Jv
   case fin10 =>
    intro w101 c103 x102 hc0104
    replace x102 := RelG.ext0 x102
    have z105 := x102.size
    replace hX := hX.ex x102
    refine ZE (fun v66 _ => ?_)
    refine Qk (Qk (Qk ?_))
    refine ZE (fun v70 _ => ?_)
    refine Qk (Qk (Qk ?_))
    refine ZE (fun v74 hv74 => ?_)
    refine ZE (fun v75 _ => ?_)
    refine Qk (Qk (Qk ?_))
    refine ZE (fun v79 hv79 => ?_)
    refine QU ?_
    change Own _ _ _ _ _ _ _ at hv79
    replace hv79 := Own.mono hv79 (D' := fun g => n1 ≤ g) (fun g h1 h2 => Nat.le_of_not_lt fun q => by have h := hc0104 g (by omega); rw [h2] at h; simp at h)
    refine Rr (ZD (v := v79) rfl) ?_
    refine Rr Zi ?_
    refine Qg (ZJ ?_)
    refine ⟨_, Je rfl rfl rfl, ?_⟩
    rw [List.append_assoc] at hv79
    exact ⟨⟨v79, _, 0, rfl, (hv79.mono (fun g h1 h2 => Or.inr ⟨by omega, h1⟩)).rd JF, .inr ⟨hin, k, hk, rfl⟩⟩, hX⟩
  refine Rr (Z0 underlying31 rfl) ?_
  refine Rr (Z5 rfl rfl) ?_
  refine Rr (mvB rfl) ?_
  refine ZP 4 37 rfl (cvB (decide_eq_true (by omega))) ?_
  refine Rr (mvS rfl) ?_
  refine ZP 4 37 rfl (cvB (decide_eq_true (by omega))) ?_
  refine Rr (mvI rfl) ?_
  refine ZP 4 37 rfl (cvB (decide_eq_true (by omega))) ?_
  refine Rr (Js underlying31 sizeOf103 hs rfl rfl omg) ?_
  refine ZP 4 37 rfl (cvB (decide_eq_true (by omega))) ?_
  refine Rr (o_iaE (j := 0) underlying103 sizeOf3 hs rfl (Jw pz0 (by omega)) rfl (by decide)) ?_
  refine ZP 4 37 rfl (cvB (decide_eq_true (by omega))) ?_
  refine Rr (o_ldE (j := 0) isAgg3 hs rfl (Jw pz0 (by omega)) rfl) ?_
  refine ZP 4 37 rfl (cvB (decide_eq_true (by omega))) ?_
  refine Rr (mvI rfl) ?_
  refine ZP 4 37 rfl (cvB (decide_eq_true (by omega))) ?_
  refine Rr (Z5 rfl rfl) ?_
  refine ZP 4 37 rfl (cvB (decide_eq_true (by omega))) ?_
  refine Rr (mvB rfl) ?_
  refine ZP 12 45 rfl (cvB (decide_eq_false hf2)) ?_
  refine Rr (mvS rfl) ?_
  refine ZP 12 45 rfl (cvB (decide_eq_false hf2)) ?_
  refine Rr (mvI rfl) ?_
  refine ZP 12 45 rfl (cvB (decide_eq_false hf2)) ?_
  refine Rr (Js underlying31 sizeOf103 hs rfl rfl omg) ?_
  refine ZP 12 45 rfl (cvB (decide_eq_false hf2)) ?_
  refine Rr (o_iaE (j := 0) underlying103 sizeOf3 hs rfl (Jw pz0 (by omega)) rfl (by decide)) ?_
  refine ZP 12 45 rfl (cvB (decide_eq_false hf2)) ?_
  refine Rr (o_ldE (j := 0) isAgg3 hs rfl (Jw pz0 (by omega)) rfl) ?_
  refine ZP 12 45 rfl (cvB (decide_eq_false hf2)) ?_
  refine Rr (mvI rfl) ?_
  refine ZP 12 45 rfl (cvB (decide_eq_false hf2)) ?_
  refine Rr (ZZ rfl rfl) ?_
  refine ZP 12 45 rfl (cvB (decide_eq_false hf2)) ?_
  refine Rr (mvB rfl) ?_
  refine ZR 20 53 rfl rfl (cvB (neF hf3)) rfl rfl ?_
  refine ZR 20 53 rfl rfl (cvB (neF hf3)) rfl rfl ?_
  refine ZR 20 53 rfl rfl (cvB (neF hf3)) rfl rfl ?_
  refine ZR 20 53 rfl rfl (cvB (neF hf3)) rfl rfl ?_
  refine ZR 20 53 rfl rfl (cvB (neF hf3)) rfl rfl ?_
  refine ZR 20 53 rfl rfl (cvB (neF hf3)) rfl rfl ?_
  refine ZR 20 53 rfl rfl (cvB (neF hf3)) rfl rfl ?_
  refine ZP 12 45 rfl (cvB (decide_eq_false hf2)) ?_
  refine Rr (Jo (v := .bool _) (cvB (neF hf3)) rfl) ?_
  refine ZP 4 37 rfl (cvB (decide_eq_true (by omega))) ?_
  refine Rr (Jo (v := .bool _) (cvB (decide_eq_false hf2)) rfl) ?_
  refine Rr (Jt (v := .bool _) (cvB (decide_eq_true (by omega))) rfl) ?_
  refine Qg ?_
  refine ZY rfl ?_
  refine Z4 (ZX (QH ?_))
  obtain ⟨n1, hn1⟩ : ∃ n, n = w14.heap.size := ⟨_, rfl⟩
  apply JA (β := False) (fun _ => 0) [(fun v w c => ∃ a, v = .slice a 0 0 ∧ postOwn encPr 2 103 1 ([] : List Pr) v w c), peqC _, peqC _, peqC _, (postOwn encPr 2 103 1 (L.take k)), peqC _, peqC _, peqC _, (fun v w c => ∃ a, v = .slice a 1 1 ∧ postOwn encPr 2 103 0 [(x, y)] v w c), (postOwn encPr 2 103 1 (L.take k ++ [(x, y)])), peqC _, peqC _, peqC _, (postOwn encPr 2 103 1 (L.take k ++ [(x, y)] ++ L.drop k))] [1, 0, 0, 0, 1, 0, 0, 0, 0, 1, 0, 0, 0, 1] 14 Jz (by kernel_rfl) (by kernel_rfl) rfl ⟨(J4), Q4 _ _, Q4 _ _, Q4 _ _, (Jm), Q4 _ _, Q4 _ _, Q4 _ _, (J4), (Jm), Q4 _ _, Q4 _ _, Q4 _ _, (Jm), trivial⟩ ?ob10 ?fin10
  case ob10 =>
   refine Zb (fun w106 c108 x107 hc0109 hk110 => ?_) ?_
   ·replace x107 := RelG.ext0 x107
    have z111 := x107.size
    refine QU ?_
    exact OpC_bs (vs := []) ([] : List Pr) JF el_pr rfl rfl trivial rfl rfl rfl rfl
   refine Zb (fun w112 c114 x113 hc0115 hk116 => ?_) ?_
   ·replace x113 := RelG.ext0 x113
    have z117 := x113.size
    refine QU ?_
    exact ZL rfl (mvS rfl)
   refine Zb (fun w118 c120 x119 hc0121 hk122 => ?_) ?_
   ·replace x119 := RelG.ext0 x119
    have z123 := x119.size
    refine QU ?_
    exact ZL rfl (mvI rfl)
   refine Zb (fun w124 c126 x125 hc0127 hk128 => ?_) ?_
   ·replace x125 := RelG.ext0 x125
    have z129 := x125.size
    have hs := hs.ext x125
    refine Qk (Qk (QU ?_))
    exact ZL rfl (o_slto (j := k) underlying31 sizeOf103 rfl rfl (by have := hs.le; omega))
   refine Zb (fun w130 c132 x131 hc0133 hk134 => ?_) ?_
   ·replace x131 := RelG.ext0 x131
    have z135 := x131.size
    have hs := hs.ext x131
    refine ZE (fun v66 hv66 => ?_)
    refine Qk (QU ?_)
    obtain ⟨a66, rfl, ho66⟩ := hv66
    exact Yd (l := []) (news := L.take k) (by decide) JF el_pr rfl rfl ho66 (hs.take k) (by rw [List.length_take]; omega) (by simp; omega)
   refine Zb (fun w136 c138 x137 hc0139 hk140 => ?_) ?_
   ·replace x137 := RelG.ext0 x137
    have z141 := x137.size
    refine QU ?_
    exact ZL rfl (mvI rfl)
   refine Zb (fun w142 c144 x143 hc0145 hk146 => ?_) ?_
   ·replace x143 := RelG.ext0 x143
    have z147 := x143.size
    refine QU ?_
    exact ZL rfl (mvI rfl)
   refine Zb (fun w148 c150 x149 hc0151 hk152 => ?_) ?_
   ·replace x149 := RelG.ext0 x149
    have z153 := x149.size
    refine Qk (Qk (QU ?_))
    exact ZL rfl (Z7 (cells := encPr (x, y)) (vs := [(0, .int _ _), (1, .int _ _)]) rfl (by kernel_rfl))
   refine Zb (fun w154 c156 x155 hc0157 hk158 => ?_) ?_
   ·replace x155 := RelG.ext0 x155
    have z159 := x155.size
    refine Qk (QU ?_)
    exact OpC_bs (vs := [.agg _]) [(x, y)] JF el_pr rfl rfl ⟨rfl, trivial⟩ rfl rfl rfl rfl
   refine Zb (fun w160 c162 x161 hc0163 hk164 => ?_) ?_
   ·replace x161 := RelG.ext0 x161
    have z165 := x161.size
    refine ZE (fun v70 hv70 => ?_)
    refine ZE (fun v74 hv74 => ?_)
    refine ZE (fun v70 hv70 => ?_)
    refine QU ?_
    obtain ⟨a74, rfl, ho74⟩ := hv74
    exact Yd (by decide) JF el_pr rfl rfl hv70 (Own.slA ho74 JF) rfl (by simp; omega)
   refine Zb (fun w166 c168 x167 hc0169 hk170 => ?_) ?_
   ·replace x167 := RelG.ext0 x167
    have z171 := x167.size
    refine QU ?_
    exact ZL rfl (mvS rfl)
   refine Zb (fun w172 c174 x173 hc0175 hk176 => ?_) ?_
   ·replace x173 := RelG.ext0 x173
    have z177 := x173.size
    refine QU ?_
    exact ZL rfl (mvI rfl)
   refine Zb (fun w178 c180 x179 hc0181 hk182 => ?_) ?_
   ·replace x179 := RelG.ext0 x179
    have z183 := x179.size
    have hs := hs.ext x179
    refine Qk (Qk (QU ?_))
    exact ZL rfl (o_slfrom2 (j := k) underlying31 sizeOf103 rfl rfl hk hs.le)
   refine Zb (fun w184 c186 x185 hc0187 hk188 => ?_) ?_
   ·replace x185 := RelG.ext0 x185
    have z189 := x185.size
    have hs := hs.ext x185
    refine ZE (fun v75 hv75 => ?_)
    refine Qk ?_
    refine ZE (fun v75 hv75 => ?_)
    refine QU ?_
    exact Yd (by decide) JF el_pr rfl rfl hv75 (hs.drop hk) (by simp) (by simp; omega)
   exact Jv
  case fin10 =>
   intro w190 c192 x191 hc0193
   replace x191 := RelG.ext0 x191
   have z194 := x191.size
   replace hX := hX.ex x191
   refine ZE (fun v66 _ => ?_)
   refine Qk (Qk (Qk ?_))
   refine ZE (fun v70 _ => ?_)
   refine Qk (Qk (Qk ?_))
   refine ZE (fun v74 hv74 => ?_)
   refine ZE (fun v75 _ => ?_)
   refine Qk (Qk (Qk ?_))
   refine ZE (fun v79 hv79 => ?_)
   refine QU ?_
   change Own _ _ _ _ _ _ _ at hv79
   replace hv79 := Own.mono hv79 (D' := fun g => n1 ≤ g) (fun g h1 h2 => Nat.le_of_not_lt fun q => by have h := hc0193 g (by omega); rw [h2] at h; simp at h)
   refine Rr (ZD (v := v79) rfl) ?_
   refine Rr Zi ?_
   refine Qg (ZJ ?_)
   refine ⟨_, Je rfl rfl rfl, ?_⟩
   rw [List.append_assoc] at hv79
   exact ⟨⟨v79, _, 0, rfl, (hv79.mono (fun g h1 h2 => Or.inr ⟨by omega, h1⟩)).rd JF, .inr ⟨hin, k, hk, rfl⟩⟩, hX⟩
 refine Rr (mvI rfl) ?_
 refine Rr (mvS rfl) ?_
 refine Rr (Z0 underlying31 rfl) ?_
 refine Rr (Z5 rfl rfl) ?_
 refine Rr (mvB rfl) ?_
 refine ZR 4 37 rfl rfl (cvB (decide_eq_false (by omega))) rfl rfl ?_
 refine ZR 4 37 rfl rfl (cvB (decide_eq_false (by omega))) rfl rfl ?_
 refine ZR 4 37 rfl rfl (cvB (decide_eq_false (by omega))) rfl rfl ?_
 refine ZR 4 37 rfl rfl (cvB (decide_eq_false (by omega))) rfl rfl ?_
 refine ZR 4 37 rfl rfl (cvB (decide_eq_false (by omega))) rfl rfl ?_
 refine ZR 4 37 rfl rfl (cvB (decide_eq_false (by omega))) rfl rfl ?_
 refine ZR 4 37 rfl rfl (cvB (decide_eq_false (by omega))) rfl rfl ?_
 refine ZR 4 37 rfl rfl (cvB (decide_eq_false (by omega))) rfl rfl ?_
 refine JC 12 45 rfl rfl rfl rfl ?_
 refine JC 12 45 rfl rfl rfl rfl ?_
 refine JC 12 45 rfl rfl rfl rfl ?_
 refine JC 12 45 rfl rfl rfl rfl ?_
 refine JC 12 45 rfl rfl rfl rfl ?_
 refine JC 12 45 rfl rfl rfl rfl ?_
 refine JC 12 45 rfl rfl rfl rfl ?_
 refine JC 12 45 rfl rfl rfl rfl ?_
 refine JC 20 53 rfl rfl rfl rfl ?_
 refine JC 20 53 rfl rfl rfl rfl ?_
 refine JC 20 53 rfl rfl rfl rfl ?_
 refine JC 20 53 rfl rfl rfl rfl ?_
 refine JC 20 53 rfl rfl rfl rfl ?_
 refine JC 20 53 rfl rfl rfl rfl ?_
 refine JC 20 53 rfl rfl rfl rfl ?_
 refine JC 12 45 rfl rfl rfl rfl ?_
 refine ZR 4 37 rfl rfl (cvB (decide_eq_false (by omega))) rfl rfl ?_
 refine Rr (Jo (v := .bool _) (cvB (decide_eq_false (by omega))) rfl) ?_
 refine Qg ?_
 refine ZY rfl ?_
 refine Z4 (ZX (QH ?_))
 obtain ⟨n1, hn1⟩ : ∃ n, n = w14.heap.size := ⟨_, rfl⟩
 apply JA (β := False) (fun _ => 0) [(fun v w c => ∃ a, v = .slice a 0 0 ∧ postOwn encPr 2 103 1 ([] : List Pr) v w c), peqC _, peqC _, peqC _, (postOwn encPr 2 103 1 (L.take k)), peqC _, peqC _, peqC _, (fun v w c => ∃ a, v = .slice a 1 1 ∧ postOwn encPr 2 103 0 [(x, y)] v w c), (postOwn encPr 2 103 1 (L.take k ++ [(x, y)])), peqC _, peqC _, peqC _, (postOwn encPr 2 103 1 (L.take k ++ [(x, y)] ++ L.drop k))] [1, 0, 0, 0, 1, 0, 0, 0, 0, 1, 0, 0, 0, 1] 14 Jz (by kernel_rfl) (by kernel_rfl) rfl ⟨(J4), Q4 _ _, Q4 _ _, Q4 _ _, (Jm), Q4 _ _, Q4 _ _, Q4 _ _, (J4), (Jm), Q4 _ _, Q4 _ _, Q4 _ _, (Jm), trivial⟩ ?ob10 ?fin10
 case ob10 =>
  refine Zb (fun w195 c197 x196 hc0198 hk199 => ?_) ?_
  ·replace x196 := RelG.ext0 x196
   have z200 := x196.size
   refine QU ?_
   exact OpC_bs (vs := []) ([] : List Pr) JF el_pr rfl rfl trivial rfl rfl rfl rfl
  refine Zb (fun w201 c203 x202 hc0204 hk205 => ?_) ?_
  ·replace x202 := RelG.ext0 x202
   have z206 := x202.size
   refine QU ?_
   exact ZL rfl (mvS rfl)
  refine Zb (fun w207 c209 x208 hc0210 hk211 => ?_) ?_
  ·replace x208 := RelG.ext0 x208
   have z212 := x208.size
   refine QU ?_
   exact ZL rfl (mvI rfl)
  refine Zb (fun w213 c215 x214 hc0216 hk217 => ?_) ?_
  ·replace x214 := RelG.ext0 x214
   have z218 := x214.size
   have hs := hs.ext x214
   refine Qk (Qk (QU ?_))
   exact ZL rfl (o_slto (j := k) underlying31 sizeOf103 rfl rfl (by have := hs.le; omega))
  refine Zb (fun w219 c221 x220 hc0222 hk223 => ?_) ?_
  ·replace x220 := RelG.ext0 x220
   have z224 := x220.size
   have hs := hs.ext x220
   refine ZE (fun v66 hv66 => ?_)
   refine Qk (QU ?_)
   obtain ⟨a66, rfl, ho66⟩ := hv66
   exact Yd (l := []) (news := L.take k) (by decide) JF el_pr rfl rfl ho66 (hs.take k) (by rw [List.length_take]; omega) (by simp; omega)
  refine Zb (fun w225 c227 x226 hc0228 hk229 => ?_) ?_
  ·replace x226 := RelG.ext0 x226
   have z230 := x226.size
   refine QU ?_
   exact ZL rfl (mvI rfl)
  refine Zb (fun w231 c233 x232 hc0234 hk235 => ?_) ?_
  ·replace x232 := RelG.ext0 x232
   have z236 := x232.size
   refine QU ?_
   exact ZL rfl (mvI rfl)
  refine Zb (fun w237 c239 x238 hc0240 hk241 => ?_) ?_
  ·replace x238 := RelG.ext0 x238
   have z242 := x238.size
   refine Qk (Qk (QU ?_))
   exact ZL rfl (Z7 (cells := encPr (x, y)) (vs := [(0, .int _ _), (1, .int _ _)]) rfl (by kernel_rfl))
  refine Zb (fun w243 c245 x244 hc0246 hk247 => ?_) ?_
  ·replace x244 := RelG.ext0 x244
   have z248 := x244.size
   refine Qk (QU ?_)
   exact OpC_bs (vs := [.agg _]) [(x, y)] JF el_pr rfl rfl ⟨rfl, trivial⟩ rfl rfl rfl rfl
  refine Zb (fun w249 c251 x250 hc0252 hk253 => ?_) ?_
  ·replace x250 := RelG.ext0 x250
   have z254 := x250.size
   refine ZE (fun v70 hv70 => ?_)
   refine ZE (fun v74 hv74 => ?_)
   refine ZE (fun v70 hv70 => ?_)
   refine QU ?_
   obtain ⟨a74, rfl, ho74⟩ := hv74
   exact Yd (by decide) JF el_pr rfl rfl hv70 (Own.slA ho74 JF) rfl (by simp; omega)
  refine Zb (fun w255 c257 x256 hc0258 hk259 => ?_) ?_
  ·replace x256 := RelG.ext0 x256
   have z260 := x256.size
   refine QU ?_
   exact ZL rfl (mvS rfl)
  refine Zb (fun w261 c263 x262 hc0264 hk265 => ?_) ?_
  ·replace x262 := RelG.ext0 x262
   have z266 := x262.size
   refine QU ?_
   exact ZL rfl (mvI rfl)
  refine Zb (fun w267 c269 x268 hc0270 hk271 => ?_) ?_
  ·replace x268 := RelG.ext0 x268
   have z272 := x268.size
   have hs := hs.ext x268
   refine Qk (Qk (QU ?_))
   exact ZL rfl (o_slfrom2 (j := k) underlying31 sizeOf103 rfl rfl hk hs.le)
  refine Zb (fun w273 c275 x274 hc0276 hk277 => ?_) ?_
  ·replace x274 := RelG.ext0 x274
   have z278 := x274.size
   have hs := hs.ext x274
   refine ZE (fun v75 hv75 => ?_)
   refine Qk ?_
   refine ZE (fun v75 hv75 => ?_)
   refine QU ?_
   exact Yd (by decide) JF el_pr rfl rfl hv75 (hs.drop hk) (by simp) (by simp; omega)
  exact Jv
 case fin10 =>
  intro w279 c281 x280 hc0282
  replace x280 := RelG.ext0 x280
  have z283 := x280.size
  replace hX := hX.ex x280
  refine ZE (fun v66 _ => ?_)
  refine Qk (Qk (Qk ?_))
  refine ZE (fun v70 _ => ?_)
  refine Qk (Qk (Qk ?_))
  refine ZE (fun v74 hv74 => ?_)
  refine ZE (fun v75 _ => ?_)
  refine Qk (Qk (Qk ?_))
  refine ZE (fun v79 hv79 => ?_)
  refine QU ?_
  change Own _ _ _ _ _ _ _ at hv79
  replace hv79 := Own.mono hv79 (D' := fun g => n1 ≤ g) (fun g h1 h2 => Nat.le_of_not_lt fun q => by have h := hc0282 g (by omega); rw [h2] at h; simp at h)
  refine Rr (ZD (v := v79) rfl) ?_
  refine Rr Zi ?_
  refine Qg (ZJ ?_)
  refine ⟨_, Je rfl rfl rfl, ?_⟩
  rw [List.append_assoc] at hv79
  exact ⟨⟨v79, _, 0, rfl, (hv79.mono (fun g h1 h2 => Or.inr ⟨by omega, h1⟩)).rd JF, .inr ⟨hin, k, hk, rfl⟩⟩, hX⟩

