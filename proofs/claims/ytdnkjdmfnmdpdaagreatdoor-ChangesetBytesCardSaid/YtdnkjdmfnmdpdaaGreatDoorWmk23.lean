/- Walks: what functions return. -/
import Derived.Test.YtdnkjdmfnmdpdaaGreatDoorWmk24
set_option linter.unusedVariables false
set_option linter.unusedSimpArgs false
set_option linter.unnecessarySimpa false
namespace Go.Proofs.YtdnkjdmfnmdpdaaGreatDoor
open Go Go.Lx Go.RowKit Tryz
set_option maxRecDepth 100000
theorem all23_ok (w : World) : Ok Tryz.prog 97 #[] w fun v w' => ∃ a c, v = .slice a 1 c ∧ Ext False w w' := by
 refine ZQ 3 func97 rfl rfl rfl ?_
 have hX := xRf w
 refine QH (Qc ?_)
 refine Rr Zi ?_
 refine Qg (QH (Qc ?_))
 refine Rr (Z7 (cells := encI2 ((0 : Int), (30000 : Int))) (vs := [(0, .int _ _), (1, .int _ _)]) rfl (by kernel_rfl)) ?_
 refine Jh (vs := [.agg _]) ([((0 : Int), (30000 : Int))]) rfl encI2_ok el_pr rfl rfl ⟨rfl, trivial⟩ rfl rfl rfl rfl ?_
 intro a2 w1 x2 hown2
 have z3 := x2.size
 replace hX := hX.ex x2
 refine Rr (asS rfl) ?_
 refine Qg (ZJ ?_)
 refine ⟨_, ZF rfl rfl, ?_⟩
 exact ⟨a2, 1, rfl, hX⟩

theorem at23_ok (a : Option Addr) (c : Nat) (G : Nat → Prop) (l : List UInt8) (i : Nat) (w : World) (hs : Sl encB 1 G w a c l) (hi : i ≤ 1000000) : Ok Tryz.prog 98 #[.slice a l.length c, .int .i64 (i : Int)] w fun v w' => (∃ y : UInt8, v = .int .i64 (y.toNat : Int)) ∧ Ext False w w' := by
 refine ZQ 14 func98 rfl rfl rfl ?_
 have hX := xRf w
 refine QH (Qc ?_)
 refine Rr Zi ?_
 refine Qg (QH (QH (Qc ?_)))
 refine Rr (mvI rfl) ?_
 refine Rr (mvS rfl) ?_
 refine Rr (Z0 underlying22 rfl) ?_
 refine Rr (Z5 rfl rfl) ?_
 refine Qg ?_
 refine ZG rfl (fun hc1 => ?_) (fun hc1 => ?_)
 ·have hil : i < l.length := by have := dcT hc1; omega
  refine QH (Qc ?_)
  refine Rr (mvS rfl) ?_
  refine Rr (mvI rfl) ?_
  refine Rr (Js underlying22 sizeOf5 hs rfl rfl omg) ?_
  refine Rr (Yf isAgg5 hs rfl rfl (Jw 0 (by omega)) rfl) ?_
  refine Rr (JJ underlying5 underlying3 rfl (wrapB _)) ?_
  refine Rr (asI rfl) ?_
  refine Qg (ZJ ?_)
  refine ⟨_, ZF rfl rfl, ?_⟩
  exact ⟨⟨l.getD i 0, rfl⟩, hX⟩
 skip
 refine ZH (QH (Qc ?_))
 refine Rr Zi ?_
 refine Qg (ZJ ?_)
 refine ⟨_, ZF rfl rfl, ?_⟩
 exact ⟨⟨0, rfl⟩, hX⟩

theorem in23_ok (s : W64) (r : Int) (hr : 0 ≤ r ∧ r < 64) (w : World) : Ok Tryz.prog 99 #[u64 s, .int .i64 r] w fun v w' => (∃ z, v = .bool z) ∧ Ext False w w' := by
 obtain ⟨n, rfl⟩ := Int.eq_ofNat_of_zero_le hr.1
 have hn : n < 64 := by omega
 refine ZQ 18 func99 rfl rfl rfl ?_
 have hX := xRf w
 refine QH (Qc ?_)
 refine Rr Zi ?_
 refine Qg (QH (Qc ?_))
 refine Rr (mvI rfl) ?_
 refine Rr (o_geq rfl rfl) ?_
 refine Rr (mvB rfl) ?_
 refine ZI 2 7 rfl rfl rfl (fun hg => (mvI rfl)) ?_
 refine ZI 2 7 rfl rfl rfl (fun hg => (Z5 (ZU (u := undef) hg) rfl)) ?_
 refine Rr (Jq (u := undef) rfl rfl) ?_
 refine Rr (mvB rfl) ?_
 refine ZI 6 11 rfl rfl rfl (fun hg => (mvI rfl)) ?_
 refine ZI 6 11 rfl rfl rfl (fun hg => (mvI rfl)) ?_
 refine ZI 6 11 rfl rfl rfl (fun hg => (o_shrU (ZU (u := undef) hg) (ZU (u := undef) hg) omg)) ?_
 refine ZI 6 11 rfl rfl rfl (fun hg => (o_uremU (b := BitVec.ofNat 64 2) (ZU (u := undef) hg) rfl (by decide))) ?_
 refine ZI 6 11 rfl rfl rfl (fun hg => (o_eqU (b := BitVec.ofNat 64 1) (ZU (u := undef) hg) rfl)) ?_
 refine Rr (Jq (u := undef) rfl rfl) ?_
 refine Rr (asB rfl) ?_
 refine Qg (ZJ ?_)
 refine ⟨_, ZF rfl rfl, ?_⟩
 exact ⟨⟨_, rfl⟩, hX⟩

theorem has23_ok (a : Option Addr) (c : Nat) (G : Nat → Prop) (l : List (Int × Int)) (d : Int) (w : World) (hs : Sl encI2 2 G w a c l) : Ok Tryz.prog 128 #[.slice a l.length c, .int .i64 d] w fun v w' => v = .bool (hasD l d) ∧ Ext False w w' := by
 have hlen := hs.len
 refine ZQ 24 func128 rfl rfl rfl ?_
 have hX := xRf w
 refine QH (Qc ?_)
 refine Rr Zi ?_
 refine Qg (QH (QH (Qc ?_)))
 refine Rr (mvS rfl) ?_
 refine Rr (Z0 underlying31 rfl) ?_
 refine Rr Jj ?_
 refine Qg (ZM ?_)
 refine Jk (α := Nat) [(4, 4), (6, 6), (9, 23)] (fun k => [(9, .int .i64 (k : Int))]) (fun k w' => (k ≤ l.length ∧ ∀ j, j < k → (decide ((l.getD j (0, 0)).1 ≤ d) && decide (d ≤ (l.getD j (0, 0)).2)) = false) ∧ Ext False w w') (fun k => l.length - k) 0 ⟨rfl, trivial⟩ ⟨⟨Nat.zero_le _, fun j h => absurd h (Nat.not_lt_zero _)⟩, Bel.refl _ _⟩ ?_
 rintro k fb3 w2 ⟨⟨hk, hall⟩, hXL1⟩
 replace hX := hX.ex hXL1
 replace hs := hs.ext hXL1
 refine QH (Qc ?_)
 refine Rr (Z5 rfl rfl) ?_
 refine Qg (QH ?_)
 refine ZG rfl (fun hc1 => ?_) (fun hc1 => ?_)
 ·replace hc1 := dcT hc1
  refine ZH (QH (ZM (QH (Qc ?_))))
  refine Rr (Js underlying31 sizeOf103 hs rfl rfl omg) ?_
  refine Rr (Jx isAgg103 sizeOf103 hs rfl (Jw (0, 0) (by omega))) ?_
  refine Z8 rfl rfl zeroValue103 rfl sizeOf103 (fun _ => rfl) rfl rfl ?_
  intro b6 w4 x5 hge6 hb6
  change Box _ _ _ (encI2 _) at hb6
  replace hX := hX.ex x5
  replace hXL1 := Bel.ex hXL1 x5
  refine Qg (QH (Qc ?_))
  refine Rr (o_iaA (i := 0) underlying103 sizeOf3 rfl rfl (by decide)) ?_
  refine Rr (ZB isAgg3 rfl (hb6.at.get 0 rfl)) ?_
  refine Rr (mvI rfl) ?_
  refine Rr (o_leq rfl rfl) ?_
  refine Rr (mvB rfl) ?_
  refine ZI 4 17 rfl rfl rfl (fun hg => (mvI rfl)) ?_
  refine ZI 4 17 rfl rfl rfl (fun hg => (o_iaA (i := 1) underlying103 sizeOf3 rfl rfl (by decide))) ?_
  refine ZI 4 17 rfl rfl rfl (fun hg => (ZB isAgg3 (ZU (u := undef) hg) (hb6.at.get 1 rfl))) ?_
  refine ZI 4 17 rfl rfl rfl (fun hg => (o_leq (ZU (u := undef) hg) (ZU (u := undef) hg))) ?_
  refine Rr (Jq (u := undef) rfl rfl) ?_
  refine Qg ?_
  refine ZG rfl (fun hc2 => ?_) (fun hc2 => ?_)
  ·have hf : (decide ((l.getD k (0, 0)).1 ≤ d) && decide (d ≤ (l.getD k (0, 0)).2)) = true := hc2
   refine QH (Qc ?_)
   refine Rr Zi ?_
   refine Qg (ZJ ?_)
   refine ⟨_, ZF rfl rfl, ?_⟩
   refine ⟨cvB ?_, hX⟩
   all_goals (exact (any_one (z := ((0 : Int), (0 : Int))) (show k < l.length by omega) hf).symm)
  have hf : (decide ((l.getD k (0, 0)).1 ≤ d) && decide (d ≤ (l.getD k (0, 0)).2)) = false := hc2
  refine ZH (Qc ?_)
  refine Rr (Z1 rfl rfl omg) ?_
  refine Rr (mvI rfl) ?_
  refine Qg ?_
  refine ⟨k + 1, ⟨sT, trivial⟩, oT, ⟨?_, hXL1⟩, ?_⟩
  ·exact ⟨by omega, fun j hj => (Nat.lt_succ_iff_lt_or_eq.1 hj).elim (hall j) (fun e => e ▸ hf)⟩
  ·omega
 replace hc1 := dcF hc1
 refine Z4 (ZX (QH (Qc ?_)))
 refine Rr Zi ?_
 refine Qg (ZJ ?_)
 refine ⟨_, ZF rfl rfl, ?_⟩
 refine ⟨cvB ?_, hX⟩
 all_goals (exact (any_none (z := ((0 : Int), (0 : Int))) (fun j hj => hall j (by omega))).symm)

theorem norm23_ok (v0 : Value) (G : Nat → Prop) (l : List (Int × Int)) (w : World) (hs : Rd encI2 2 G w v0 l) : Ok Tryz.prog 100 #[v0] w fun v w' => ∃ a n c, v = .slice a n c ∧ Ext False w w' := by
 obtain ⟨a, c, rfl, hs⟩ := hs
 replace hs := hs.mono (F' := fun g => g < w.heap.size) (fun g h1 h2 => h1)
 refine ZQ 38 func100 rfl rfl rfl ?_
 have hX := xRf w
 refine QH (Qc ?_)
 refine Rr Zi ?_
 refine Qg (QH (Qc ?_))
 refine Rr Zi ?_
 refine Qg (QH (Qc ?_))
 refine Rr Zi ?_
 refine Qg (QH (QH (Qc ?_)))
 refine Rr Zi ?_
 refine Qg (ZM ?_)
 refine Jk (α := Nat × Value × List (Int × Int) × Int) [(3, 36)] (fun q => [(5, .int .i64 (q.1 : Int)), (3, q.2.1), (4, .int .i64 q.2.2.2)]) (fun q w' => (q.1 ≤ 30002 ∧ q.2.2.1.length ≤ q.1) ∧ Bel False (fun g => w.heap.size ≤ g) w w' ∧ (Own encI2 2 103 (fun g => w.heap.size ≤ g) w' q.2.1 q.2.2.1)) (fun q => 30002 - q.1) (0, .slice none 0 0, [], -1) ⟨rfl, rfl, rfl, trivial⟩ ⟨⟨Nat.zero_le _, Nat.le_refl _⟩, Bel.refl _ _, Own.nil _ _⟩ ?_
 rintro ⟨d, t, O, f⟩ fb3 w2 ⟨⟨hd, hO⟩, hXL1, hown⟩
 dsimp only at *
 have z4 := Bel.size hXL1
 replace hX := Bel.out hX hXL1 om2
 replace hs := hs.keep hXL1 om3
 refine QH (QH (Qc ?_))
 refine Rr (mvI rfl) ?_
 refine Rr (o_leq rfl rfl) ?_
 refine Qg ?_
 refine ZG rfl (fun hc1 => ?_) (fun hc1 => ?_)
 ·have hd1 : d ≤ 30001 := by have := dcT hc1; omega
  refine ZH (QH (ZM (QH (Qc ?_))))
  refine Rr (mvI rfl) ?_
  refine Rr (o_leq rfl rfl) ?_
  refine Rr (mvB rfl) ?_
  refine ZI 2 13 rfl rfl rfl (fun hg => (mvS rfl)) ?_
  refine ZI 2 13 rfl rfl rfl (fun hg => (mvI rfl)) ?_
  refine JQ 2 13 rfl rfl rfl (fun hg => ⟨(ZW call128 (ZU (u := undef) hg) (ZU (u := undef) hg)), has23_ok a c _ l (d : Int) _ hs⟩) ?_
  intro w5 x6
  have z7 := x6.size
  replace hX := hX.ex x6
  replace hXL1 := Bel.ex hXL1 x6
  replace hown := hown.ext x6
  refine Rr (Jq (u := undef) rfl rfl) ?_
  refine Rr (asB rfl) ?_
  refine Qg (QH (QH (Qc ?_)))
  refine Rr (mvB rfl) ?_
  refine Rr (mvB rfl) ?_
  refine ZI 1 19 rfl rfl rfl (fun hg => (mvI rfl)) ?_
  refine ZI 1 19 rfl rfl rfl (fun hg => (Z5 (ZU (u := undef) hg) rfl)) ?_
  refine Rr (Jq (u := undef) rfl rfl) ?_
  refine Qg ?_
  refine ZG rfl (fun hc2 => ?_) (fun hc2 => ?_)
  ·refine Qc ?_
   refine Rr (mvI rfl) ?_
   refine Rr (asI rfl) ?_
   refine Qg (QH (Qc ?_))
   refine Rr (mvB rfl) ?_
   refine Rr (Jf rfl) ?_
   refine Rr (mvB rfl) ?_
   refine ZI 2 26 rfl rfl rfl (fun hg => (mvI rfl)) ?_
   refine ZI 2 26 rfl rfl rfl (fun hg => (o_geq (ZU (u := undef) hg) rfl)) ?_
   refine Rr (Jq (u := undef) rfl rfl) ?_
   refine Qg ?_
   refine ZG rfl (fun hc3 => ?_) (fun hc3 => ?_)
   ·refine QH (Qc ?_)
    refine Rr (Zt (v := t) rfl) ?_
    refine Rr (mvI rfl) ?_
    refine Rr (mvI rfl) ?_
    refine Rr (o_sub rfl rfl (by unfold I64; omega)) ?_
    refine Rr (Z7 (cells := encI2 ((d : Int), (d : Int) - 1)) (vs := [(0, .int _ _), (1, .int _ _)]) rfl (by kernel_rfl)) ?_
    refine Jh (vs := [.agg _]) ([((d : Int), (d : Int) - 1)]) rfl encI2_ok el_pr rfl rfl ⟨rfl, trivial⟩ rfl rfl rfl rfl ?_
    intro a35 w8 x9 hown35
    have z10 := x9.size
    replace hX := hX.ex x9
    replace hXL1 := Bel.ex hXL1 x9
    replace hown := hown.ext x9
    replace hown35 := hown35.mono (D' := fun g => w.heap.size ≤ g) (fun g h1 h2 => by omega)
    refine Jd rfl encI2_ok el_pr rfl rfl hown (hown35.slA encI2_ok) rfl (by simp; omega) omU ?_
    intro v36 w11 x12 hown
    have z13 := x12.size
    replace hX := Bel.out hX x12 om2
    replace hXL1 := Bel.out hXL1 x12 om2
    refine Rr (ZD (v := v36) rfl) ?_
    refine Qg (Qc ?_)
    refine Rr Zi ?_
    refine Qg (Qc ?_)
    refine Rr (mvI rfl) ?_
    refine Rr (Z1 rfl rfl omg) ?_
    refine Rr (asI rfl) ?_
    refine Qg ?_
    refine ⟨(d + 1, v36, O ++ [((d : Int), (d : Int) - 1)], -1), ⟨sT, sT, sT, trivial⟩, oT, ⟨?_, hXL1, ?_⟩, ?_⟩
    ·exact ⟨by show d + 1 ≤ 30002; omega, by simp; omega⟩
    ·exact hown
    ·show 30002 - (d + 1) < 30002 - d; omega
   refine ZH (Qc ?_)
   refine Rr (mvI rfl) ?_
   refine Rr (Z1 rfl rfl omg) ?_
   refine Rr (asI rfl) ?_
   refine Qg ?_
   refine ⟨(d + 1, t, O, (d : Int)), ⟨sT, sT, sT, trivial⟩, oT, ⟨?_, hXL1, ?_⟩, ?_⟩
   ·exact ⟨by show d + 1 ≤ 30002; omega, by show O.length ≤ d + 1; omega⟩
   ·exact hown
   ·show 30002 - (d + 1) < 30002 - d; omega
  refine ZH (QH (Qc ?_))
  refine Rr (mvB rfl) ?_
  refine Rr (Jf rfl) ?_
  refine Rr (mvB rfl) ?_
  refine ZI 2 26 rfl rfl rfl (fun hg => (mvI rfl)) ?_
  refine ZI 2 26 rfl rfl rfl (fun hg => (o_geq (ZU (u := undef) hg) rfl)) ?_
  refine Rr (Jq (u := undef) rfl rfl) ?_
  refine Qg ?_
  refine ZG rfl (fun hc4 => ?_) (fun hc4 => ?_)
  ·refine QH (Qc ?_)
   refine Rr (Zt (v := t) rfl) ?_
   refine Rr (mvI rfl) ?_
   refine Rr (mvI rfl) ?_
   refine Rr (o_sub rfl rfl (by unfold I64; omega)) ?_
   refine Rr (Z7 (cells := encI2 (f, (d : Int) - 1)) (vs := [(0, .int _ _), (1, .int _ _)]) rfl (by kernel_rfl)) ?_
   refine Jh (vs := [.agg _]) ([(f, (d : Int) - 1)]) rfl encI2_ok el_pr rfl rfl ⟨rfl, trivial⟩ rfl rfl rfl rfl ?_
   intro a35 w14 x15 hown35
   have z16 := x15.size
   replace hX := hX.ex x15
   replace hXL1 := Bel.ex hXL1 x15
   replace hown := hown.ext x15
   replace hown35 := hown35.mono (D' := fun g => w.heap.size ≤ g) (fun g h1 h2 => by omega)
   refine Jd rfl encI2_ok el_pr rfl rfl hown (hown35.slA encI2_ok) rfl (by simp; omega) omU ?_
   intro v36 w17 x18 hown
   have z19 := x18.size
   replace hX := Bel.out hX x18 om2
   replace hXL1 := Bel.out hXL1 x18 om2
   refine Rr (ZD (v := v36) rfl) ?_
   refine Qg (Qc ?_)
   refine Rr Zi ?_
   refine Qg (Qc ?_)
   refine Rr (mvI rfl) ?_
   refine Rr (Z1 rfl rfl omg) ?_
   refine Rr (asI rfl) ?_
   refine Qg ?_
   refine ⟨(d + 1, v36, O ++ [(f, (d : Int) - 1)], -1), ⟨sT, sT, sT, trivial⟩, oT, ⟨?_, hXL1, ?_⟩, ?_⟩
   ·exact ⟨by show d + 1 ≤ 30002; omega, by simp; omega⟩
   ·exact hown
   ·show 30002 - (d + 1) < 30002 - d; omega
  refine ZH (Qc ?_)
  refine Rr (mvI rfl) ?_
  refine Rr (Z1 rfl rfl omg) ?_
  refine Rr (asI rfl) ?_
  refine Qg ?_
  refine ⟨(d + 1, t, O, f), ⟨sT, sT, sT, trivial⟩, oT, ⟨?_, hXL1, ?_⟩, ?_⟩
  ·exact ⟨by show d + 1 ≤ 30002; omega, by show O.length ≤ d + 1; omega⟩
  ·exact hown
  ·show 30002 - (d + 1) < 30002 - d; omega
 skip
 refine Z4 (ZX (QH (Qc ?_)))
 refine Rr (Zt (v := t) rfl) ?_
 refine Rr (ZD (v := t) rfl) ?_
 refine Qg (ZJ ?_)
 refine ⟨_, ZF rfl rfl, ?_⟩
 obtain ⟨at1, ct1, hvt1, hst1⟩ := hown.sl encI2_ok
 subst hvt1
 exact ⟨at1, _, ct1, rfl, hX⟩

set_option maxHeartbeats 4000000 in
theorem make23_ok (a0 : Option Addr) (c0 : Nat) (G0 : Nat → Prop) (l : List UInt8) (a1 : Option Addr) (c1 : Nat) (rg : List Int) (a2 : Option Addr) (c2 : Nat) (ad : List Int) (w : World) (hl0 : Sl encB 1 G0 w a0 c0 l) (hr : Sl encJ 1 G0 w a1 c1 rg) (hd : Sl encJ 1 G0 w a2 c2 ad) (hl9 : l.length ≤ 1000) (hr1 : 1 ≤ rg.length ∧ rg.length ≤ 100) (hd1 : 1 ≤ ad.length ∧ ad.length ≤ 100) (hrv : ∀ z ∈ rg, 0 ≤ z ∧ z < 64) : Ok Tryz.prog 44 #[.slice a0 l.length c0, .slice a1 rg.length c1, .slice a2 ad.length c2] w fun v w' => ∃ a n c, v = .slice a n c ∧ Ext False w w' := by
 obtain ⟨al, hal⟩ : ∃ q, q = a0 := ⟨_, rfl⟩
 obtain ⟨cl, hcl⟩ : ∃ q, q = c0 := ⟨_, rfl⟩
 rw [← hal, ← hcl] at hl0
 rw [← hal, ← hcl]
 have hl := hl0.mono (F' := fun g => g < w.heap.size) (fun g h1 h2 => h1)
 replace hr := hr.mono (F' := fun g => g < w.heap.size) (fun g h1 h2 => h1)
 replace hd := hd.mono (F' := fun g => g < w.heap.size) (fun g h1 h2 => h1)
 refine ZQ 146 func44 rfl rfl rfl ?_
 have hX := xRf w
 refine QH (Qc ?_)
 refine Rr Zi ?_
 refine Qg (QH (Qc ?_))
 refine Rr Zi ?_
 refine Qg (QH (QH (Qc ?_)))
 refine Rr Zi ?_
 refine Qg (ZM ?_)
 refine Jk (α := Nat × Value × List R23) [(7, 144)] (fun q => [(8, .int .i64 (q.1 : Int)), (7, q.2.1)]) (fun q w' => (q.1 ≤ l.length + 8 ∧ q.2.2.length ≤ q.1) ∧ Bel False (fun g => w.heap.size ≤ g) w w' ∧ (Own encR23 7 168 (fun g => w.heap.size ≤ g) w' q.2.1 q.2.2)) (fun q => l.length + 8 - q.1) (0, .slice none 0 0, []) ⟨rfl, rfl, trivial⟩ ⟨⟨Nat.zero_le _, Nat.le_refl _⟩, Bel.refl _ _, Own.nil _ _⟩ ?_
 rintro ⟨i, t, O⟩ fb3 w2 ⟨⟨hi, hO⟩, hXL1, hown⟩
 dsimp only at *
 have z4 := Bel.size hXL1
 replace hX := Bel.out hX hXL1 om2
 replace hl := hl.keep hXL1 om3
 replace hr := hr.keep hXL1 om3
 replace hd := hd.keep hXL1 om3
 refine QH (QH (Qc ?_))
 refine Rr (mvI rfl) ?_
 refine Rr (Jr (p := i) (b := 8) rfl rfl (by omega)) ?_
 refine Rr (mvS rfl) ?_
 refine Rr (Z0 underlying22 rfl) ?_
 refine Rr (o_leq rfl rfl) ?_
 refine Rr (mvB rfl) ?_
 refine ZI 5 18 rfl rfl rfl (fun hg => (Zt (v := t) rfl)) ?_
 refine ZI 5 18 rfl rfl rfl (fun hg => (o_llenO underlying34 (ZU (u := undef) hg) hown)) ?_
 refine ZI 5 18 rfl rfl rfl (fun hg => (Z5 (ZU (u := undef) hg) rfl)) ?_
 refine Rr (Jq (u := undef) rfl rfl) ?_
 refine Qg ?_
 refine ZG rfl (fun hc1 => ?_) (fun hc1 => ?_)
 ·have hil : i + 8 ≤ l.length := by
   rw [Bool.and_eq_true] at hc1
   have := dcT hc1.1; omega
  refine ZH (QH (ZM (QH ?_)))
  obtain ⟨n9, hn9⟩ : ∃ n, n = w2.heap.size := ⟨_, rfl⟩
  replace hown := hown.mono (D' := fun g => w.heap.size ≤ g ∧ g < n9) (fun g h1 h2 => ⟨h2, by omega⟩)
  apply JA (β := False) (fun _ => 0) [peqC _, peqC _, peqC _, peqC _, peqC _, peqC _, (postW (fun F v w => ∃ a c, v = .slice a 1 c)), (fun v w c => ∃ a c1, v = .agg (encR23 ⟨((((l.getD i 0).toNat % 4 : Nat) : Int) == 3), 0, 0, 0, 0, a, 1, c1, 0⟩).toArray), (postBox w2 168 [.bool false, .int .i64 0, .int .i64 0, .int .u64 0, .int .u64 0, .slice none 0 0, .int .i64 0])] [0, 0, 0, 0, 0, 0, 0, 0, 0] 9 Jz (by kernel_rfl) (by kernel_rfl) rfl ⟨Q4 _ _, Q4 _ _, Q4 _ _, Q4 _ _, Q4 _ _, Q4 _ _, (Jl (fun _ _ _ _ _ _ _ _ h => h)), ((fun _ _ _ _ _ _ _ _ h => h)), (postBox_stable), trivial⟩ ?ob5 ?fin5
  case ob5 =>
   refine Zb (fun w5 c7 x6 hc08 hk9 => ?_) ?_
   ·replace x6 := RelG.ext0 x6
    have z10 := x6.size
    refine QU ?_
    exact ZL rfl (mvS rfl)
   refine Zb (fun w11 c13 x12 hc014 hk15 => ?_) ?_
   ·replace x12 := RelG.ext0 x12
    have z16 := x12.size
    refine QU ?_
    exact ZL rfl (mvI rfl)
   refine Zb (fun w17 c19 x18 hc020 hk21 => ?_) ?_
   ·replace x18 := RelG.ext0 x18
    have z22 := x18.size
    have hl := hl.ext x18
    refine Qk (Qk (QU ?_))
    exact ZL rfl (Js underlying22 sizeOf5 hl rfl rfl omg)
   refine Zb (fun w23 c25 x24 hc026 hk27 => ?_) ?_
   ·replace x24 := RelG.ext0 x24
    have z28 := x24.size
    have hl := hl.ext x24
    refine Qk (QU ?_)
    exact ZL rfl (Yf isAgg5 hl rfl rfl (Jw 0 (by omega)) rfl)
   refine Zb (fun w29 c31 x30 hc032 hk33 => ?_) ?_
   ·replace x30 := RelG.ext0 x30
    have z34 := x30.size
    refine Qk (QU ?_)
    exact ZL rfl (o_remU (a := (l.getD i 0).toNat) (b := 4) rfl rfl (by decide))
   refine Zb (fun w35 c37 x36 hc038 hk39 => ?_) ?_
   ·replace x36 := RelG.ext0 x36
    have z40 := x36.size
    refine Qk (QU ?_)
    exact ZL rfl (ZZ rfl rfl)
   refine Zb (fun w41 c43 x42 hc044 hk45 => ?_) ?_
   ·replace x42 := RelG.ext0 x42
    have z46 := x42.size
    refine QU ?_
    exact OpC_W rfl (o_call0 call97) ((all23_ok _).mono (fun v w2 ⟨a, c, e, x⟩ => ⟨⟨a, c, e⟩, x⟩))
   refine Zb (fun w47 c49 x48 hc050 hk51 => ?_) ?_
   ·replace x48 := RelG.ext0 x48
    have z52 := x48.size
    refine Qk ?_
    refine ZE (fun v31 hv31 => ?_)
    obtain ⟨F31, hF31, a31, c31, rfl⟩ := hv31
    refine QU ?_
    exact OpC_vp rfl (Z7 (cells := encR23 ⟨((((l.getD i 0).toNat % 4 : Nat) : Int) == 3), 0, 0, 0, 0, a31, 1, c31, 0⟩) (vs := [(0, .bool _), (5, .slice _ _ _)]) rfl (by kernel_rfl)) ⟨_, _, rfl⟩
   refine Zb (fun w53 c55 x54 hc056 hk57 => ?_) ?_
   ·replace x54 := RelG.ext0 x54
    have z58 := x54.size
    refine QU ?_
    exact OpC_box (Bel.size x54) rfl (JK zeroValue168)
   exact Jv
  case fin5 =>
   intro w59 c61 x60 hc062
   replace x60 := RelG.ext0 x60
   have z63 := x60.size
   replace hX := hX.ex x60
   replace hXL1 := Bel.ex hXL1 x60
   replace hl := hl.ext x60
   replace hr := hr.ext x60
   replace hd := hd.ext x60
   replace hown := hown.ext x60
   refine Qk (Qk (Qk (Qk (Qk (Qk ?_)))))
   refine ZE (fun v31 hv31 => ?_)
   obtain ⟨F31, hF31, a31, c31, rfl⟩ := hv31
   refine ZE (fun v32 hv32 => ?_)
   obtain ⟨a32, c32, rfl⟩ := hv32
   refine ZE (fun v9 hv9 => ?_)
   refine QU ?_
   skip
   skip
   obtain ⟨b9, rfl, hge9, hb9, hcb9⟩ := hv9
   have hlt9 := hb9.lt
   refine Ja (v := .agg _) rfl sizeOf168 rfl rfl hb9 rfl rfl rfl ?_
   intro w64 c65 hb9
   change Box _ _ _ (encR23 _) at hb9
   have z66 := Bel.size c65
   replace hX := Bel.out hX c65 om2
   replace hXL1 := Bel.out hXL1 c65 om2
   replace hl := hl.keep c65 om3
   replace hr := hr.keep c65 om3
   replace hd := hd.keep c65 om3
   replace hown := hown.keepD c65 om3
   refine Qg (QH (Qc ?_))
   replace hown := hown.mono (D' := fun g => w.heap.size ≤ g ∧ g ≠ b9) (fun g h1 h2 => by omega)
   obtain ⟨r9, hb9⟩ : ∃ r : R23, Box w64 b9 168 (encR23 r) := ⟨_, hb9⟩
   refine Rr (mvS rfl) ?_
   refine Rr (mvS rfl) ?_
   refine Rr (mvI rfl) ?_
   refine Rr (Jr (p := i) (b := 1) rfl rfl (by omega)) ?_
   refine ZC rfl (ZW call98 rfl rfl) (Ok.mono (at23_ok al cl _ l (i + 1) _ hl (by omega)) ?_)
   rintro _ w67 ⟨⟨y37, rfl⟩, x68⟩
   have z69 := x68.size
   replace hX := hX.ex x68
   replace hXL1 := Bel.ex hXL1 x68
   replace hl := hl.ext x68
   replace hr := hr.ext x68
   replace hd := hd.ext x68
   replace hown := hown.ext x68
   replace hb9 := hb9.ext x68
   have hy37 := y37.toNat_lt
   refine Rr (mvS rfl) ?_
   refine Rr (Z0 underlying117 rfl) ?_
   refine Rr (Jp (a := y37.toNat) (b := rg.length) rfl rfl (by omega) (by omega)) ?_
   refine Rr (Js (i := (y37.toNat % rg.length)) underlying117 sizeOf3 hr rfl rfl (Nat.mod_lt _ (by omega))) ?_
   refine Rr (Yf isAgg3 hr rfl rfl (Jw 0 (Nat.mod_lt _ (by omega))) rfl) ?_
   refine Rr (ZN underlying168 rfl sizeOf3 rfl) ?_
   refine Jb (v := .int _ _) rfl sizeOf3 rfl rfl hb9 rfl rfl rfl ?_
   intro w70 c71 hb9
   change Box _ _ _ ([.bool _, .int _ _, .int _ _, .int _ _, .int _ _, .slice _ _ _, .int _ _]) at hb9
   have z72 := Bel.size c71
   replace hX := Bel.out hX c71 om2
   replace hXL1 := Bel.out hXL1 c71 om2
   replace hl := hl.keep c71 om3
   replace hr := hr.keep c71 om3
   replace hd := hd.keep c71 om3
   replace hown := hown.keepD c71 om3
   refine Qg (QH (Qc ?_))
   refine Rr (mvS rfl) ?_
   refine Rr (mvS rfl) ?_
   refine Rr (mvI rfl) ?_
   refine Rr (Jr (p := i) (b := 2) rfl rfl (by omega)) ?_
   refine ZC rfl (ZW call98 rfl rfl) (Ok.mono (at23_ok al cl _ l (i + 2) _ hl (by omega)) ?_)
   rintro _ w73 ⟨⟨y48, rfl⟩, x74⟩
   have z75 := x74.size
   replace hX := hX.ex x74
   replace hXL1 := Bel.ex hXL1 x74
   replace hl := hl.ext x74
   replace hr := hr.ext x74
   replace hd := hd.ext x74
   replace hown := hown.ext x74
   replace hb9 := hb9.ext x74
   have hy48 := y48.toNat_lt
   refine Rr (mvS rfl) ?_
   refine Rr (Z0 underlying117 rfl) ?_
   refine Rr (Jp (a := y48.toNat) (b := ad.length) rfl rfl (by omega) (by omega)) ?_
   refine Rr (Js (i := (y48.toNat % ad.length)) underlying117 sizeOf3 hd rfl rfl (Nat.mod_lt _ (by omega))) ?_
   refine Rr (Yf isAgg3 hd rfl rfl (Jw 0 (Nat.mod_lt _ (by omega))) rfl) ?_
   refine Rr (ZN underlying168 rfl sizeOf3 rfl) ?_
   refine Jb (v := .int _ _) rfl sizeOf3 rfl rfl hb9 rfl rfl rfl ?_
   intro w76 c77 hb9
   change Box _ _ _ ([.bool _, .int _ _, .int _ _, .int _ _, .int _ _, .slice _ _ _, .int _ _]) at hb9
   have z78 := Bel.size c77
   replace hX := Bel.out hX c77 om2
   replace hXL1 := Bel.out hXL1 c77 om2
   replace hl := hl.keep c77 om3
   replace hr := hr.keep c77 om3
   replace hown := hown.keepD c77 om3
   refine Qg (QH (QH (Qc ?_)))
   refine Rr Zi ?_
   refine Qg (ZM ?_)
   obtain ⟨r0, hb9⟩ : ∃ r : R23, Box w76 b9 168 (encR23 r) := r23_pack hb9
   refine Jk (α := Nat × R23) [(10, 11), (55, 106)] (fun q => [(10, .int .i64 (q.1 : Int))]) (fun q w' => (q.1 ≤ 4) ∧ Bel False (fun g => g = b9) w76 w' ∧ (Box w' b9 168 (encR23 q.2))) (fun q => 4 - q.1) (0, r0) ⟨rfl, trivial⟩ ⟨Nat.zero_le _, Bel.refl _ _, hb9⟩ ?_
   rintro ⟨j, r1⟩ fb81 w80 ⟨hj, hXL79, hb9⟩
   dsimp only at *
   have z82 := Bel.size hXL79
   replace hX := Bel.out hX hXL79 om2
   replace hXL1 := Bel.out hXL1 hXL79 om2
   replace hl := hl.keep hXL79 om3
   replace hr := hr.keep hXL79 om3
   replace hown := hown.keepD hXL79 om3
   refine QH (QH (Qc ?_))
   refine Rr (mvI rfl) ?_
   refine Rr (mvS rfl) ?_
   refine Rr (mvI rfl) ?_
   refine Rr (Jr (p := i) (b := 3) rfl rfl (by omega)) ?_
   refine ZC rfl (ZW call98 rfl rfl) (Ok.mono (at23_ok al cl _ l (i + 3) _ hl (by omega)) ?_)
   rintro _ w83 ⟨⟨y59, rfl⟩, x84⟩
   have z85 := x84.size
   replace hX := hX.ex x84
   replace hXL1 := Bel.ex hXL1 x84
   replace hXL79 := Bel.ex hXL79 x84
   replace hl := hl.ext x84
   replace hr := hr.ext x84
   replace hown := hown.ext x84
   replace hb9 := hb9.ext x84
   have hy59 := y59.toNat_lt
   refine Rr (Jp (a := y59.toNat) (b := 4) rfl rfl (by decide) (by omega)) ?_
   refine Rr (Z5 rfl rfl) ?_
   refine Rr (mvB rfl) ?_
   refine ZI 7 62 rfl rfl rfl (fun hg => (ZN underlying168 rfl sizeOf4 rfl)) ?_
   refine ZI 7 62 rfl rfl rfl (fun hg => (ZB isAgg4 (ZU (u := undef) hg) (hb9.at.get 0 rfl))) ?_
   refine ZI 7 62 rfl rfl rfl (fun hg => (Jf (ZU (u := undef) hg))) ?_
   refine Rr (Jq (u := undef) rfl rfl) ?_
   refine Qg ?_
   refine ZG rfl (fun hc2 => ?_) (fun hc2 => ?_)
   ·have hj3 : j < 4 := by
     rw [Bool.and_eq_true] at hc2
     have := dcT hc2.1; omega
    refine ZH (QH (ZM (QH (Qc ?_))))
    refine Rr (mvS rfl) ?_
    refine Rr (mvS rfl) ?_
    refine Rr (mvI rfl) ?_
    refine Rr (Jr (p := i) (b := 4) rfl rfl (by omega)) ?_
    refine Rr (mvI rfl) ?_
    refine Rr (Jr (p := i + 4) (b := j) rfl rfl (by omega)) ?_
    refine ZC rfl (ZW call98 rfl rfl) (Ok.mono (at23_ok al cl _ l (i + 4 + j) _ hl (by omega)) ?_)
    rintro _ w86 ⟨⟨y75, rfl⟩, x87⟩
    have z88 := x87.size
    replace hX := hX.ex x87
    replace hXL1 := Bel.ex hXL1 x87
    replace hXL79 := Bel.ex hXL79 x87
    replace hl := hl.ext x87
    replace hr := hr.ext x87
    replace hb9 := hb9.ext x87
    have hy75 := y75.toNat_lt
    refine Rr (mvS rfl) ?_
    refine Rr (Z0 underlying117 rfl) ?_
    refine Rr (Jp (a := y75.toNat) (b := rg.length) rfl rfl (by omega) (by omega)) ?_
    refine Rr (Js (i := (y75.toNat % rg.length)) underlying117 sizeOf3 hr rfl rfl (Nat.mod_lt _ (by omega))) ?_
    refine Rr (Yf isAgg3 hr rfl rfl (Jw 0 (Nat.mod_lt _ (by omega))) rfl) ?_
    refine Rr (asI rfl) ?_
    refine Qg (QH (QH (Qc ?_)))
    have hz0 := hrv _ (gm (z := 0) (show (y75.toNat % rg.length) < rg.length from Nat.mod_lt _ (by omega)))
    obtain ⟨zn, hzn⟩ : ∃ n : Nat, rg.getD (y75.toNat % rg.length) 0 = n := ⟨(rg.getD (y75.toNat % rg.length) 0).toNat, by omega⟩
    have hzl : zn < 64 := by omega
    refine Rr (ZN underlying168 rfl sizeOf30 rfl) ?_
    refine Rr (ZB isAgg30 rfl (hb9.at.get 3 rfl)) ?_
    refine Rr (ZN underlying168 rfl sizeOf30 rfl) ?_
    refine Rr (ZB isAgg30 rfl (hb9.at.get 4 rfl)) ?_
    refine Rr (o_bor rfl rfl) ?_
    refine Rr (mvI rfl) ?_
    refine ZC rfl (ZW call99 rfl rfl) (Ok.mono (in23_ok (r1.y ||| r1.n) (rg.getD (y75.toNat % rg.length) 0) hz0 _) ?_)
    rintro _ w89 ⟨⟨z87, rfl⟩, x90⟩
    have z91 := x90.size
    replace hX := hX.ex x90
    replace hXL1 := Bel.ex hXL1 x90
    replace hXL79 := Bel.ex hXL79 x90
    replace hl := hl.ext x90
    replace hb9 := hb9.ext x90
    refine Qg ?_
    refine ZG rfl (fun hc3 => ?_) (fun hc3 => ?_)
    ·refine Z4 (ZX (Qc ?_))
     refine Rr (mvI rfl) ?_
     refine Rr (Jr (p := j) (b := 1) rfl rfl (by omega)) ?_
     refine Rr (asI rfl) ?_
     refine Qg ?_
     obtain ⟨r2, hb9⟩ : ∃ r : R23, Box w89 b9 168 (encR23 r) := r23_pack hb9
     refine ⟨(j + 1, r2), ⟨sT, trivial⟩, oT, ⟨?_, hXL79, ?_⟩, ?_⟩
     ·show j + 1 ≤ 4; omega
     ·exact hb9
     ·show 4 - (j + 1) < 4 - j; omega
    refine ZH (QH (Qc ?_))
    refine Rr (mvS rfl) ?_
    refine Rr (mvI rfl) ?_
    refine Rr (Jr (p := i) (b := 4) rfl rfl (by omega)) ?_
    refine Rr (mvI rfl) ?_
    refine Rr (Jr (p := i + 4) (b := j) rfl rfl (by omega)) ?_
    refine ZC rfl (ZW call98 rfl rfl) (Ok.mono (at23_ok al cl _ l (i + 4 + j) _ hl (by omega)) ?_)
    rintro _ w92 ⟨⟨y93, rfl⟩, x93⟩
    have z94 := x93.size
    replace hX := hX.ex x93
    replace hXL1 := Bel.ex hXL1 x93
    replace hXL79 := Bel.ex hXL79 x93
    replace hb9 := hb9.ext x93
    have hy93 := y93.toNat_lt
    refine Rr (o_geq rfl rfl) ?_
    refine Qg ?_
    refine ZG rfl (fun hc4 => ?_) (fun hc4 => ?_)
    ·apply J3 (β := False) [peq _, peq _, peq _, peq _, peq _, peq _] 6 Jz (by kernel_rfl) rfl ⟨Zs _, Zs _, Zs _, Zs _, Zs _, Zs _, trivial⟩ ?ob14 ?fin14
     case ob14 =>
      refine ZA (fun w95 x96 => ?_) ?_
      ·have z97 := x96.size
       refine Zv ?_
       exact ZT rfl (ZN underlying168 rfl sizeOf30 rfl)
      refine ZA (fun w98 x99 => ?_) ?_
      ·have z100 := x99.size
       have hb9 := hb9.ext x99
       refine Qi (Zv ?_)
       exact ZT rfl (ZB isAgg30 rfl (hb9.at.get 4 rfl))
      refine ZA (fun w101 x102 => ?_) ?_
      ·have z103 := x102.size
       refine Zv ?_
       exact ZT rfl (mvI rfl)
      refine ZA (fun w104 x105 => ?_) ?_
      ·have z106 := x105.size
       refine Qi (Zv ?_)
       exact ZT rfl (o_shlU (a := 1) (n := zn) rfl (congrArg (Value.int .i64) hzn) hzl)
      refine ZA (fun w107 x108 => ?_) ?_
      ·have z109 := x108.size
       refine Qi (Qi (Zv ?_))
       exact ZT rfl (o_bor rfl rfl)
      refine ZA (fun w110 x111 => ?_) ?_
      ·have z112 := x111.size
       refine Qi (Qi (Qi (Qi (Qi (Zv ?_)))))
       exact ZT rfl (ZN underlying168 rfl sizeOf30 rfl)
      exact JG
     case fin14 =>
      intro w113 x114
      have z115 := x114.size
      replace hX := hX.ex x114
      replace hXL1 := Bel.ex hXL1 x114
      replace hXL79 := Bel.ex hXL79 x114
      replace hb9 := hb9.ext x114
      refine Qi (Qi (Qi (Qi (Qi (Qi (Zv ?_))))))
      refine Jb (v := .int _ _) rfl sizeOf30 rfl rfl hb9 rfl rfl rfl ?_
      intro w116 c117 hb9
      change Box _ _ _ ([.bool _, .int _ _, .int _ _, .int _ _, .int _ _, .slice _ _ _, .int _ _]) at hb9
      have z118 := Bel.size c117
      replace hX := Bel.out hX c117 om2
      replace hXL1 := Bel.out hXL1 c117 om2
      replace hXL79 := Bel.out hXL79 c117 om2
      refine Qg (Qc ?_)
      refine Rr (mvI rfl) ?_
      refine Rr (Jr (p := j) (b := 1) rfl rfl (by omega)) ?_
      refine Rr (asI rfl) ?_
      refine Qg ?_
      obtain ⟨r2, hb9⟩ : ∃ r : R23, Box w116 b9 168 (encR23 r) := r23_pack hb9
      refine ⟨(j + 1, r2), ⟨sT, trivial⟩, oT, ⟨?_, hXL79, ?_⟩, ?_⟩
      ·show j + 1 ≤ 4; omega
      ·exact hb9
      ·show 4 - (j + 1) < 4 - j; omega
    apply J3 (β := False) [peq _, peq _, peq _, peq _, peq _, peq _] 6 Jz (by kernel_rfl) rfl ⟨Zs _, Zs _, Zs _, Zs _, Zs _, Zs _, trivial⟩ ?ob15 ?fin15
    case ob15 =>
     refine ZA (fun w119 x120 => ?_) ?_
     ·have z121 := x120.size
      refine Zv ?_
      exact ZT rfl (ZN underlying168 rfl sizeOf30 rfl)
     refine ZA (fun w122 x123 => ?_) ?_
     ·have z124 := x123.size
      have hb9 := hb9.ext x123
      refine Qi (Zv ?_)
      exact ZT rfl (ZB isAgg30 rfl (hb9.at.get 3 rfl))
     refine ZA (fun w125 x126 => ?_) ?_
     ·have z127 := x126.size
      refine Zv ?_
      exact ZT rfl (mvI rfl)
     refine ZA (fun w128 x129 => ?_) ?_
     ·have z130 := x129.size
      refine Qi (Zv ?_)
      exact ZT rfl (o_shlU (a := 1) (n := zn) rfl (congrArg (Value.int .i64) hzn) hzl)
     refine ZA (fun w131 x132 => ?_) ?_
     ·have z133 := x132.size
      refine Qi (Qi (Zv ?_))
      exact ZT rfl (o_bor rfl rfl)
     refine ZA (fun w134 x135 => ?_) ?_
     ·have z136 := x135.size
      refine Qi (Qi (Qi (Qi (Qi (Zv ?_)))))
      exact ZT rfl (ZN underlying168 rfl sizeOf30 rfl)
     exact JG
    case fin15 =>
     intro w137 x138
     have z139 := x138.size
     replace hX := hX.ex x138
     replace hXL1 := Bel.ex hXL1 x138
     replace hXL79 := Bel.ex hXL79 x138
     replace hb9 := hb9.ext x138
     refine Qi (Qi (Qi (Qi (Qi (Qi (Zv ?_))))))
     refine Jb (v := .int _ _) rfl sizeOf30 rfl rfl hb9 rfl rfl rfl ?_
     intro w140 c141 hb9
     change Box _ _ _ ([.bool _, .int _ _, .int _ _, .int _ _, .int _ _, .slice _ _ _, .int _ _]) at hb9
     have z142 := Bel.size c141
     replace hX := Bel.out hX c141 om2
     replace hXL1 := Bel.out hXL1 c141 om2
     replace hXL79 := Bel.out hXL79 c141 om2
     refine Qg (Qc ?_)
     refine Rr (mvI rfl) ?_
     refine Rr (Jr (p := j) (b := 1) rfl rfl (by omega)) ?_
     refine Rr (asI rfl) ?_
     refine Qg ?_
     obtain ⟨r2, hb9⟩ : ∃ r : R23, Box w140 b9 168 (encR23 r) := r23_pack hb9
     refine ⟨(j + 1, r2), ⟨sT, trivial⟩, oT, ⟨?_, hXL79, ?_⟩, ?_⟩
     ·show j + 1 ≤ 4; omega
     ·exact hb9
     ·show 4 - (j + 1) < 4 - j; omega
   skip
   refine Z4 (ZX (QH (Qc ?_)))
   obtain ⟨r3, hb9⟩ : ∃ r : R23, Box w83 b9 168 (encR23 r) := r23_pack hb9
   refine Rr (mvS rfl) ?_
   refine Rr (mvI rfl) ?_
   refine Rr (Jr (p := i) (b := 7) rfl rfl (by omega)) ?_
   refine ZC rfl (ZW call98 rfl rfl) (Ok.mono (at23_ok al cl _ l (i + 7) _ hl (by omega)) ?_)
   rintro _ w143 ⟨⟨y110, rfl⟩, x144⟩
   have z145 := x144.size
   replace hX := hX.ex x144
   replace hXL1 := Bel.ex hXL1 x144
   replace hown := hown.ext x144
   replace hb9 := hb9.ext x144
   have hy110 := y110.toNat_lt
   refine Rr (asI rfl) ?_
   refine Qg (QH (QH (Qc ?_)))
   refine Rr (mvI rfl) ?_
   refine Rr (o_geq rfl rfl) ?_
   refine Qg ?_
   refine ZG rfl (fun hc5 => ?_) (fun hc5 => ?_)
   ·refine Qc ?_
    refine Rr (mvI rfl) ?_
    refine Rr (Jp (a := y110.toNat) (b := 10) rfl rfl (by decide) (by omega)) ?_
    refine Rr (mvI rfl) ?_
    refine Rr (Jp (a := y110.toNat) (b := 10) rfl rfl (by decide) (by omega)) ?_
    refine Rr (Jr (p := y110.toNat % 10) (b := 3) rfl rfl (by omega)) ?_
    refine Rr (Z7 (cells := encI2 (((y110.toNat % 10 : Nat) : Int), ((y110.toNat % 10 + 3 : Nat) : Int))) (vs := [(0, .int _ _), (1, .int _ _)]) rfl (by kernel_rfl)) ?_
    refine Rr (mvI rfl) ?_
    refine Rr (Jp (a := y110.toNat) (b := 7) rfl rfl (by decide) (by omega)) ?_
    refine Rr (Jr (p := 8) (b := y110.toNat % 7) rfl rfl (by omega)) ?_
    refine Rr (mvI rfl) ?_
    refine Rr (Jp (a := y110.toNat) (b := 7) rfl rfl (by decide) (by omega)) ?_
    refine Rr (Jr (p := 8) (b := y110.toNat % 7) rfl rfl (by omega)) ?_
    refine Rr (Z7 (cells := encI2 (((8 + y110.toNat % 7 : Nat) : Int), ((8 + y110.toNat % 7 : Nat) : Int))) (vs := [(0, .int _ _), (1, .int _ _)]) rfl (by kernel_rfl)) ?_
    refine Jh (vs := [.agg _, .agg _]) ([(((y110.toNat % 10 : Nat) : Int), ((y110.toNat % 10 + 3 : Nat) : Int)), (((8 + y110.toNat % 7 : Nat) : Int), ((8 + y110.toNat % 7 : Nat) : Int))]) rfl encI2_ok el_pr rfl rfl ⟨rfl, ⟨rfl, trivial⟩⟩ rfl rfl rfl rfl ?_
    intro a126 w146 x147 hown126
    have z148 := x147.size
    replace hX := hX.ex x147
    replace hXL1 := Bel.ex hXL1 x147
    replace hown := hown.ext x147
    replace hb9 := hb9.ext x147
    replace hown126 := hown126.mono (D' := fun g => w.heap.size ≤ g) (fun g h1 h2 => by omega)
    refine ZC rfl (ZK call100 rfl) (Ok.mono (norm23_ok _ _ _ _ (hown126.trd encI2_ok)) ?_)
    rintro _ w149 ⟨a127, n127, c127, rfl, x150⟩
    have z151 := x150.size
    replace hX := hX.ex x150
    replace hXL1 := Bel.ex hXL1 x150
    replace hown := hown.ext x150
    replace hb9 := hb9.ext x150
    refine Rr (ZN underlying168 rfl sizeOf31 rfl) ?_
    refine Jb (v := .slice _ _ _) rfl sizeOf31 rfl rfl hb9 rfl rfl rfl ?_
    intro w152 c153 hb9
    change Box _ _ _ ([.bool _, .int _ _, .int _ _, .int _ _, .int _ _, .slice _ _ _, .int _ _]) at hb9
    have z154 := Bel.size c153
    replace hX := Bel.out hX c153 om2
    replace hXL1 := Bel.out hXL1 c153 om2
    replace hown := hown.keepD c153 om3
    refine Qg (QH (QH (Qc ?_)))
    refine Rr (mvI rfl) ?_
    refine Rr (Jp (a := y110.toNat) (b := 3) rfl rfl (by decide) (by omega)) ?_
    refine Rr (ZZ rfl rfl) ?_
    refine Rr (mvB rfl) ?_
    refine ZI 3 132 rfl rfl rfl (fun hg => (ZN underlying168 rfl sizeOf4 rfl)) ?_
    refine ZI 3 132 rfl rfl rfl (fun hg => (ZB isAgg4 (ZU (u := undef) hg) (hb9.at.get 0 rfl))) ?_
    refine ZI 3 132 rfl rfl rfl (fun hg => (Jf (ZU (u := undef) hg))) ?_
    refine Rr (Jq (u := undef) rfl rfl) ?_
    refine Qg ?_
    refine ZG rfl (fun hc6 => ?_) (fun hc6 => ?_)
    ·refine Qc ?_
     refine Rr (mvI rfl) ?_
     refine Rr (Jp (a := y110.toNat) (b := 9) rfl rfl (by decide) (by omega)) ?_
     refine Rr (Jr (p := 1) (b := y110.toNat % 9) rfl rfl (by omega)) ?_
     refine Rr (ZN underlying168 rfl sizeOf3 rfl) ?_
     refine Jb (v := .int _ _) rfl sizeOf3 rfl rfl hb9 rfl rfl rfl ?_
     intro w155 c156 hb9
     change Box _ _ _ ([.bool _, .int _ _, .int _ _, .int _ _, .int _ _, .slice _ _ _, .int _ _]) at hb9
     have z157 := Bel.size c156
     replace hX := Bel.out hX c156 om2
     replace hXL1 := Bel.out hXL1 c156 om2
     replace hown := hown.keepD c156 om3
     refine Qg (Qc ?_)
     obtain ⟨r4, hb9⟩ : ∃ r : R23, Box w155 b9 168 (encR23 r) := r23_pack hb9
     refine Rr (Zt (v := t) rfl) ?_
     refine Rr (ZO isAgg168 sizeOf168 rfl hb9.at rfl) ?_
     refine Jh (vs := [.agg _]) ([r4]) rfl J5 el_r23 rfl rfl ⟨rfl, trivial⟩ rfl rfl rfl rfl ?_
     intro a143 w158 x159 hown143
     have z160 := x159.size
     replace hX := hX.ex x159
     replace hXL1 := Bel.ex hXL1 x159
     replace hown := hown.ext x159
     replace hown143 := hown143.mono (D' := fun g => w.heap.size ≤ g) (fun g h1 h2 => by omega)
     refine Jd rfl J5 el_r23 rfl rfl hown (hown143.slA J5) rfl (by simp; omega) omU ?_
     intro v144 w161 x162 hown
     have z163 := x162.size
     replace hX := Bel.out hX x162 om2
     replace hXL1 := Bel.out hXL1 x162 om2
     refine Rr (ZD (v := v144) rfl) ?_
     refine Qg (Qc ?_)
     refine Rr (mvI rfl) ?_
     refine Rr (Jr (p := i) (b := 8) rfl rfl (by omega)) ?_
     refine Rr (asI rfl) ?_
     refine Qg ?_
     refine ⟨(i + 8, v144, O ++ [r4]), ⟨sT, sT, trivial⟩, oT, ⟨?_, hXL1, ?_⟩, ?_⟩
     ·exact ⟨by show i + 8 ≤ l.length + 8; omega, by simp; omega⟩
     ·exact hown.mono (fun g h1 h2 => by omega)
     ·show l.length + 8 - (i + 8) < l.length + 8 - i; omega
    refine ZH (Qc ?_)
    obtain ⟨r4, hb9⟩ : ∃ r : R23, Box w152 b9 168 (encR23 r) := r23_pack hb9
    refine Rr (Zt (v := t) rfl) ?_
    refine Rr (ZO isAgg168 sizeOf168 rfl hb9.at rfl) ?_
    refine Jh (vs := [.agg _]) ([r4]) rfl J5 el_r23 rfl rfl ⟨rfl, trivial⟩ rfl rfl rfl rfl ?_
    intro a143 w164 x165 hown143
    have z166 := x165.size
    replace hX := hX.ex x165
    replace hXL1 := Bel.ex hXL1 x165
    replace hown := hown.ext x165
    replace hown143 := hown143.mono (D' := fun g => w.heap.size ≤ g) (fun g h1 h2 => by omega)
    refine Jd rfl J5 el_r23 rfl rfl hown (hown143.slA J5) rfl (by simp; omega) omU ?_
    intro v144 w167 x168 hown
    have z169 := x168.size
    replace hX := Bel.out hX x168 om2
    replace hXL1 := Bel.out hXL1 x168 om2
    refine Rr (ZD (v := v144) rfl) ?_
    refine Qg (Qc ?_)
    refine Rr (mvI rfl) ?_
    refine Rr (Jr (p := i) (b := 8) rfl rfl (by omega)) ?_
    refine Rr (asI rfl) ?_
    refine Qg ?_
    refine ⟨(i + 8, v144, O ++ [r4]), ⟨sT, sT, trivial⟩, oT, ⟨?_, hXL1, ?_⟩, ?_⟩
    ·exact ⟨by show i + 8 ≤ l.length + 8; omega, by simp; omega⟩
    ·exact hown.mono (fun g h1 h2 => by omega)
    ·show l.length + 8 - (i + 8) < l.length + 8 - i; omega
   refine ZH (QH (QH (Qc ?_)))
   refine Rr (mvI rfl) ?_
   refine Rr (Jp (a := y110.toNat) (b := 3) rfl rfl (by decide) (by omega)) ?_
   refine Rr (ZZ rfl rfl) ?_
   refine Rr (mvB rfl) ?_
   refine ZI 3 132 rfl rfl rfl (fun hg => (ZN underlying168 rfl sizeOf4 rfl)) ?_
   refine ZI 3 132 rfl rfl rfl (fun hg => (ZB isAgg4 (ZU (u := undef) hg) (hb9.at.get 0 rfl))) ?_
   refine ZI 3 132 rfl rfl rfl (fun hg => (Jf (ZU (u := undef) hg))) ?_
   refine Rr (Jq (u := undef) rfl rfl) ?_
   refine Qg ?_
   refine ZG rfl (fun hc7 => ?_) (fun hc7 => ?_)
   ·refine Qc ?_
    refine Rr (mvI rfl) ?_
    refine Rr (Jp (a := y110.toNat) (b := 9) rfl rfl (by decide) (by omega)) ?_
    refine Rr (Jr (p := 1) (b := y110.toNat % 9) rfl rfl (by omega)) ?_
    refine Rr (ZN underlying168 rfl sizeOf3 rfl) ?_
    refine Jb (v := .int _ _) rfl sizeOf3 rfl rfl hb9 rfl rfl rfl ?_
    intro w170 c171 hb9
    change Box _ _ _ ([.bool _, .int _ _, .int _ _, .int _ _, .int _ _, .slice _ _ _, .int _ _]) at hb9
    have z172 := Bel.size c171
    replace hX := Bel.out hX c171 om2
    replace hXL1 := Bel.out hXL1 c171 om2
    replace hown := hown.keepD c171 om3
    refine Qg (Qc ?_)
    obtain ⟨r4, hb9⟩ : ∃ r : R23, Box w170 b9 168 (encR23 r) := r23_pack hb9
    refine Rr (Zt (v := t) rfl) ?_
    refine Rr (ZO isAgg168 sizeOf168 rfl hb9.at rfl) ?_
    refine Jh (vs := [.agg _]) ([r4]) rfl J5 el_r23 rfl rfl ⟨rfl, trivial⟩ rfl rfl rfl rfl ?_
    intro a143 w173 x174 hown143
    have z175 := x174.size
    replace hX := hX.ex x174
    replace hXL1 := Bel.ex hXL1 x174
    replace hown := hown.ext x174
    replace hown143 := hown143.mono (D' := fun g => w.heap.size ≤ g) (fun g h1 h2 => by omega)
    refine Jd rfl J5 el_r23 rfl rfl hown (hown143.slA J5) rfl (by simp; omega) omU ?_
    intro v144 w176 x177 hown
    have z178 := x177.size
    replace hX := Bel.out hX x177 om2
    replace hXL1 := Bel.out hXL1 x177 om2
    refine Rr (ZD (v := v144) rfl) ?_
    refine Qg (Qc ?_)
    refine Rr (mvI rfl) ?_
    refine Rr (Jr (p := i) (b := 8) rfl rfl (by omega)) ?_
    refine Rr (asI rfl) ?_
    refine Qg ?_
    refine ⟨(i + 8, v144, O ++ [r4]), ⟨sT, sT, trivial⟩, oT, ⟨?_, hXL1, ?_⟩, ?_⟩
    ·exact ⟨by show i + 8 ≤ l.length + 8; omega, by simp; omega⟩
    ·exact hown.mono (fun g h1 h2 => by omega)
    ·show l.length + 8 - (i + 8) < l.length + 8 - i; omega
   refine ZH (Qc ?_)
   obtain ⟨r4, hb9⟩ : ∃ r : R23, Box w143 b9 168 (encR23 r) := r23_pack hb9
   refine Rr (Zt (v := t) rfl) ?_
   refine Rr (ZO isAgg168 sizeOf168 rfl hb9.at rfl) ?_
   refine Jh (vs := [.agg _]) ([r4]) rfl J5 el_r23 rfl rfl ⟨rfl, trivial⟩ rfl rfl rfl rfl ?_
   intro a143 w179 x180 hown143
   have z181 := x180.size
   replace hX := hX.ex x180
   replace hXL1 := Bel.ex hXL1 x180
   replace hown := hown.ext x180
   replace hown143 := hown143.mono (D' := fun g => w.heap.size ≤ g) (fun g h1 h2 => by omega)
   refine Jd rfl J5 el_r23 rfl rfl hown (hown143.slA J5) rfl (by simp; omega) omU ?_
   intro v144 w182 x183 hown
   have z184 := x183.size
   replace hX := Bel.out hX x183 om2
   replace hXL1 := Bel.out hXL1 x183 om2
   refine Rr (ZD (v := v144) rfl) ?_
   refine Qg (Qc ?_)
   refine Rr (mvI rfl) ?_
   refine Rr (Jr (p := i) (b := 8) rfl rfl (by omega)) ?_
   refine Rr (asI rfl) ?_
   refine Qg ?_
   refine ⟨(i + 8, v144, O ++ [r4]), ⟨sT, sT, trivial⟩, oT, ⟨?_, hXL1, ?_⟩, ?_⟩
   ·exact ⟨by show i + 8 ≤ l.length + 8; omega, by simp; omega⟩
   ·exact hown.mono (fun g h1 h2 => by omega)
   ·show l.length + 8 - (i + 8) < l.length + 8 - i; omega
 skip
 refine Z4 (ZX (QH (Qc ?_)))
 refine Rr (Zt (v := t) rfl) ?_
 refine Rr (ZD (v := t) rfl) ?_
 refine Qg (ZJ ?_)
 refine ⟨_, ZF rfl rfl, ?_⟩
 obtain ⟨at1, ct1, hvt1, hst1⟩ := hown.sl J5
 subst hvt1
 exact ⟨at1, _, ct1, rfl, hX⟩

