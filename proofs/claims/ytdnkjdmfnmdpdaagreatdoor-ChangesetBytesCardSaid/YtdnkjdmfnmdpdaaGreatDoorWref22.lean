/- Walks: what functions return. -/
import Derived.Test.YtdnkjdmfnmdpdaaGreatDoorWref10
import Derived.Test.YtdnkjdmfnmdpdaaGreatDoorTz
import Derived.Test.YtdnkjdmfnmdpdaaGreatDoorSe
import Derived.Test.YtdnkjdmfnmdpdaaGreatDoorOwn3
set_option linter.unusedVariables false
set_option linter.unusedSimpArgs false
set_option linter.unnecessarySimpa false
namespace Go.Proofs.YtdnkjdmfnmdpdaaGreatDoor
open Go Go.Lx Go.RowKit Tryz
set_option maxRecDepth 100000
theorem el_rse : ElT Tryz.prog 36 178 3 24 (.agg #[.int .i64 0, .int .i64 0, .int .u64 0]) := ⟨underlying36, ⟨Tryz.t178, by kernel_rfl, rfl, rfl, rfl⟩, rfl, by decide, by decide⟩
theorem r22find_ok (a : Option Addr) (c : Nat) (G : Nat → Prop) (m : List RS) (n : Int) (w : World) (hs : Sl encRs 3 G w a c m) : Ok Tryz.prog 102 #[.slice a m.length c, .int .i64 n] w fun v w' => v = .int .i64 (fnd m n) ∧ Ext False w w' := by
 have hlen := hs.len
 replace hs := hs.mono (F' := fun g => g < w.heap.size) (fun g h1 h2 => h1)
 refine ZQ 20 func102 rfl rfl rfl ?_
 have hX := xRf w
 refine QH (Qc ?_)
 refine Rr Zi ?_
 refine Qg (QH (QH (Qc ?_)))
 refine Rr (mvS rfl) ?_
 refine Rr (Z0 underlying36 rfl) ?_
 refine Rr Jj ?_
 refine Qg (ZM ?_)
 refine Jk (α := Nat) [(4, 6), (9, 19)] (fun k => [(9, .int .i64 (k : Int))]) (fun k w' => (k ≤ m.length ∧ (m.take k).any (fun s => s.n == n) = false) ∧ Ext False w w') (fun k => m.length - k) 0 ⟨rfl, trivial⟩ ⟨⟨by omega, by simp⟩, Bel.refl _ _⟩ ?_
 rintro k fb3 w2 ⟨⟨hk, hall⟩, hXL1⟩
 have z4 := Bel.size hXL1
 replace hX := hX.ex hXL1
 replace hs := hs.ext hXL1
 refine QH (Qc ?_)
 refine Rr (Z5 rfl rfl) ?_
 refine Qg (QH ?_)
 refine ZG rfl (fun hc1 => ?_) (fun hc1 => ?_)
 ·replace hc1 := dcT hc1
  refine ZH (QH (ZM (QH (Qc ?_))))
  refine Rr (mvI rfl) ?_
  refine Rr (Js underlying36 sizeOf178 hs rfl rfl omg) ?_
  refine Rr (Jx isAgg178 sizeOf178 hs rfl (Jw rz (by omega))) ?_
  refine Z2 rfl (JK zeroValue178) ?_
  intro b6 w5 x6 hge6 hb6
  have hlt6 := hb6.lt
  change Box _ _ _ ([.int _ _, .int _ _, .int _ _]) at hb6
  have z7 := x6.size
  replace hX := hX.ex x6
  replace hXL1 := Bel.ex hXL1 x6
  refine Rr (asI rfl) ?_
  refine Ja (v := .agg _) rfl sizeOf178 rfl rfl hb6 rfl rfl rfl ?_
  intro w8 c9 hb6
  change Box _ _ _ (encRs _) at hb6
  have z10 := Bel.size c9
  replace hX := Bel.out hX c9 om2
  replace hXL1 := Bel.out hXL1 c9 om2
  refine Qg (QH (Qc ?_))
  refine Rr (ZN underlying178 rfl sizeOf3 rfl) ?_
  refine Rr (ZB isAgg3 rfl (hb6.at.get 0 rfl)) ?_
  refine Rr (mvI rfl) ?_
  refine Rr (ZZ rfl rfl) ?_
  refine Qg ?_
  refine ZG rfl (fun hc2 => ?_) (fun hc2 => ?_)
  ·refine QH (Qc ?_)
   refine Rr (mvI rfl) ?_
   refine Rr (asI rfl) ?_
   refine Qg (ZJ ?_)
   refine ⟨_, ZF rfl rfl, ?_⟩
   refine ⟨congrArg (Value.int .i64) ?_, hX⟩
   all_goals (exact (ixOf_at (by omega) hall (by simpa [List.getD, show k < m.length by omega] using hc2)).symm)
  refine ZH (Qc ?_)
  refine Rr (Z1 rfl rfl omg) ?_
  refine Rr (mvI rfl) ?_
  refine Qg ?_
  refine ⟨k + 1, ⟨sT, trivial⟩, oT, ⟨?_, hXL1⟩, ?_⟩
  ·exact ⟨by omega, anyT_succ (by omega) hall (by simpa [List.getD, show k < m.length by omega] using hc2)⟩
  ·omega
 replace hc1 := dcF hc1
 refine Z4 (ZX (QH (Qc ?_)))
 refine Rr Zi ?_
 refine Qg (ZJ ?_)
 refine ⟨_, ZF rfl rfl, ?_⟩
 refine ⟨congrArg (Value.int .i64) ?_, hX⟩
 all_goals (exact (ixOf_none (k := k) (by omega) hall).symm)

theorem r22open_ok (v0 : Value) (G : Nat → Prop) (m : List RS) (w : World) (hs : Rd encRs 3 G w v0 m) (hm : OkM m) (u : Int) : Ok Tryz.prog 48 #[v0, .int .i64 u] w fun v w' => (∃ p, v = .tuple #[p, .int .i64 (openR m u).2.1, .int .i64 (openR m u).2.2] ∧ Rd encRs 3 (fun g => G g ∨ Fsh w w' g) w' p (openR m u).1) ∧ Ext False w w' := by
 obtain ⟨a, c, rfl, hs⟩ := hs
 replace hs := hs.mono (F' := fun g => G g ∧ g < w.heap.size) (fun g h1 h2 => ⟨h2, h1⟩)
 have hlen := hm.len
 refine ZQ 54 func48 rfl rfl rfl ?_
 have hX := xRf w
 refine QH (Qc ?_)
 refine Rr Zi ?_
 refine Rr Zi ?_
 refine Rr Zi ?_
 refine Qg (QH (QH (Qc ?_)))
 refine Rr (mvI rfl) ?_
 refine Rr (Z5 rfl rfl) ?_
 refine Rr (mvB rfl) ?_
 refine ZI 2 13 rfl rfl rfl (fun hg => (mvI rfl)) ?_
 refine ZI 2 13 rfl rfl rfl (fun hg => (JY (ZU (u := undef) hg) rfl)) ?_
 refine Rr (JP (u := undef) rfl rfl) ?_
 refine Qg ?_
 refine ZG rfl (fun hc1 => ?_) (fun hc1 => ?_)
 ·have hu : u < 1 ∨ 256 < u := by simpa using hc1
  refine QH (Qc ?_)
  refine Rr (mvS rfl) ?_
  refine Rr (asS rfl) ?_
  refine Rr Zi ?_
  refine Rr Zi ?_
  refine Qg (ZJ ?_)
  refine ⟨_, res_T (vs := [.slice _ _ _, .int _ _, .int _ _]) rfl ⟨rfl, rfl, rfl, trivial⟩ (by simp), ?_⟩
  have e : openR m u = (m, 0, 1) := by rw [openR, if_pos hu]
  rw [e]
  exact ⟨⟨_, rfl, (hs.mono fun g h1 h2 => .inl h2.1).rd⟩, hX⟩
 have hu : ¬ (u < 1 ∨ 256 < u) := by simpa using hc1
 refine ZH (QH (Qc ?_))
 refine Rr Zi ?_
 refine Qg (QH (ZM ?_))
 refine Jk (α := Nat) [(7, 7), (18, 23)] (fun j => [(7, .int .i64 ((j : Int) + 1))]) (fun j w' => (j ≤ gap m) ∧ Ext False w w') (fun j => gap m - j) 0 ⟨rfl, trivial⟩ ⟨Nat.zero_le _, Bel.refl _ _⟩ ?_
 rintro j fb3 w2 ⟨hj, hXL1⟩
 have z4 := Bel.size hXL1
 replace hX := hX.ex hXL1
 replace hs := hs.ext hXL1
 refine QH (QH (Qc ?_))
 refine Rr (mvS rfl) ?_
 refine Rr (mvI rfl) ?_
 refine ZC rfl (ZW call102 rfl rfl) (Ok.mono (r22find_ok _ _ _ _ _ _ hs) ?_)
 rintro _ w5 ⟨rfl, x6⟩
 have z7 := x6.size
 replace hX := hX.ex x6
 replace hXL1 := Bel.ex hXL1 x6
 replace hs := hs.ext x6
 refine Rr (o_geq rfl rfl) ?_
 refine Qg ?_
 refine ZG rfl (fun hc2 => ?_) (fun hc2 => ?_)
 ·have hj2 : j < gap m := by
   rcases Nat.lt_or_ge j (gap m) with h | h
   ·exact h
   ·have e : j = gap m := by omega
    have h1 := fnd_gap hm
    have h2 := dcT hc2
    rw [e] at h2; omega
  refine ZH (ZM (Qc ?_))
  refine Rr (mvI rfl) ?_
  refine Rr (Z1 rfl rfl (by have := gap_le m; unfold I64; omega)) ?_
  refine Rr (asI rfl) ?_
  refine Qg ?_
  refine ⟨j + 1, ⟨sT, trivial⟩, oT, ⟨?_, hXL1⟩, ?_⟩
  ·show j + 1 ≤ gap m; omega
  ·omega
 have hj2 : j = gap m := by
  rcases Nat.lt_or_ge j (gap m) with h | h
  ·have h1 := fnd_gap_lt (m := m) (k := (j : Int) + 1) (by omega) (by omega)
   have h2 := dcF hc2; omega
  ·omega
 subst hj2
 refine Z4 (ZX (QH (QH (Qc ?_))))
 refine Rr (mvI rfl) ?_
 refine Rr (JY rfl rfl) ?_
 refine Qg ?_
 refine ZG rfl (fun hc3 => ?_) (fun hc3 => ?_)
 ·have hfull : 64 ≤ m.length := by have := dcT hc3; have := gap_le m; omega
  refine QH (Qc ?_)
  refine Rr (mvS rfl) ?_
  refine Rr (asS rfl) ?_
  refine Rr Zi ?_
  refine Rr Zi ?_
  refine Qg (ZJ ?_)
  refine ⟨_, res_T (vs := [.slice _ _ _, .int _ _, .int _ _]) rfl ⟨rfl, rfl, rfl, trivial⟩ (by simp), ?_⟩
  have e : openR m u = (m, 0, 14) := by rw [openR, if_neg hu, if_pos hfull]
  rw [e]
  exact ⟨⟨_, rfl, (hs.mono fun g h1 h2 => .inl h2.1).rd⟩, hX⟩
 have hl64 : m.length < 64 := by
  rcases Nat.lt_or_ge m.length 64 with h | h
  ·exact h
  ·have h1 := gap_full hm (by omega)
   have h2 := dcF hc3; omega
 have hu2 : 1 ≤ u ∧ u ≤ 256 := by omega
 refine ZH (QH (Qc ?_))
 refine Rr Zi ?_
 refine Qg (QH (QH (Qc ?_)))
 refine Rr Zi ?_
 refine Qg (ZM ?_)
 refine Jk (α := Nat × Value) [(8, 10), (27, 51)] (fun q => [(9, .int .i64 (q.1 : Int)), (8, q.2)]) (fun q w' => (1 ≤ q.1 ∧ q.1 ≤ 65) ∧ Bel False (fun g => w5.heap.size ≤ g) w5 w' ∧ (Own encRs 3 178 (fun g => w5.heap.size ≤ g) w' q.2 (flt (openM m u) (q.1 : Int)))) (fun q => 65 - q.1) (1, .slice none 0 0) ⟨rfl, rfl, trivial⟩ ⟨⟨by decide, by decide⟩, Bel.refl _ _, (by rw [show (((1 : Nat) : Int)) = 1 from rfl, flt_start (hm.open hu2 hl64)]; exact Own.nil _ _)⟩ ?_
 rintro ⟨k, t⟩ fb10 w9 ⟨⟨hk1, hk⟩, hXL8, hown⟩
 dsimp only at *
 have z11 := Bel.size hXL8
 replace hX := Bel.out hX hXL8 om2
 replace hs := hs.keep hXL8 om3
 refine QH (QH (Qc ?_))
 refine Rr (mvI rfl) ?_
 refine Rr (o_leq rfl rfl) ?_
 refine Qg ?_
 refine ZG rfl (fun hc4 => ?_) (fun hc4 => ?_)
 ·replace hc4 := dcT hc4
  refine ZH (QH (ZM (QH (Qc ?_))))
  refine Rr (mvI rfl) ?_
  refine Rr (mvI rfl) ?_
  refine Rr (ZZ rfl rfl) ?_
  refine Qg ?_
  refine ZG rfl (fun hc5 => ?_) (fun hc5 => ?_)
  ·have hkg := eq_of_beq hc5
   refine Qc ?_
   refine Rr (Zt (v := t) rfl) ?_
   refine Rr (mvI rfl) ?_
   refine Rr (mvI rfl) ?_
   refine Rr (Z7 (cells := encRs (newS m u)) (vs := [(0, .int _ _), (1, .int _ _)]) rfl (by kernel_rfl)) ?_
   refine Jh (vs := [.agg _]) ([newS m u]) rfl J6 el_rse rfl rfl ⟨rfl, trivial⟩ rfl rfl rfl rfl ?_
   intro a38 w12 x13 hown38
   have z14 := x13.size
   replace hX := hX.ex x13
   replace hXL8 := Bel.ex hXL8 x13
   replace hown := hown.ext x13
   replace hown38 := hown38.mono (D' := fun g => w5.heap.size ≤ g) (fun g h1 h2 => by omega)
   refine Jd rfl J6 el_rse rfl rfl hown (hown38.slA J6) rfl (by have h1 := flt_len (openM m u) k; have h2 := open_len m u; simp; omega) omU ?_
   intro v39 w15 x16 hown
   have z17 := x16.size
   replace hX := Bel.out hX x16 om2
   replace hXL8 := Bel.out hXL8 x16 om2
   refine Rr (ZD (v := v39) rfl) ?_
   refine Qg (Qc ?_)
   refine Rr (mvI rfl) ?_
   refine Rr (Z1 rfl rfl omg) ?_
   refine Rr (asI rfl) ?_
   refine Qg ?_
   refine ⟨(k + 1, v39), ⟨sT, sT, trivial⟩, oT, ⟨?_, hXL8, ?_⟩, ?_⟩
   ·exact ⟨by show 1 ≤ k + 1; omega, by show k + 1 ≤ 65; omega⟩
   ·show Own _ _ _ _ _ _ (flt (openM m u) (((k + 1 : Nat)) : Int))
    rw [show (((k + 1 : Nat)) : Int) = (k : Int) + 1 from rfl, open_hit hm hu2 hl64 hkg]; exact hown
   ·show 65 - (k + 1) < 65 - k; omega
  have hkg : (k : Int) ≠ (gap m : Int) + 1 := by simpa using hc5
  refine QH (Qc ?_)
  refine Rr (mvS rfl) ?_
  refine Rr (mvI rfl) ?_
  refine ZC rfl (ZW call102 rfl rfl) (Ok.mono (r22find_ok _ _ _ _ _ _ hs) ?_)
  rintro _ w18 ⟨rfl, x19⟩
  have z20 := x19.size
  replace hX := hX.ex x19
  replace hXL8 := Bel.ex hXL8 x19
  replace hs := hs.ext x19
  replace hown := hown.ext x19
  refine Rr (asI rfl) ?_
  refine Qg (QH (Qc ?_))
  refine Rr (mvI rfl) ?_
  refine Rr (o_geq rfl rfl) ?_
  refine Qg ?_
  refine ZG rfl (fun hc6 => ?_) (fun hc6 => ?_)
  ·obtain ⟨i, hi1, hi2, hi3⟩ := fnd_some (dcT hc6)
   rw [hi1]
   refine Qc ?_
   refine Rr (Zt (v := t) rfl) ?_
   refine Rr (mvS rfl) ?_
   refine Rr (mvI rfl) ?_
   refine Rr (Js underlying36 sizeOf178 hs rfl rfl omg) ?_
   refine Rr (Jx isAgg178 sizeOf178 hs rfl (Jw rz hi2)) ?_
   refine Jh (vs := [.agg _]) ([m.getD i rz]) rfl J6 el_rse rfl rfl ⟨rfl, trivial⟩ rfl rfl rfl rfl ?_
   intro a50 w21 x22 hown50
   have z23 := x22.size
   replace hX := hX.ex x22
   replace hXL8 := Bel.ex hXL8 x22
   replace hown := hown.ext x22
   replace hown50 := hown50.mono (D' := fun g => w5.heap.size ≤ g) (fun g h1 h2 => by omega)
   refine Jd rfl J6 el_rse rfl rfl hown (hown50.slA J6) rfl (by have h1 := flt_len (openM m u) k; have h2 := open_len m u; simp; omega) omU ?_
   intro v51 w24 x25 hown
   have z26 := x25.size
   replace hX := Bel.out hX x25 om2
   replace hXL8 := Bel.out hXL8 x25 om2
   refine Rr (ZD (v := v51) rfl) ?_
   refine Qg (Qc ?_)
   refine Rr (mvI rfl) ?_
   refine Rr (Z1 rfl rfl omg) ?_
   refine Rr (asI rfl) ?_
   refine Qg ?_
   refine ⟨(k + 1, v51), ⟨sT, sT, trivial⟩, oT, ⟨?_, hXL8, ?_⟩, ?_⟩
   ·exact ⟨by show 1 ≤ k + 1; omega, by show k + 1 ≤ 65; omega⟩
   ·show Own _ _ _ _ _ _ (flt (openM m u) (((k + 1 : Nat)) : Int))
    rw [show (((k + 1 : Nat)) : Int) = (k : Int) + 1 from rfl, open_old hm hu2 hl64 hi2 hi3]; exact hown
   ·show 65 - (k + 1) < 65 - k; omega
  have hf6 := dcF hc6
  refine ZH (Qc ?_)
  refine Rr (mvI rfl) ?_
  refine Rr (Z1 rfl rfl omg) ?_
  refine Rr (asI rfl) ?_
  refine Qg ?_
  refine ⟨(k + 1, t), ⟨sT, sT, trivial⟩, oT, ⟨?_, hXL8, ?_⟩, ?_⟩
  ·exact ⟨by show 1 ≤ k + 1; omega, by show k + 1 ≤ 65; omega⟩
  ·show Own _ _ _ _ _ _ (flt (openM m u) (((k + 1 : Nat)) : Int))
   rw [show (((k + 1 : Nat)) : Int) = (k : Int) + 1 from rfl, open_no hm hu2 hl64 hkg (by omega)]; exact hown
  ·show 65 - (k + 1) < 65 - k; omega
 replace hc4 := dcF hc4
 refine Z4 (ZX (QH (Qc ?_)))
 refine Rr (Zt (v := t) rfl) ?_
 refine Rr (mvI rfl) ?_
 refine Rr (ZD (v := t) rfl) ?_
 refine Rr (asI rfl) ?_
 refine Rr Zi ?_
 refine Qg (ZJ ?_)
 refine ⟨_, res_T (vs := [(t), .int _ _, .int _ _]) rfl ⟨rfl, rfl, rfl, trivial⟩ (by simp), ?_⟩
 have e : openR m u = (openM m u, (gap m : Int) + 1, 0) := by rw [openR, if_neg hu, if_neg (by omega)]
 rw [e]
 have hk65 : k = 65 := by omega
 subst hk65
 rw [show (((65 : Nat) : Int)) = 65 from rfl, flt_all (hm.open hu2 hl64)] at hown
 exact ⟨⟨_, rfl, Rd.mono (hown.rd J6) fun g h1 h2 => .inr ⟨by omega, h1⟩⟩, hX⟩

theorem r22set_ok (v0 : Value) (G : Nat → Prop) (m : List RS) (w : World) (hs : Rd encRs 3 G w v0 m) (hm : OkM m) (n r : Int) (act : Bool) : Ok Tryz.prog 49 #[v0, .int .i64 n, .int .i64 r, .bool act] w fun v w' => (∃ p, v = .tuple #[p, .int .i64 (setR m n r act).2] ∧ Rd encRs 3 (fun g => G g ∨ Fsh w w' g) w' p (setR m n r act).1) ∧ Ext False w w' := by
 obtain ⟨a, c, rfl, hs⟩ := hs
 replace hs := hs.mono (F' := fun g => G g ∧ g < w.heap.size) (fun g h1 h2 => ⟨h2, h1⟩)
 have hlen := hm.len
 refine ZQ 63 func49 rfl rfl rfl ?_
 have hX := xRf w
 refine QH (Qc ?_)
 refine Rr Zi ?_
 refine Rr Zi ?_
 refine Qg (QH (QH (Qc ?_)))
 refine Rr (mvI rfl) ?_
 refine Rr (Z5 rfl rfl) ?_
 refine Rr (mvB rfl) ?_
 refine ZI 2 15 rfl rfl rfl (fun hg => (mvI rfl)) ?_
 refine ZI 2 15 rfl rfl rfl (fun hg => (JY (ZU (u := undef) hg) rfl)) ?_
 refine Rr (JP (u := undef) rfl rfl) ?_
 refine Qg ?_
 refine ZG rfl (fun hc1 => ?_) (fun hc1 => ?_)
 ·have hr : r < 1 ∨ 63 < r := by simpa using hc1
  refine QH (Qc ?_)
  refine Rr (mvS rfl) ?_
  refine Rr (asS rfl) ?_
  refine Rr Zi ?_
  refine Qg (ZJ ?_)
  refine ⟨_, Je rfl rfl rfl, ?_⟩
  have e : setR m n r act = (m, 1) := by rw [setR, if_pos hr]
  rw [e]
  exact ⟨⟨_, rfl, (hs.mono fun g h1 h2 => .inl h2.1).rd⟩, hX⟩
 have hr : ¬ (r < 1 ∨ 63 < r) := by simpa using hc1
 obtain ⟨rn, rfl⟩ : ∃ q : Nat, r = q := ⟨r.toNat, by omega⟩
 refine ZH (QH (Qc ?_))
 refine Rr (mvS rfl) ?_
 refine Rr (mvI rfl) ?_
 refine ZC rfl (ZW call102 rfl rfl) (Ok.mono (r22find_ok _ _ _ _ _ _ hs) ?_)
 rintro _ w1 ⟨rfl, x2⟩
 have z3 := x2.size
 replace hX := hX.ex x2
 replace hs := hs.ext x2
 refine Rr (asI rfl) ?_
 refine Qg (QH (QH (Qc ?_)))
 refine Rr (mvI rfl) ?_
 refine Rr (Z5 rfl rfl) ?_
 refine Qg ?_
 refine ZG rfl (fun hc2 => ?_) (fun hc2 => ?_)
 ·have hf := dcT hc2
  refine QH (Qc ?_)
  refine Rr (mvS rfl) ?_
  refine Rr (asS rfl) ?_
  refine Rr Zi ?_
  refine Qg (ZJ ?_)
  refine ⟨_, Je rfl rfl rfl, ?_⟩
  have e : setR m n (rn : Int) act = (m, 4) := by rw [setR, if_neg hr, if_pos hf]
  rw [e]
  exact ⟨⟨_, rfl, (hs.mono fun g h1 h2 => .inl h2.1).rd⟩, hX⟩
 have hf := dcF hc2
 obtain ⟨i, hi1, hi2, hi3⟩ := fnd_some (m := m) (n := n) (by omega)
 rw [hi1]
 refine ZH (QH (Qc ?_))
 refine Rr (mvS rfl) ?_
 refine Rr (mvI rfl) ?_
 refine Rr (Js underlying36 sizeOf178 hs rfl rfl omg) ?_
 refine Rr (o_faE underlying178 rfl sizeOf30 hs rfl (Jw rz hi2)) ?_
 refine Rr (o_ldE (j := 2) isAgg30 hs rfl (Jw rz hi2) rfl) ?_
 refine Rr (mvI rfl) ?_
 refine Rr (o_shrU rfl rfl (by omega)) ?_
 refine Rr (o_uremU (b := BitVec.ofNat 64 2) rfl rfl (by decide)) ?_
 refine Rr (o_eqU (b := BitVec.ofNat 64 1) rfl rfl) ?_
 refine Rr (asB rfl) ?_
 refine Qg (QH (QH (Qc ?_)))
 refine Rr (mvB rfl) ?_
 refine Rr (mvB rfl) ?_
 refine ZI 1 36 rfl rfl rfl (fun hg => (mvB rfl)) ?_
 refine Rr (Jq (u := undef) rfl rfl) ?_
 refine Qg ?_
 refine ZG rfl (fun hc3 => ?_) (fun hc3 => ?_)
 ·rw [bit_rem, Bool.and_eq_true] at hc3
  refine QH (Qc ?_)
  refine Rr (mvS rfl) ?_
  refine Rr (asS rfl) ?_
  refine Rr Zi ?_
  refine Qg (ZJ ?_)
  refine ⟨_, Je rfl rfl rfl, ?_⟩
  have e : setR m n (rn : Int) act = (m, 5) := by
   rw [setR, if_neg hr, if_neg (by omega), hi1, Int.toNat_natCast, if_pos (by rw [hasB, Int.toNat_natCast, hc3.1, hc3.2]), hc3.1]; rfl
  rw [e]
  exact ⟨⟨_, rfl, (hs.mono fun g h1 h2 => .inl h2.1).rd⟩, hX⟩
 rw [bit_rem] at hc3
 refine ZH (QH (QH (Qc ?_)))
 refine Rr (mvB rfl) ?_
 refine Rr (Jf rfl) ?_
 refine Rr (mvB rfl) ?_
 refine ZI 2 42 rfl rfl rfl (fun hg => (mvB rfl)) ?_
 refine ZI 2 42 rfl rfl rfl (fun hg => (Jf (ZU (u := undef) hg))) ?_
 refine Rr (Jq (u := undef) rfl rfl) ?_
 refine Qg ?_
 refine ZG rfl (fun hc4 => ?_) (fun hc4 => ?_)
 ·rw [bit_rem, Bool.and_eq_true] at hc4
  refine QH (Qc ?_)
  refine Rr (mvS rfl) ?_
  refine Rr (asS rfl) ?_
  refine Rr Zi ?_
  refine Qg (ZJ ?_)
  refine ⟨_, Je rfl rfl rfl, ?_⟩
  have e : setR m n (rn : Int) act = (m, 4) := by
   have ha : act = false := by simpa using hc4.1
   rw [setR, if_neg hr, if_neg (by omega), hi1, Int.toNat_natCast, if_pos (by rw [hasB, Int.toNat_natCast, ha]; simpa using hc4.2), ha]; rfl
  rw [e]
  exact ⟨⟨_, rfl, (hs.mono fun g h1 h2 => .inl h2.1).rd⟩, hX⟩
 rw [bit_rem] at hc4
 have hne : ¬ hasB (m.getD i rz).x (rn : Int) = act := by
  rw [hasB, Int.toNat_natCast]
  cases act <;> cases hx : (m.getD i rz).x.getLsbD rn <;> simp_all
 refine ZH (QH (Qc ?_))
 refine Jh (vs := []) (([] : List RS)) rfl J6 el_rse rfl rfl trivial rfl rfl rfl rfl ?_
 intro a47 w4 x5 hown47
 have z6 := x5.size
 replace hX := hX.ex x5
 replace hs := hs.ext x5
 replace hown47 := hown47.mono (D' := fun g => w.heap.size ≤ g) (fun g h1 h2 => by omega)
 refine Rr (mvS rfl) ?_
 refine Jd rfl J6 el_rse rfl rfl hown47 hs rfl (by simp; omega) omU ?_
 intro v49 w7 x8 hown47
 have z9 := x8.size
 replace hX := Bel.out hX x8 om2
 refine Rr (ZD (v := v49) rfl) ?_
 refine Qg (QH ?_)
 rw [List.nil_append] at hown47
 obtain ⟨a47, c47, hv47, -⟩ := hown47.sl J6
 subst hv47
 apply JA (β := False) (fun _ => 0) [peqC _, peqC _, peqC _, peqC _, peqC _, peqC _, peqC _, peqC _, peqC _, peqC _, peqC _, peqC _] [0, 0, 0, 0, 0, 0, 0, 0, 0, 0, 0, 0] 12 Jz (by kernel_rfl) (by kernel_rfl) rfl ⟨Q4 _ _, Q4 _ _, Q4 _ _, Q4 _ _, Q4 _ _, Q4 _ _, Q4 _ _, Q4 _ _, Q4 _ _, Q4 _ _, Q4 _ _, Q4 _ _, trivial⟩ ?ob12 ?fin12
 case ob12 =>
  refine Zb (fun w10 c12 x11 hc013 hk14 => ?_) ?_
  ·replace x11 := RelG.ext0 x11
   have z15 := x11.size
   refine QU ?_
   exact ZL rfl (Zt (v := .slice a47 m.length c47) rfl)
  refine Zb (fun w16 c18 x17 hc019 hk20 => ?_) ?_
  ·replace x17 := RelG.ext0 x17
   have z21 := x17.size
   refine QU ?_
   exact ZL rfl (mvI rfl)
  refine Zb (fun w22 c24 x23 hc025 hk26 => ?_) ?_
  ·replace x23 := RelG.ext0 x23
   have z27 := x23.size
   refine QU ?_
   exact ZL rfl (Zt (v := .slice a47 m.length c47) rfl)
  refine Zb (fun w28 c30 x29 hc031 hk32 => ?_) ?_
  ·replace x29 := RelG.ext0 x29
   have z33 := x29.size
   refine QU ?_
   exact ZL rfl (mvI rfl)
  refine Zb (fun w34 c36 x35 hc037 hk38 => ?_) ?_
  ·replace x35 := RelG.ext0 x35
   have z39 := x35.size
   have hown47 := hown47.ext x35
   refine Qk (Qk (QU ?_))
   exact ZL rfl (o_iaO (i := i) underlying36 sizeOf178 hown47 rfl rfl (by omega))
  refine Zb (fun w40 c42 x41 hc043 hk44 => ?_) ?_
  ·replace x41 := RelG.ext0 x41
   have z45 := x41.size
   have hown47 := hown47.ext x41
   refine Qk (QU ?_)
   exact ZL rfl (o_faE underlying178 rfl sizeOf30 (hown47.slA J6) rfl (Jw rz hi2))
  refine Zb (fun w46 c48 x47 hc049 hk50 => ?_) ?_
  ·replace x47 := RelG.ext0 x47
   have z51 := x47.size
   have hown47 := hown47.ext x47
   refine Qk (QU ?_)
   exact ZL rfl (o_ldE (j := 2) isAgg30 (hown47.slA J6) rfl (Jw rz hi2) rfl)
  refine Zb (fun w52 c54 x53 hc055 hk56 => ?_) ?_
  ·replace x53 := RelG.ext0 x53
   have z57 := x53.size
   refine QU ?_
   exact ZL rfl (mvI rfl)
  refine Zb (fun w58 c60 x59 hc061 hk62 => ?_) ?_
  ·replace x59 := RelG.ext0 x59
   have z63 := x59.size
   refine Qk (QU ?_)
   exact ZL rfl (o_shlU (a := BitVec.ofNat 64 1) rfl rfl (by omega))
  refine Zb (fun w64 c66 x65 hc067 hk68 => ?_) ?_
  ·replace x65 := RelG.ext0 x65
   have z69 := x65.size
   refine Qk (Qk (QU ?_))
   exact ZL rfl (o_bxor rfl rfl)
  refine Zb (fun w70 c72 x71 hc073 hk74 => ?_) ?_
  ·replace x71 := RelG.ext0 x71
   have z75 := x71.size
   have hown47 := hown47.ext x71
   refine Qk (Qk (Qk (Qk (Qk (Qk (Qk (Qk (Qk ?_))))))))
   refine Qk (Qk (Qk (QU ?_)))
   exact ZL rfl (o_iaO (i := i) underlying36 sizeOf178 hown47 rfl rfl (by omega))
  refine Zb (fun w76 c78 x77 hc079 hk80 => ?_) ?_
  ·replace x77 := RelG.ext0 x77
   have z81 := x77.size
   have hown47 := hown47.ext x77
   refine Qk (Qk (Qk (Qk (Qk (Qk (Qk (Qk (Qk ?_))))))))
   refine Qk (Qk (QU ?_))
   exact ZL rfl (o_faE underlying178 rfl sizeOf30 (hown47.slA J6) rfl (Jw rz hi2))
  exact Jv
 case fin12 =>
  intro w82 c84 x83 hc085
  replace x83 := RelG.ext0 x83
  have z86 := x83.size
  replace hX := hX.ex x83
  replace hown47 := hown47.ext x83
  refine Qk (Qk (Qk (Qk (Qk (Qk (Qk (Qk (Qk ?_))))))))
  refine Qk (Qk (Qk (QU ?_)))
  refine Rg_elstF (i := i) (j := 2) (⟨(m.getD i rz).n, (m.getD i rz).u, (m.getD i rz).x ^^^ (1#64 <<< rn)⟩) ((m.getD i rz)) rfl J6 sizeOf30 rfl rfl rfl rfl hown47 (Jw rz hi2) rfl (by decide) ?_
  intro w87 x88 hown47
  have z89 := x88.size
  replace hX := Bel.out hX x88 om2
  refine Qg (QH (Qc ?_))
  refine Rr (Zt (v := .slice a47 m.length c47) rfl) ?_
  refine Rr (ZD (v := .slice a47 m.length c47) rfl) ?_
  refine Rr Zi ?_
  refine Qg (ZJ ?_)
  refine ⟨_, Je rfl rfl rfl, ?_⟩
  have e : setR m n (rn : Int) act = (setM m i ((m.getD i rz).x ^^^ oneW rn), 0) := by
   rw [setR, if_neg hr, if_neg (by omega), hi1, Int.toNat_natCast, if_neg hne, Int.toNat_natCast]
  rw [e]
  exact ⟨⟨_, rfl, Rd.mono (hown47.rd J6) fun g h1 h2 => .inr ⟨by omega, h1⟩⟩, hX⟩

