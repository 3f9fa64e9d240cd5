/- Walks: what functions return. -/
import Derived.Test.YtdnkjdmfnmdpdaaGreatDoorWwire
import Derived.Test.YtdnkjdmfnmdpdaaGreatDoorRe
import Derived.Test.YtdnkjdmfnmdpdaaGreatDoorWset5
import Derived.Test.YtdnkjdmfnmdpdaaGreatDoorWref50
import Derived.Test.YtdnkjdmfnmdpdaaGreatDoorWsrc
set_option linter.unusedVariables false
set_option linter.unusedSimpArgs false
set_option linter.unnecessarySimpa false
namespace Go.Proofs.YtdnkjdmfnmdpdaaGreatDoor
open Go Go.Lx Go.RowKit Tryz
set_option maxRecDepth 100000
set_option maxHeartbeats 2000000 in
theorem cbytes_ok (a : Option Addr) (c : Nat) (G : Nat → Prop) (X : List COp) (w : World) (hs : Sl encCo 8 G w a c X) (hv : ∀ x ∈ X, Vo x) (hn : X.length ≤ 100000) : Ok Tryz.prog 31 #[.agg #[.slice a X.length c]] w fun v w' => Own encB 1 5 (Fsh w w') w' v (obytes X) ∧ Ext False w w' := by
 have hlen := hs.len
 replace hs := hs.mono (F' := fun g => G g ∧ g < w.heap.size) (fun g h1 h2 => ⟨h2, h1⟩)
 refine ZQ 65 func31 rfl rfl rfl ?_
 have hX := xRf w
 refine QH (Qc ?_)
 refine Z2 rfl (JB (v := .agg _) rfl) ?_
 intro b1 w1 x2 hge1 hb1
 have hlt1 := hb1.lt
 change Box _ _ _ (wsS _ _ _) at hb1
 have z3 := x2.size
 replace hX := hX.ex x2
 replace hs := hs.ext x2
 refine Rr Zi ?_
 refine Qg (QH (Qc ?_))
 obtain ⟨n1, hn1⟩ : ∃ n, n = w1.heap.size := ⟨_, rfl⟩
 refine ZC rfl (o_call0 call79) (Ok.mono (wnew_ok _) ?_)
 rintro v8 w4 ⟨hw, x5⟩
 have z6 := x5.size
 replace hX := hX.ex x5
 replace hs := hs.ext x5
 replace hb1 := hb1.ext x5
 replace hw := hw.mono (D' := fun g => n1 ≤ g) (fun g h1 h2 => by omega)
 refine Rr (ZD (v := v8) rfl) ?_
 refine Qg (QH (Qc ?_))
 refine Rr (Zt (v := v8) rfl) ?_
 refine Rr (ZN underlying63 rfl sizeOf61 rfl) ?_
 refine Rr (ZB isAgg61 rfl (hb1.at.get 0 rfl)) ?_
 refine Rr (Z0 underlying61 rfl) ?_
 refine Rr (o_convV (n := X.length) underlying3 underlying30 rfl (by omega)) ?_
 refine ZC rfl (ZW call80 rfl rfl) (Ok.mono (wuint_ok v8 (fun g => n1 ≤ g) [] (BitVec.ofNat 64 X.length) _ hw (fun g h => by omega) (by decide)) ?_)
 rintro _ w7 ⟨rfl, hw, x8⟩
 have z9 := x8.size
 replace hX := Bel.out hX x8 om2
 replace hs := hs.keep x8 om3
 replace hb1 := hb1.keep x8 om1
 refine Qg (QH (QH (Qc ?_)))
 refine Rr (ZN underlying63 rfl sizeOf61 rfl) ?_
 refine Rr (ZB isAgg61 rfl (hb1.at.get 0 rfl)) ?_
 refine Rr (Z0 underlying61 rfl) ?_
 refine Rr Jj ?_
 refine Qg (ZM ?_)
 refine Jk (α := Nat) [(5, 5), (7, 7), (18, 62)] (fun k => [(18, .int .i64 (k : Int))]) (fun k w' => (k ≤ X.length) ∧ Bel False (fun g => n1 ≤ g) w7 w' ∧ (Wr 200 5 (fun g => n1 ≤ g) w' v8 (obytesK X k))) (fun k => X.length - k) 0 ⟨rfl, trivial⟩ ⟨Nat.zero_le _, Bel.refl _ _, (by rw [obytesK_zero]; exact hw)⟩ ?_
 rintro k fb12 w11 ⟨hk, hXL10, hw⟩
 have z13 := Bel.size hXL10
 replace hX := Bel.out hX hXL10 om2
 replace hs := hs.keep hXL10 om3
 refine QH (Qc ?_)
 refine Rr (Z5 rfl rfl) ?_
 refine Qg (QH ?_)
 refine ZG rfl (fun hc1 => ?_) (fun hc1 => ?_)
 ·have hk1 : k < X.length := by have := dcT hc1; omega
  refine ZH (QH (ZM (QH (Qc ?_))))
  refine Rr (Js underlying61 sizeOf50 hs rfl rfl omg) ?_
  refine Rr (Jx isAgg50 sizeOf50 hs rfl (Jw coz hk1)) ?_
  refine Z8 rfl rfl zeroValue50 rfl sizeOf50 (fun _ => rfl) rfl rfl ?_
  intro b5 w14 x15 hge5 hb5
  replace hw := hw.mono (D' := fun g => n1 ≤ g ∧ g ≠ b5) (fun g h1 h2 => by omega)
  have hlt5 := hb5.lt
  change Box _ _ _ (encCo _) at hb5
  have z16 := x15.size
  replace hX := hX.ex x15
  replace hXL10 := Bel.ex hXL10 x15
  replace hw := hw.ext x15
  refine Qg (QH (Qc ?_))
  obtain ⟨o, ho⟩ : ∃ o, o = (X.getD k coz) := ⟨_, rfl⟩
  rw [← ho] at hb5
  have hvo : Vo o := hv o (ho ▸ gm hk1)
  have hrg := hvo.rng
  have hal := hvo.sh2
  have hkl := obytesK_sh hv k
  have hnl := numsB_len ([o.k, o.a, o.b, o.u] : List Int)
  refine Rr (Zt (v := v8) rfl) ?_
  refine Rr (ZN underlying50 rfl sizeOf4 rfl) ?_
  refine Rr (ZB isAgg4 rfl (hb5.at.get 0 rfl)) ?_
  refine ZC rfl (ZW call81 rfl rfl) (Ok.mono (wflag_ok v8 (fun g => n1 ≤ g ∧ g ≠ b5) (obytesK X k) o.add _ hw (fun g h => ⟨by omega, by omega⟩) (by omega)) ?_)
  rintro _ w17 ⟨rfl, hw, x18⟩
  have z19 := x18.size
  replace hX := Bel.out hX x18 om2
  replace hXL10 := Bel.out hXL10 x18 om2
  replace hb5 := hb5.keep x18 om1
  refine Qg (QH (QH (Qc ?_)))
  refine Rr (ZN underlying50 rfl sizeOf47 rfl) ?_
  refine Rr (ZB isAgg47 rfl (hb5.at.get 1 rfl)) ?_
  refine Rr (JJ underlying47 underlying3 rfl (JT (by unfold I64; omega))) ?_
  refine Rr (ZN underlying50 rfl sizeOf3 rfl) ?_
  refine Rr (ZB isAgg3 rfl (hb5.at.get 2 rfl)) ?_
  refine Rr (ZN underlying50 rfl sizeOf3 rfl) ?_
  refine Rr (ZB isAgg3 rfl (hb5.at.get 3 rfl)) ?_
  refine Rr (ZN underlying50 rfl sizeOf3 rfl) ?_
  refine Rr (ZB isAgg3 rfl (hb5.at.get 4 rfl)) ?_
  refine Rr (Z7 (cells := [.int .i64 o.k, .int .i64 o.a, .int .i64 o.b, .int .i64 o.u]) (vs := [(0, .int _ _), (1, .int _ _), (2, .int _ _), (3, .int _ _)]) rfl (by kernel_rfl)) ?_
  refine Rr Jj ?_
  refine Qg (ZM ?_)
  refine Jk (α := Nat) [(7, 7), (36, 43)] (fun j => [(36, .int .i64 (j : Int))]) (fun j w' => (j ≤ 4) ∧ Bel False (fun g => n1 ≤ g ∧ g ≠ b5) w17 w' ∧ (Wr 200 5 (fun g => n1 ≤ g ∧ g ≠ b5) w' v8 ((obytesK X k) ++ [putF o.add] ++ numsB (([o.k, o.a, o.b, o.u] : List Int).take j)))) (fun j => 4 - j) 0 ⟨rfl, trivial⟩ ⟨Nat.zero_le _, Bel.refl _ _, (by simpa [numsB] using hw)⟩ ?_
  rintro j fb22 w21 ⟨hj, hXL20, hw⟩
  have z23 := Bel.size hXL20
  replace hX := Bel.out hX hXL20 om2
  replace hXL10 := Bel.out hXL10 hXL20 om2
  replace hb5 := hb5.keep hXL20 om1
  refine QH (Qc ?_)
  refine Rr (Z5 rfl rfl) ?_
  refine Qg (QH ?_)
  refine ZG rfl (fun hc2 => ?_) (fun hc2 => ?_)
  ·have hj1 : j < 4 := by have := dcT hc2; omega
   have hjr : 0 ≤ ([o.k, o.a, o.b, o.u] : List Int).getD j 0 ∧ ([o.k, o.a, o.b, o.u] : List Int).getD j 0 < 18446744073709551616 := (fun (z : Int) (hz : z ∈ ([o.k, o.a, o.b, o.u] : List Int)) => (by simp only [List.mem_cons, List.not_mem_nil, or_false] at hz; rcases hz with rfl | rfl | rfl | rfl <;> omega : 0 ≤ z ∧ z < 18446744073709551616)) _ (gm (z := (0 : Int)) (show j < ([o.k, o.a, o.b, o.u] : List Int).length from hj1))
   refine ZH (QH (ZM (QH (Qc ?_))))
   refine Rr (o_idx4 underlying157 isAgg3 sizeOf3 rfl rfl hj1) ?_
   refine Rr (asI rfl) ?_
   refine Qg (Qc ?_)
   refine Rr (Zt (v := v8) rfl) ?_
   refine Rr (mvI rfl) ?_
   refine Rr (o_convI underlying3 underlying30 rfl hjr.1 hjr.2) ?_
   refine ZC rfl (ZW call80 rfl rfl) (Ok.mono (wuint_ok v8 (fun g => n1 ≤ g ∧ g ≠ b5) ((obytesK X k) ++ [putF o.add] ++ numsB (([o.k, o.a, o.b, o.u] : List Int).take j)) (iW (([o.k, o.a, o.b, o.u] : List Int).getD j 0)) _ hw (fun g h => ⟨by omega, by omega⟩) (by have := numsB_len (([o.k, o.a, o.b, o.u] : List Int).take j); rw [List.length_take] at this; simp only [List.length_append, List.length_singleton]; omega)) ?_)
   rintro _ w24 ⟨rfl, hw, x25⟩
   have z26 := x25.size
   replace hX := Bel.out hX x25 om2
   replace hXL10 := Bel.out hXL10 x25 om2
   replace hXL20 := Bel.out hXL20 x25 om2
   refine Qg (Qc ?_)
   refine Rr (Z1 rfl rfl omg) ?_
   refine Rr (mvI rfl) ?_
   refine Qg ?_
   refine ⟨j + 1, ⟨sT, trivial⟩, oT, ⟨?_, hXL20, ?_⟩, ?_⟩
   ·show j + 1 ≤ 4; omega
   ·rw [numsB_succ (show j < ([o.k, o.a, o.b, o.u] : List Int).length from hj1), ← List.append_assoc]; exact hw
   ·omega
  have hj1 : ¬ j < 4 := by have := dcF hc2; omega
  refine Z4 (ZX (QH (Qc ?_)))
  have hj4 : j = 4 := by omega
  subst hj4
  refine Rr (ZN underlying50 rfl sizeOf47 rfl) ?_
  refine Rr (ZB isAgg47 rfl (hb5.at.get 1 rfl)) ?_
  refine Rr (ZZ rfl rfl) ?_
  refine Qg ?_
  refine ZG rfl (fun hc3 => ?_) (fun hc3 => ?_)
  ·have hk2 : o.k = 2 := eq_of_beq hc3
   refine QH (Qc ?_)
   refine Rr (Zt (v := v8) rfl) ?_
   refine Rr (ZN underlying50 rfl sizeOf48 rfl) ?_
   refine Rr (ZN underlying48 rfl sizeOf9 rfl) ?_
   refine Rr (ZB isAgg9 rfl (hb5.at.get 5 rfl)) ?_
   refine ZC rfl (ZW call82 rfl rfl) (Ok.mono (wstr_ok v8 (fun g => n1 ≤ g ∧ g ≠ b5) ((obytesK X k) ++ [putF o.add] ++ numsB ([o.k, o.a, o.b, o.u] : List Int)) o.p.act _ hw (fun g h => ⟨by omega, by omega⟩) (by simp only [List.length_append, List.length_singleton, List.length_cons, List.length_nil] at hnl ⊢; omega)) ?_)
   rintro _ w27 ⟨rfl, hw, x28⟩
   have z29 := x28.size
   replace hX := Bel.out hX x28 om2
   replace hXL10 := Bel.out hXL10 x28 om2
   replace hb5 := hb5.keep x28 om1
   refine Qg (QH (Qc ?_))
   refine Rr (Zt (v := v8) rfl) ?_
   refine Rr (ZN underlying50 rfl sizeOf48 rfl) ?_
   refine Rr (ZN underlying48 rfl sizeOf9 rfl) ?_
   refine Rr (ZB isAgg9 rfl (hb5.at.get 6 rfl)) ?_
   refine ZC rfl (ZW call82 rfl rfl) (Ok.mono (wstr_ok v8 (fun g => n1 ≤ g ∧ g ≠ b5) (((obytesK X k) ++ [putF o.add] ++ numsB ([o.k, o.a, o.b, o.u] : List Int)) ++ putB o.p.act) o.p.path _ hw (fun g h => ⟨by omega, by omega⟩) (by have := JX o.p.act; simp only [List.length_append, List.length_singleton, List.length_cons, List.length_nil] at hnl ⊢; omega)) ?_)
   rintro _ w30 ⟨rfl, hw, x31⟩
   have z32 := x31.size
   replace hX := Bel.out hX x31 om2
   replace hXL10 := Bel.out hXL10 x31 om2
   replace hb5 := hb5.keep x31 om1
   refine Qg (Qc ?_)
   refine Rr (Zt (v := v8) rfl) ?_
   refine Rr (ZN underlying50 rfl sizeOf48 rfl) ?_
   refine Rr (ZN underlying48 rfl sizeOf4 rfl) ?_
   refine Rr (ZB isAgg4 rfl (hb5.at.get 7 rfl)) ?_
   refine ZC rfl (ZW call81 rfl rfl) (Ok.mono (wflag_ok v8 (fun g => n1 ≤ g ∧ g ≠ b5) (((obytesK X k) ++ [putF o.add] ++ numsB ([o.k, o.a, o.b, o.u] : List Int)) ++ putB o.p.act ++ putB o.p.path) o.p.deep _ hw (fun g h => ⟨by omega, by omega⟩) (by have := JX o.p.act; have := JX o.p.path; simp only [List.length_append, List.length_singleton, List.length_cons, List.length_nil] at hnl ⊢; omega)) ?_)
   rintro _ w33 ⟨rfl, hw, x34⟩
   have z35 := x34.size
   replace hX := Bel.out hX x34 om2
   replace hXL10 := Bel.out hXL10 x34 om2
   refine Qg (Qc ?_)
   refine Rr (Z1 rfl rfl omg) ?_
   refine Rr (mvI rfl) ?_
   refine Qg ?_
   refine ⟨k + 1, ⟨sT, trivial⟩, oT, ⟨?_, hXL10, ?_⟩, ?_⟩
   ·show k + 1 ≤ X.length; omega
   ·rw [obytesK_succ hk1, ← ho, opB_nums, if_pos hk2, permB]
    simp only [← List.append_assoc]
    exact hw.mono (fun g h1 h2 => h2.1)
   ·omega
  have hk2 : ¬ o.k = 2 := ne_of_beq_false hc3
  refine ZH (Qc ?_)
  refine Rr (Z1 rfl rfl omg) ?_
  refine Rr (mvI rfl) ?_
  refine Qg ?_
  refine ⟨k + 1, ⟨sT, trivial⟩, oT, ⟨?_, hXL10, ?_⟩, ?_⟩
  ·show k + 1 ≤ X.length; omega
  ·rw [obytesK_succ hk1, ← ho, opB_nums, if_neg hk2, List.append_nil]
   simp only [← List.append_assoc]
   exact hw.mono (fun g h1 h2 => h2.1)
  ·omega
 have hk1 : ¬ k < X.length := by have := dcF hc1; omega
 refine Z4 (ZX (QH (Qc ?_)))
 rw [obytesK_end (by omega)] at hw
 refine Rr (Zt (v := v8) rfl) ?_
 refine ZC rfl (ZK call83 rfl) (Ok.mono (wout_ok v8 _ (obytes X) _ hw (by have := obytes_sh hv; omega)) ?_)
 rintro v64 w36 ⟨hown64, x37⟩
 have z38 := x37.size
 replace hX := hX.ex x37
 replace hown64 := hown64.mono (D' := fun g => n1 ≤ g) (fun g h1 h2 => by omega)
 refine Rr (ZD (v := v64) rfl) ?_
 refine Qg (ZJ ?_)
 refine ⟨_, ZF rfl rfl, ?_⟩
 exact ⟨hown64.mono (fun g h1 h2 => by omega), hX⟩

theorem rdn_ok (v0 : Value) (D : Nat → Prop) (s : RSt) (most : Nat) (hmost : most ≤ 100000000) (w : World) (hr0 : Rdr 194 D w v0 s) (hl9 : s.1.length ≤ 100000000) : Ok Tryz.prog 76 #[v0, .int .i64 (most : Int)] w fun v w' => v = .int .i64 (rdN s most).2 ∧ Rdr 194 D w' v0 (rdN s most).1 ∧ Bel False (PtB v0) w w' := rnumber_ok v0 D s most hmost w hr0 hl9
set_option maxHeartbeats 4000000 in
theorem cread_ok (v0 : Value) (G0 : Nat → Prop) (p : List UInt8) (w : World) (hp : Rd encB 1 G0 w v0 p) (hl : p.length ≤ 100000) : Ok Tryz.prog 29 #[v0] w fun v w' => (∃ a c L e, v = .tuple #[.agg #[.slice a (L : List COp).length c], .int .i64 e] ∧ Sl encCo 8 (Fsh w w') w' a c L ∧ ((e = 0 ∧ okR p ∧ L = (rdAll p).2) ∨ (e = 6 ∧ ¬ okR p ∧ L = []))) ∧ Ext False w w' := by
 obtain ⟨ap, cp, rfl, hp⟩ := hp
 replace hp := hp.mono (F' := fun g => g < w.heap.size) (fun g h1 h2 => h1)
 have hcl := countS_le (p, 0) p.length
 have hcd := countS_dec (p, 0) p.length
 refine ZQ 84 func29 rfl rfl rfl ?_
 have hX := xRf w
 refine QH (Qc ?_)
 refine Z2 rfl (JK zeroValue63) ?_
 intro b2 w1 x2 hge2 hb2
 have hlt2 := hb2.lt
 change Box _ _ _ ([.slice _ _ _]) at hb2
 have z3 := x2.size
 replace hX := hX.ex x2
 replace hp := hp.ext x2
 refine Rr Zi ?_
 refine Qg (QH (Qc ?_))
 refine Rr (mvS rfl) ?_
 refine ZC rfl (ZK call72 rfl) (Ok.mono (rnew_ok _ _ p _ ⟨_, _, rfl, hp⟩ (by omega)) ?_)
 rintro v11 w4 ⟨hr, x5⟩
 have z6 := x5.size
 replace hX := hX.ex x5
 replace hb2 := hb2.ext x5
 refine Rr (ZD (v := v11) rfl) ?_
 refine Qg (QH (Qc ?_))
 refine Rr Zi ?_
 refine Qg (QH (QH (Qc ?_)))
 obtain ⟨n1, hn1⟩ : ∃ n, n = w4.heap.size := ⟨_, rfl⟩
 replace hr := hr.mono (D' := fun g => b2 < g ∧ g < n1) (fun g h1 h2 => ⟨by have := h2.1; omega, by omega⟩)
 refine Rr (Zt (v := v11) rfl) ?_
 refine Rr (mvS rfl) ?_
 refine Rr (Z0 underlying22 rfl) ?_
 refine ZC rfl (ZW call73 rfl rfl) (Ok.mono (hr.wk (rcount_ok v11 _ (p, 0) p.length (by omega) _ hr (by simp only; omega))) ?_)
 rintro _ w7 ⟨rfl, hr, x8⟩
 have z9 := x8.size
 replace hX := Bel.out hX x8 om2
 replace hb2 := hb2.keep x8 om1
 refine Rr (asI rfl) ?_
 refine Qg (ZM ?_)
 refine Jk (α := Nat × RSt × List COp × Value) [(5, 7), (16, 62)] (fun q => [(6, .int .i64 (q.1 : Int)), (5, q.2.2.2)]) (fun q w' => (rdAll p = rdOs p.length q.1 q.2.1 q.2.2.1 ∧ q.2.1.1.length ≤ 100000 ∧ (∀ o ∈ q.2.2.1, o.p.ok) ∧ q.2.2.1.length + q.1 ≤ p.length) ∧ Bel False (fun g => b2 < g) w7 w' ∧ (Rdr 194 (fun g => b2 < g ∧ g < n1) w' v11 q.2.1 ∧ Own encCo 8 50 (fun g => n1 ≤ g) w' q.2.2.2 q.2.2.1)) (fun q => q.1) ((countS (p, 0) p.length).2, (countS (p, 0) p.length).1, [], .slice none 0 0) ⟨rfl, rfl, trivial⟩ ⟨⟨rfl, by simp only at hcd ⊢; omega, fun o h => absurd h (by simp), by simp only [List.length_nil]; omega⟩, Bel.refl _ _, ⟨hr, Own.nil _ _⟩⟩ ?_
 rintro ⟨m, s, L, t⟩ fb12 w11 ⟨⟨hrd, hsl, hLk, hLl⟩, hXL10, ⟨hr, hown5⟩⟩
 dsimp only at *
 have z13 := Bel.size hXL10
 replace hX := Bel.out hX hXL10 om2
 replace hb2 := hb2.keep hXL10 om1
 refine QH (QH (Qc ?_))
 refine Rr (mvI rfl) ?_
 refine Rr (JY rfl rfl) ?_
 refine Rr (mvB rfl) ?_
 refine ZI 2 18 rfl rfl rfl (fun hg => (Zt (v := v11) rfl)) ?_
 refine JQ 2 18 rfl rfl rfl (fun hg => ⟨(ZK call74 (ZU (u := undef) hg)), rerr_ok v11 _ s _ hr⟩) ?_
 intro w14 x15
 have z16 := x15.size
 replace hX := hX.ex x15
 replace hXL10 := Bel.ex hXL10 x15
 replace hb2 := hb2.ext x15
 replace hown5 := hown5.ext x15
 replace hr := hr.ext x15
 refine ZI 2 18 rfl rfl rfl (fun hg => (ZZ (ZU (u := undef) hg) rfl)) ?_
 refine Rr (Jq (u := undef) rfl rfl) ?_
 refine Qg ?_
 refine ZG rfl (fun hc1 => ?_) (fun hc1 => ?_)
 ·have hgo := Bool.and_eq_true_iff.1 hc1
  have hs0 : s.2 = 0 := eq_of_beq hgo.2
  have hm0 : 0 < m := by have := dcT hgo.1; omega
  obtain ⟨m, rfl⟩ : ∃ z, m = z + 1 := ⟨m - 1, by omega⟩
  refine ZH (QH (ZM (QH (Qc ?_))))
  refine Rr (Zt (v := v11) rfl) ?_
  refine ZC rfl (ZK call75 rfl) (Ok.mono (hr.wk (rflag_ok v11 _ s _ hr (by omega))) ?_)
  rintro _ w17 ⟨rfl, hr, x18⟩
  have z19 := x18.size
  replace hX := Bel.out hX x18 om2
  replace hXL10 := Bel.out hXL10 x18 om2
  replace hown5 := hown5.keepD x18 om3
  obtain ⟨s1, hs1⟩ : ∃ z, z = (flagS s).1 := ⟨_, rfl⟩
  rw [← hs1] at hr
  have df := flagS_dec s
  rw [← hs1] at df
  refine Rr (Zt (v := v11) rfl) ?_
  refine ZC rfl (ZW call76 rfl rfl) (Ok.mono (hr.wk (rdn_ok v11 _ s1 3 (by decide) _ hr (by omega))) ?_)
  rintro _ w20 ⟨rfl, hr, x21⟩
  have z22 := x21.size
  replace hX := Bel.out hX x21 om2
  replace hXL10 := Bel.out hXL10 x21 om2
  replace hown5 := hown5.keepD x21 om3
  obtain ⟨s2, hs2⟩ : ∃ z, z = (rdN s1 3).1 := ⟨_, rfl⟩
  rw [← hs2] at hr
  obtain ⟨kk, hkk⟩ : ∃ z, z = (rdN s1 3).2 := ⟨_, rfl⟩
  have rkk := rdN_rng s1 3 (by decide)
  have dkk := rdN_dec s1 3
  rw [← hs2] at dkk
  rw [← hkk] at rkk ⊢
  refine Rr (JJ underlying3 underlying47 rfl (wrap_k8 (by omega) (by omega))) ?_
  refine Rr (Z7 (cells := encCo ⟨(flagS s).2, kk, 0, 0, 0, pz⟩) (vs := [(0, .bool _), (1, .int _ _)]) rfl (by kernel_rfl)) ?_
  refine Z8 rfl rfl zeroValue50 rfl sizeOf50 (fun _ => rfl) rfl rfl ?_
  intro b7 w23 x24 hge7 hb7
  replace hown5 := hown5.mono (D' := fun g => n1 ≤ g ∧ g ≠ b7) (fun g h1 h2 => by omega)
  have hlt7 := hb7.lt
  change Box _ _ _ (encCo _) at hb7
  have z25 := x24.size
  replace hX := hX.ex x24
  replace hXL10 := Bel.ex hXL10 x24
  replace hown5 := hown5.ext x24
  replace hr := hr.ext x24
  refine Qg (QH (Qc ?_))
  refine Rr (Zt (v := v11) rfl) ?_
  refine ZC rfl (ZW call76 rfl rfl) (Ok.mono (hr.wk (rdn_ok v11 _ s2 256 (by decide) _ hr (by omega))) ?_)
  rintro _ w26 ⟨rfl, hr, x27⟩
  have z28 := x27.size
  replace hX := Bel.out hX x27 om2
  replace hXL10 := Bel.out hXL10 x27 om2
  replace hown5 := hown5.keepD x27 om3
  replace hb7 := hb7.keep x27 om1
  obtain ⟨s3, hs3⟩ : ∃ z, z = (rdN s2 256).1 := ⟨_, rfl⟩
  rw [← hs3] at hr
  obtain ⟨ka, hka⟩ : ∃ z, z = (rdN s2 256).2 := ⟨_, rfl⟩
  have rka := rdN_rng s2 256 (by decide)
  have dka := rdN_dec s2 256
  rw [← hs3] at dka
  rw [← hka] at rka ⊢
  refine Rr (ZN underlying50 rfl sizeOf3 rfl) ?_
  refine Jb (v := .int _ _) rfl sizeOf3 rfl rfl hb7 rfl rfl rfl ?_
  intro w29 c30 hb7
  change Box _ _ _ ([.bool _, .int _ _, .int _ _, .int _ _, .int _ _, str _, str _, .bool _]) at hb7
  have z31 := Bel.size c30
  replace hX := Bel.out hX c30 om2
  replace hXL10 := Bel.out hXL10 c30 om2
  replace hown5 := hown5.keepD c30 om3
  replace hr := hr.keepD c30 om3
  refine Qg (QH (Qc ?_))
  refine Rr (Zt (v := v11) rfl) ?_
  refine ZC rfl (ZW call76 rfl rfl) (Ok.mono (hr.wk (rdn_ok v11 _ s3 63 (by decide) _ hr (by omega))) ?_)
  rintro _ w32 ⟨rfl, hr, x33⟩
  have z34 := x33.size
  replace hX := Bel.out hX x33 om2
  replace hXL10 := Bel.out hXL10 x33 om2
  replace hown5 := hown5.keepD x33 om3
  replace hb7 := hb7.keep x33 om1
  obtain ⟨s4, hs4⟩ : ∃ z, z = (rdN s3 63).1 := ⟨_, rfl⟩
  rw [← hs4] at hr
  obtain ⟨kb, hkb⟩ : ∃ z, z = (rdN s3 63).2 := ⟨_, rfl⟩
  have rkb := rdN_rng s3 63 (by decide)
  have dkb := rdN_dec s3 63
  rw [← hs4] at dkb
  rw [← hkb] at rkb ⊢
  refine Rr (ZN underlying50 rfl sizeOf3 rfl) ?_
  refine Jb (v := .int _ _) rfl sizeOf3 rfl rfl hb7 rfl rfl rfl ?_
  intro w35 c36 hb7
  change Box _ _ _ ([.bool _, .int _ _, .int _ _, .int _ _, .int _ _, str _, str _, .bool _]) at hb7
  have z37 := Bel.size c36
  replace hX := Bel.out hX c36 om2
  replace hXL10 := Bel.out hXL10 c36 om2
  replace hown5 := hown5.keepD c36 om3
  replace hr := hr.keepD c36 om3
  refine Qg (QH (Qc ?_))
  refine Rr (Zt (v := v11) rfl) ?_
  refine ZC rfl (ZW call76 rfl rfl) (Ok.mono (hr.wk (rdn_ok v11 _ s4 30000 (by decide) _ hr (by omega))) ?_)
  rintro _ w38 ⟨rfl, hr, x39⟩
  have z40 := x39.size
  replace hX := Bel.out hX x39 om2
  replace hXL10 := Bel.out hXL10 x39 om2
  replace hown5 := hown5.keepD x39 om3
  replace hb7 := hb7.keep x39 om1
  obtain ⟨s5, hs5⟩ : ∃ z, z = (rdN s4 30000).1 := ⟨_, rfl⟩
  rw [← hs5] at hr
  obtain ⟨ku, hku⟩ : ∃ z, z = (rdN s4 30000).2 := ⟨_, rfl⟩
  have rku := rdN_rng s4 30000 (by decide)
  have dku := rdN_dec s4 30000
  rw [← hs5] at dku
  rw [← hku] at rku ⊢
  refine Rr (ZN underlying50 rfl sizeOf3 rfl) ?_
  refine Jb (v := .int _ _) rfl sizeOf3 rfl rfl hb7 rfl rfl rfl ?_
  intro w41 c42 hb7
  change Box _ _ _ ([.bool _, .int _ _, .int _ _, .int _ _, .int _ _, str _, str _, .bool _]) at hb7
  have z43 := Bel.size c42
  replace hX := Bel.out hX c42 om2
  replace hXL10 := Bel.out hXL10 c42 om2
  replace hown5 := hown5.keepD c42 om3
  replace hr := hr.keepD c42 om3
  refine Qg (QH (QH (Qc ?_)))
  refine Rr (ZN underlying50 rfl sizeOf47 rfl) ?_
  refine Rr (ZB isAgg47 rfl (hb7.at.get 1 rfl)) ?_
  refine Rr (ZZ rfl rfl) ?_
  refine Qg ?_
  refine ZG rfl (fun hc2 => ?_) (fun hc2 => ?_)
  ·have hk2 : kk = 2 := eq_of_beq hc2
   refine QH (Qc ?_)
   refine Rr (Zt (v := v11) rfl) ?_
   refine Rr (mvS rfl) ?_
   refine Rr (Z0 underlying22 rfl) ?_
   refine ZC rfl (ZW call77 rfl rfl) (Ok.mono (hr.wk (rstr_ok v11 _ s5 p.length (by omega) _ hr (by omega))) ?_)
   rintro _ w44 ⟨rfl, hr, x45⟩
   have z46 := x45.size
   replace hX := Bel.out hX x45 om2
   replace hXL10 := Bel.out hXL10 x45 om2
   replace hown5 := hown5.keepD x45 om3
   replace hb7 := hb7.keep x45 om1
   obtain ⟨s6, hs6⟩ : ∃ z, z = (bytesS s5 p.length).1 := ⟨_, rfl⟩
   rw [← hs6] at hr
   have d6 := bytesS_dec s5 p.length
   rw [← hs6] at d6
   refine Rr (ZN underlying50 rfl sizeOf48 rfl) ?_
   refine Rr (ZN underlying48 rfl sizeOf9 rfl) ?_
   refine Jb (v := str _) rfl sizeOf9 rfl rfl hb7 rfl rfl rfl ?_
   intro w47 c48 hb7
   change Box _ _ _ ([.bool _, .int _ _, .int _ _, .int _ _, .int _ _, str _, str _, .bool _]) at hb7
   have z49 := Bel.size c48
   replace hX := Bel.out hX c48 om2
   replace hXL10 := Bel.out hXL10 c48 om2
   replace hown5 := hown5.keepD c48 om3
   replace hr := hr.keepD c48 om3
   refine Qg (QH (Qc ?_))
   refine Rr (Zt (v := v11) rfl) ?_
   refine Rr (mvS rfl) ?_
   refine Rr (Z0 underlying22 rfl) ?_
   refine ZC rfl (ZW call77 rfl rfl) (Ok.mono (hr.wk (rstr_ok v11 _ s6 p.length (by omega) _ hr (by omega))) ?_)
   rintro _ w50 ⟨rfl, hr, x51⟩
   have z52 := x51.size
   replace hX := Bel.out hX x51 om2
   replace hXL10 := Bel.out hXL10 x51 om2
   replace hown5 := hown5.keepD x51 om3
   replace hb7 := hb7.keep x51 om1
   obtain ⟨s7, hs7⟩ : ∃ z, z = (bytesS s6 p.length).1 := ⟨_, rfl⟩
   rw [← hs7] at hr
   have d7 := bytesS_dec s6 p.length
   rw [← hs7] at d7
   refine Rr (ZN underlying50 rfl sizeOf48 rfl) ?_
   refine Rr (ZN underlying48 rfl sizeOf9 rfl) ?_
   refine Jb (v := str _) rfl sizeOf9 rfl rfl hb7 rfl rfl rfl ?_
   intro w53 c54 hb7
   change Box _ _ _ ([.bool _, .int _ _, .int _ _, .int _ _, .int _ _, str _, str _, .bool _]) at hb7
   have z55 := Bel.size c54
   replace hX := Bel.out hX c54 om2
   replace hXL10 := Bel.out hXL10 c54 om2
   replace hown5 := hown5.keepD c54 om3
   replace hr := hr.keepD c54 om3
   refine Qg (Qc ?_)
   refine Rr (Zt (v := v11) rfl) ?_
   refine ZC rfl (ZK call75 rfl) (Ok.mono (hr.wk (rflag_ok v11 _ s7 _ hr (by omega))) ?_)
   rintro _ w56 ⟨rfl, hr, x57⟩
   have z58 := x57.size
   replace hX := Bel.out hX x57 om2
   replace hXL10 := Bel.out hXL10 x57 om2
   replace hown5 := hown5.keepD x57 om3
   replace hb7 := hb7.keep x57 om1
   obtain ⟨s8, hs8⟩ : ∃ z, z = (flagS s7).1 := ⟨_, rfl⟩
   rw [← hs8] at hr
   have d8 := flagS_dec s7
   rw [← hs8] at d8
   refine Rr (ZN underlying50 rfl sizeOf48 rfl) ?_
   refine Rr (ZN underlying48 rfl sizeOf4 rfl) ?_
   refine Jb (v := .bool _) rfl sizeOf4 rfl rfl hb7 rfl rfl rfl ?_
   intro w59 c60 hb7
   change Box _ _ _ ([.bool _, .int _ _, .int _ _, .int _ _, .int _ _, str _, str _, .bool _]) at hb7
   have z61 := Bel.size c60
   replace hX := Bel.out hX c60 om2
   replace hXL10 := Bel.out hXL10 c60 om2
   replace hown5 := hown5.keepD c60 om3
   replace hr := hr.keepD c60 om3
   refine Qg (Qc ?_)
   have h5 : rd5 s = (s5, ⟨(flagS s).2, kk, ka, kb, ku, pz⟩) := by
    show ((rdN (rdN (rdN (rdN (flagS s).1 3).1 256).1 63).1 30000).1, (⟨(flagS s).2, (rdN (flagS s).1 3).2, (rdN (rdN (flagS s).1 3).1 256).2, (rdN (rdN (rdN (flagS s).1 3).1 256).1 63).2, (rdN (rdN (rdN (rdN (flagS s).1 3).1 256).1 63).1 30000).2, pz⟩ : COp)) = _
    rw [← hs1, ← hs2, ← hs3, ← hs4, ← hs5, ← hkk, ← hka, ← hkb, ← hku]
   obtain ⟨o, ho⟩ : ∃ o : COp, o = ⟨(flagS s).2, kk, ka, kb, ku, ⟨(bytesS s5 p.length).2, (bytesS s6 p.length).2, (flagS s7).2⟩⟩ := ⟨_, rfl⟩
   have h9 : rdO p.length s = (s8, o) := by
    rw [rdO, h5, if_pos hk2, ho]
    show ((flagS (bytesS (bytesS s5 p.length).1 p.length).1).1, (⟨(flagS s).2, kk, ka, kb, ku, ⟨(bytesS s5 p.length).2, (bytesS (bytesS s5 p.length).1 p.length).2, (flagS (bytesS (bytesS s5 p.length).1 p.length).1).2⟩⟩ : COp)) = _
    rw [← hs6, ← hs7, ← hs8]
   change Box _ _ _ (encCo ⟨(flagS s).2, kk, ka, kb, ku, ⟨(bytesS s5 p.length).2, (bytesS s6 p.length).2, (flagS s7).2⟩⟩) at hb7
   rw [← ho] at hb7
   have hdO := rdO_dec p.length s
   have hpk := rdO_pok p.length s (by omega)
   rw [h9] at hdO hpk
   refine Rr (Zt (v := t) rfl) ?_
   refine Rr (ZO isAgg50 sizeOf50 rfl hb7.at rfl) ?_
   refine Jh (vs := [.agg _]) ([o]) rfl encCo_ok el_co rfl rfl ⟨rfl, trivial⟩ rfl rfl rfl rfl ?_
   intro a61 w62 x63 hown61
   have z64 := x63.size
   replace hX := hX.ex x63
   replace hXL10 := Bel.ex hXL10 x63
   replace hown5 := hown5.ext x63
   replace hr := hr.ext x63
   replace hown61 := hown61.mono (D' := fun g => b2 < g) (fun g h1 h2 => by omega)
   refine Jd rfl encCo_ok el_co rfl rfl hown5 (hown61.slA encCo_ok) rfl (by rw [List.length_singleton]; omega) omU ?_
   intro v62 w65 x66 hown5
   have z67 := x66.size
   replace hX := Bel.out hX x66 om2
   replace hXL10 := Bel.out hXL10 x66 om2
   replace hr := hr.keepD x66 om3
   refine Rr (ZD (v := v62) rfl) ?_
   refine Qg (Qc ?_)
   refine Rr (mvI rfl) ?_
   refine Rr (o_subN (p := m + 1) (b := 1) rfl rfl (by omega) (by omega)) ?_
   refine Rr (asI rfl) ?_
   refine Qg ?_
   refine ⟨(m, s8, L ++ [o], v62), ⟨sT, sT, trivial⟩, oT, ⟨?_, hXL10, ?_⟩, ?_⟩
   ·refine ⟨hrd.trans ((rdOs_go hs0).trans (by rw [h9])), by simp only at hdO ⊢; omega, fun x hx => (List.mem_append.1 hx).elim (hLk x) (fun h => (List.mem_singleton.1 h) ▸ hpk), ?_⟩
    simp only [List.length_append, List.length_singleton]; omega
   ·exact ⟨hr, hown5.mono (fun g h1 h2 => by omega)⟩
   ·show m < m + 1; omega
  have hk2 : ¬ kk = 2 := ne_of_beq_false hc2
  refine ZH (Qc ?_)
  have h5 : rd5 s = (s5, ⟨(flagS s).2, kk, ka, kb, ku, pz⟩) := by
   show ((rdN (rdN (rdN (rdN (flagS s).1 3).1 256).1 63).1 30000).1, (⟨(flagS s).2, (rdN (flagS s).1 3).2, (rdN (rdN (flagS s).1 3).1 256).2, (rdN (rdN (rdN (flagS s).1 3).1 256).1 63).2, (rdN (rdN (rdN (rdN (flagS s).1 3).1 256).1 63).1 30000).2, pz⟩ : COp)) = _
   rw [← hs1, ← hs2, ← hs3, ← hs4, ← hs5, ← hkk, ← hka, ← hkb, ← hku]
  obtain ⟨o, ho⟩ : ∃ o : COp, o = ⟨(flagS s).2, kk, ka, kb, ku, pz⟩ := ⟨_, rfl⟩
  have h9 : rdO p.length s = (s5, o) := by
   rw [rdO, h5, if_neg hk2, ho]
  change Box _ _ _ (encCo ⟨(flagS s).2, kk, ka, kb, ku, pz⟩) at hb7
  rw [← ho] at hb7
  have hdO := rdO_dec p.length s
  have hpk := rdO_pok p.length s (by omega)
  rw [h9] at hdO hpk
  refine Rr (Zt (v := t) rfl) ?_
  refine Rr (ZO isAgg50 sizeOf50 rfl hb7.at rfl) ?_
  refine Jh (vs := [.agg _]) ([o]) rfl encCo_ok el_co rfl rfl ⟨rfl, trivial⟩ rfl rfl rfl rfl ?_
  intro a61 w68 x69 hown61
  have z70 := x69.size
  replace hX := hX.ex x69
  replace hXL10 := Bel.ex hXL10 x69
  replace hown5 := hown5.ext x69
  replace hr := hr.ext x69
  replace hown61 := hown61.mono (D' := fun g => b2 < g) (fun g h1 h2 => by omega)
  refine Jd rfl encCo_ok el_co rfl rfl hown5 (hown61.slA encCo_ok) rfl (by rw [List.length_singleton]; omega) omU ?_
  intro v62 w71 x72 hown5
  have z73 := x72.size
  replace hX := Bel.out hX x72 om2
  replace hXL10 := Bel.out hXL10 x72 om2
  replace hr := hr.keepD x72 om3
  refine Rr (ZD (v := v62) rfl) ?_
  refine Qg (Qc ?_)
  refine Rr (mvI rfl) ?_
  refine Rr (o_subN (p := m + 1) (b := 1) rfl rfl (by omega) (by omega)) ?_
  refine Rr (asI rfl) ?_
  refine Qg ?_
  refine ⟨(m, s5, L ++ [o], v62), ⟨sT, sT, trivial⟩, oT, ⟨?_, hXL10, ?_⟩, ?_⟩
  ·refine ⟨hrd.trans ((rdOs_go hs0).trans (by rw [h9])), by simp only at hdO ⊢; omega, fun x hx => (List.mem_append.1 hx).elim (hLk x) (fun h => (List.mem_singleton.1 h) ▸ hpk), ?_⟩
   simp only [List.length_append, List.length_singleton]; omega
  ·exact ⟨hr, hown5.mono (fun g h1 h2 => by omega)⟩
  ·show m < m + 1; omega
 have hst := hc1
 refine Z4 (ZX (QH (Qc ?_)))
 have hall : rdAll p = (s, L) := hrd.trans (rdOs_stop hst)
 refine Rr (Zt (v := t) rfl) ?_
 refine ZC rfl (ZK call16 rfl) (Ok.mono (cof_ok _ _ L (hown5.trd encCo_ok) (by omega) hLk) ?_)
 rintro _ w74 ⟨⟨a65, c65, rfl, hs65⟩, x75⟩
 have z76 := x75.size
 replace hX := hX.ex x75
 replace hb2 := hb2.ext x75
 replace hown5 := hown5.ext x75
 replace hr := hr.ext x75
 refine Rr (Zt (v := .tuple _) rfl) ?_
 refine Rr (ZS rfl rfl) ?_
 refine Rr (ZS rfl rfl) ?_
 refine Z8 rfl rfl zeroValue63 rfl sizeOf63 (fun _ => rfl) rfl rfl ?_
 intro b8 w77 x78 hge8 hb8
 replace hown5 := hown5.mono (D' := fun g => n1 ≤ g ∧ g ≠ b8) (fun g h1 h2 => by omega)
 have hlt8 := hb8.lt
 change Box _ _ _ (wsS _ _ _) at hb8
 have z79 := x78.size
 replace hX := hX.ex x78
 replace hb2 := hb2.ext x78
 replace hown5 := hown5.ext x78
 replace hr := hr.ext x78
 replace hs65 := hs65.ext x78
 refine Rr (asI rfl) ?_
 refine Qg (QH (QH (Qc ?_)))
 refine Rr (Zt (v := v11) rfl) ?_
 refine ZC rfl (ZK call78 rfl) (Ok.mono (rend_ok v11 _ s _ hr) ?_)
 rintro _ w80 ⟨rfl, x81⟩
 have z82 := x81.size
 replace hX := hX.ex x81
 replace hb2 := hb2.ext x81
 replace hown5 := hown5.ext x81
 replace hs65 := hs65.ext x81
 replace hb8 := hb8.ext x81
 refine (Decidable.em (endS s = 0)).elim (fun hend => ?_) (fun hend => ?_)
 ·refine Rr (JD rfl rfl) ?_
  refine Rr (mvB rfl) ?_
  refine ZP 3 71 rfl (cvB (bne_eq_false_iff_eq.2 hend)) ?_
  refine Rr (mvI rfl) ?_
  refine (Decidable.em ((ofO L).2 = 0)).elim (fun hof => ?_) (fun hof => ?_)
  ·refine ZP 3 71 rfl (cvB (bne_eq_false_iff_eq.2 hend)) ?_
   refine Rr (JD rfl rfl) ?_
   refine Rr (Jo (v := .bool _) (cvB (bne_eq_false_iff_eq.2 hend)) rfl) ?_
   refine Rr (mvB rfl) ?_
   refine ZP 7 75 rfl (cvB (bne_eq_false_iff_eq.2 hof)) ?_
   refine Rr (ZN underlying63 rfl sizeOf61 rfl) ?_
   refine ZP 7 75 rfl (cvB (bne_eq_false_iff_eq.2 hof)) ?_
   refine Rr (ZB isAgg61 rfl (hb8.at.get 0 rfl)) ?_
   refine ZP 7 75 rfl (cvB (bne_eq_false_iff_eq.2 hof)) ?_
   refine Rr (Zt (v := t) rfl) ?_
   refine ZP 7 75 rfl (cvB (bne_eq_false_iff_eq.2 hof)) ?_
   refine ZC rfl (ZW call58 rfl rfl) (Ok.mono (coeq_okV _ _ _ _ (ofO L).1 L _ hs65.rd (hown5.rd encCo_ok)) ?_)
   rintro _ w83 ⟨rfl, x84⟩
   have z85 := x84.size
   replace hX := hX.ex x84
   replace hb2 := hb2.ext x84
   replace hs65 := hs65.ext x84
   replace hb8 := hb8.ext x84
   refine ZP 7 75 rfl (cvB (bne_eq_false_iff_eq.2 hof)) ?_
   refine Rr (Jf rfl) ?_
   refine Rr (Jo (v := .bool _) (cvB (bne_eq_false_iff_eq.2 hof)) rfl) ?_
   refine Qg ?_
   refine ZG rfl (fun hc3 => ?_) (fun hc3 => ?_)
   ·have hne : ¬ (ofO L).1 = L := by simpa using hc3
    refine QH (Qc ?_)
    refine Rr (Z7 (cells := wsS none 0 0) (vs := []) rfl (by kernel_rfl)) ?_
    refine Ja (v := .agg _) rfl sizeOf63 rfl rfl hb2 rfl rfl rfl ?_
    intro w86 c87 hb2
    change Box _ _ _ (wsS _ _ _) at hb2
    have z88 := Bel.size c87
    replace hX := Bel.out hX c87 om2
    refine Rr Zi ?_
    refine Qg (ZJ ?_)
    refine ⟨_, res_T (vs := [.agg _, .int _ _]) rfl ⟨Ju isAgg63 sizeOf63 rfl hb2.at rfl, rfl, trivial⟩ (by simp), ?_⟩
    exact ⟨⟨none, 0, [], 6, rfl, Sl.none, .inr ⟨rfl, fun hk => by (rw [okR, hall] at hk; exact hne hk.2.2), rfl⟩⟩, hX⟩
   have heq : (ofO L).1 = L := by simpa using hc3
   refine ZH (QH (Qc ?_))
   refine Rr (ZO isAgg63 sizeOf63 rfl hb8.at rfl) ?_
   refine Ja (v := .agg _) rfl sizeOf63 rfl rfl hb2 rfl rfl rfl ?_
   intro w89 c90 hb2
   change Box _ _ _ (wsS _ _ _) at hb2
   have z91 := Bel.size c90
   replace hX := Bel.out hX c90 om2
   replace hs65 := hs65.keep c90 om3
   refine Rr Zi ?_
   refine Qg (ZJ ?_)
   refine ⟨_, res_T (vs := [.agg _, .int _ _]) rfl ⟨Ju isAgg63 sizeOf63 rfl hb2.at rfl, rfl, trivial⟩ (by simp), ?_⟩
   exact ⟨⟨a65, c65, (ofO L).1, 0, rfl, hs65.mono (fun g h1 h2 => ⟨by have := h2.1; omega, by omega⟩), .inl ⟨rfl, by rw [okR, hall]; exact ⟨hend, hof, heq⟩, by rw [hall]; exact heq⟩⟩, hX⟩
  refine ZP 3 71 rfl (cvB (bne_eq_false_iff_eq.2 hend)) ?_
  refine Rr (JD rfl rfl) ?_
  refine Rr (Jo (v := .bool _) (cvB (bne_eq_false_iff_eq.2 hend)) rfl) ?_
  refine Rr (mvB rfl) ?_
  refine ZR 7 75 rfl rfl (cvB (bne_iff_ne.2 hof)) rfl rfl ?_
  refine ZR 7 75 rfl rfl (cvB (bne_iff_ne.2 hof)) rfl rfl ?_
  refine ZR 7 75 rfl rfl (cvB (bne_iff_ne.2 hof)) rfl rfl ?_
  refine ZR 7 75 rfl rfl (cvB (bne_iff_ne.2 hof)) rfl rfl ?_
  refine ZR 7 75 rfl rfl (cvB (bne_iff_ne.2 hof)) rfl rfl ?_
  refine Rr (Jt (v := .bool _) (cvB (bne_iff_ne.2 hof)) rfl) ?_
  refine Qg ?_
  refine Jc rfl ?_
  refine QH (Qc ?_)
  refine Rr (Z7 (cells := wsS none 0 0) (vs := []) rfl (by kernel_rfl)) ?_
  refine Ja (v := .agg _) rfl sizeOf63 rfl rfl hb2 rfl rfl rfl ?_
  intro w92 c93 hb2
  change Box _ _ _ (wsS _ _ _) at hb2
  have z94 := Bel.size c93
  replace hX := Bel.out hX c93 om2
  refine Rr Zi ?_
  refine Qg (ZJ ?_)
  refine ⟨_, res_T (vs := [.agg _, .int _ _]) rfl ⟨Ju isAgg63 sizeOf63 rfl hb2.at rfl, rfl, trivial⟩ (by simp), ?_⟩
  exact ⟨⟨none, 0, [], 6, rfl, Sl.none, .inr ⟨rfl, fun hk => by (rw [okR, hall] at hk; exact hof hk.2.1), rfl⟩⟩, hX⟩
 refine Rr (JD rfl rfl) ?_
 refine Rr (mvB rfl) ?_
 refine ZR 3 71 rfl rfl (cvB (bne_iff_ne.2 hend)) rfl rfl ?_
 refine ZR 3 71 rfl rfl (cvB (bne_iff_ne.2 hend)) rfl rfl ?_
 refine Rr (Jt (v := .bool _) (cvB (bne_iff_ne.2 hend)) rfl) ?_
 refine Rr (mvB rfl) ?_
 refine ZR 7 75 rfl rfl rfl rfl rfl ?_
 refine ZR 7 75 rfl rfl rfl rfl rfl ?_
 refine ZR 7 75 rfl rfl rfl rfl rfl ?_
 refine ZR 7 75 rfl rfl rfl rfl rfl ?_
 refine ZR 7 75 rfl rfl rfl rfl rfl ?_
 refine Rr (Jt (v := .bool _) rfl rfl) ?_
 refine Qg ?_
 refine Jc rfl ?_
 refine QH (Qc ?_)
 refine Rr (Z7 (cells := wsS none 0 0) (vs := []) rfl (by kernel_rfl)) ?_
 refine Ja (v := .agg _) rfl sizeOf63 rfl rfl hb2 rfl rfl rfl ?_
 intro w95 c96 hb2
 change Box _ _ _ (wsS _ _ _) at hb2
 have z97 := Bel.size c96
 replace hX := Bel.out hX c96 om2
 refine Rr Zi ?_
 refine Qg (ZJ ?_)
 refine ⟨_, res_T (vs := [.agg _, .int _ _]) rfl ⟨Ju isAgg63 sizeOf63 rfl hb2.at rfl, rfl, trivial⟩ (by simp), ?_⟩
 exact ⟨⟨none, 0, [], 6, rfl, Sl.none, .inr ⟨rfl, fun hk => by (rw [okR, hall] at hk; exact hend hk.1), rfl⟩⟩, hX⟩

theorem rflg_ok (w : World) (b : Bool) : Ok Tryz.prog 70 #[.bool b] w fun v w' => v = .int .u8 ((putF b).toNat : Int) ∧ Ext False w w' := by
 refine ZQ 4 func70 rfl rfl rfl ?_
 have hX := xRf w
 refine QH (Qc ?_)
 refine Rr Zi ?_
 refine Qg (QH (QH (Qc ?_)))
 refine Rr (mvB rfl) ?_
 refine Qg ?_
 refine ZG rfl (fun hc1 => ?_) (fun hc1 => ?_)
 ·refine QH (Qc ?_)
  refine Rr Zi ?_
  refine Qg (ZJ ?_)
  refine ⟨_, ZF rfl rfl, ?_⟩
  refine ⟨congrArg (Value.int .u8) ?_, hX⟩
  all_goals (rw [hc1]; rfl)
 refine ZH (QH (Qc ?_))
 refine Rr Zi ?_
 refine Qg (ZJ ?_)
 refine ⟨_, ZF rfl rfl, ?_⟩
 refine ⟨congrArg (Value.int .u8) ?_, hX⟩
 all_goals (rw [hc1]; rfl)

theorem r12num_ok (n : Nat) (hn : n < 4611686018427387904) (w : World) : Ok Tryz.prog 114 #[.int .i64 (n : Int)] w fun v w' => Own encB 1 5 (Fsh w w') w' v (putU (BitVec.ofNat 64 n)) ∧ Ext False w w' := by
 refine ZQ 22 func114 rfl rfl rfl ?_
 have hX := xRf w
 refine QH (Qc ?_)
 refine Rr Zi ?_
 refine Qg (QH (Qc ?_))
 refine Rr (mvI rfl) ?_
 refine Rr (Jp (a := n) (b := 128) rfl rfl (by decide) (by omega)) ?_
 refine Rr ((o_conv underlying3 underlying5 rfl).trans (by rw [wrap_b7 (n := n) (by omega)])) ?_
 refine Jh (vs := [.int _ _]) ([b7 (BitVec.ofNat 64 n)]) rfl Z6 Ya rfl rfl ⟨rfl, trivial⟩ rfl rfl rfl rfl ?_
 intro a7 w1 x2 hown7
 have z3 := x2.size
 replace hX := hX.ex x2
 replace hown7 := hown7.mono (D' := fun g => w.heap.size ≤ g) (fun g h1 h2 => by omega)
 refine Rr (asS rfl) ?_
 refine Qg (QH (Qc ?_))
 refine Rr (mvI rfl) ?_
 refine Rr (o_quoN (a := n) (b := 128) rfl rfl (by decide) (by omega)) ?_
 refine Rr (asI rfl) ?_
 refine Qg (QH (ZM ?_))
 refine Jk (α := Nat × List UInt8 × Value) [(0, 0), (3, 3), (10, 20)] (fun q => [(0, .int .i64 (q.1 : Int)), (3, q.2.2)]) (fun q w' => ((gT (BitVec.ofNat 64 q.1)).reverse ++ q.2.1 = putU (BitVec.ofNat 64 n) ∧ q.1 < 4611686018427387904) ∧ Bel False (fun g => w.heap.size ≤ g) w1 w' ∧ (Own encB 1 5 (fun g => w.heap.size ≤ g) w' q.2.2 q.2.1)) (fun q => q.1) (n / 128, [b7 (BitVec.ofNat 64 n)], .slice a7 1 1) ⟨rfl, rfl, trivial⟩ ⟨⟨putU_of (by omega), by show n / 128 < _; omega⟩, Bel.refl _ _, hown7⟩ ?_
 rintro ⟨m, l, u⟩ fb6 w5 ⟨⟨hI, hm⟩, hXL4, hown⟩
 dsimp only at *
 have z7 := Bel.size hXL4
 replace hX := Bel.out hX hXL4 om2
 refine QH (QH (Qc ?_))
 refine Rr (mvI rfl) ?_
 refine Rr (JY rfl rfl) ?_
 refine Qg ?_
 refine ZG rfl (fun hc1 => ?_) (fun hc1 => ?_)
 ·have hm0 : 0 < m := by have := dcT hc1; omega
  refine ZH (ZM (QH (Qc ?_)))
  refine Rr (mvI rfl) ?_
  refine Rr (Jp (a := m) (b := 128) rfl rfl (by decide) (by omega)) ?_
  refine Rr (Jr (p := 128) (b := m % 128) rfl rfl (by omega)) ?_
  refine Rr ((o_conv underlying3 underlying5 rfl).trans (by rw [wrap_b8 (n := m) (by omega)])) ?_
  refine Jh (vs := [.int _ _]) ([b7 (BitVec.ofNat 64 m) ||| 128]) rfl Z6 Ya rfl rfl ⟨rfl, trivial⟩ rfl rfl rfl rfl ?_
  intro a16 w8 x9 hown16
  have z10 := x9.size
  replace hX := hX.ex x9
  replace hXL4 := Bel.ex hXL4 x9
  replace hown := hown.ext x9
  replace hown16 := hown16.mono (D' := fun g => w.heap.size ≤ g) (fun g h1 h2 => by omega)
  obtain ⟨a3, c3, hv3, -⟩ := hown.sl Z6
  subst hv3
  refine Rr (Zt (v := .slice a3 l.length c3) rfl) ?_
  refine Jd rfl Z6 Ya rfl rfl hown16 (hown.slA Z6) rfl (by have := congrArg List.length hI; have := J7 (BitVec.ofNat 64 n); simp at *; omega) omU ?_
  intro v18 w11 x12 hown16
  have z13 := x12.size
  replace hX := Bel.out hX x12 om2
  replace hXL4 := Bel.out hXL4 x12 om2
  refine Rr (ZD (v := v18) rfl) ?_
  refine Qg (Qc ?_)
  refine Rr (mvI rfl) ?_
  refine Rr (o_quoN (a := m) (b := 128) rfl rfl (by decide) (by omega)) ?_
  refine Rr (asI rfl) ?_
  refine Qg ?_
  refine ⟨(m / 128, [b7 (BitVec.ofNat 64 m) ||| 128] ++ l, v18), ⟨sT, sT, trivial⟩, oT, ⟨?_, hXL4, ?_⟩, ?_⟩
  ·exact ⟨gT_on hm0 (by omega) hI, by show m / 128 < _; omega⟩
  ·exact hown16
  ·show m / 128 < m; omega
 have hm0 : ¬ 0 < m := by have := dcF hc1; omega
 refine Z4 (ZX (QH (Qc ?_)))
 refine Rr (Zt (v := u) rfl) ?_
 refine Rr (ZD (v := u) rfl) ?_
 refine Qg (ZJ ?_)
 refine ⟨_, ZF rfl rfl, ?_⟩
 have hz : m = 0 := by omega
 rw [hz, gT_z, List.reverse_nil, List.nil_append] at hI
 rw [← hI]
 exact ⟨hown.mono (fun g h1 h2 => by omega), hX⟩

theorem r12n_ok (n : Nat) (hn : n < 4611686018427387904) (w : World) : Ok Tryz.prog 69 #[.int .i64 (n : Int)] w fun v w' => Own encB 1 5 (Fsh w w') w' v (putU (BitVec.ofNat 64 n)) ∧ Ext False w w' := by
 refine ZQ 5 func69 rfl rfl rfl ?_
 have hX := xRf w
 refine QH (Qc ?_)
 refine Rr Zi ?_
 refine Qg (QH (Qc ?_))
 refine Rr (mvI rfl) ?_
 refine ZC rfl (ZK call114 rfl) (Ok.mono (r12num_ok n hn _) ?_)
 rintro v4 w1 ⟨hown4, x2⟩
 have z3 := x2.size
 replace hX := hX.ex x2
 replace hown4 := hown4.mono (D' := fun g => w.heap.size ≤ g) (fun g h1 h2 => by omega)
 refine Rr (ZD (v := v4) rfl) ?_
 refine Qg (ZJ ?_)
 refine ⟨_, ZF rfl rfl, ?_⟩
 exact ⟨hown4.mono (fun g h1 h2 => by omega), hX⟩

theorem r12i_ok (i : Int) (h0 : 0 ≤ i) (h1 : i < 4611686018427387904) (w : World) : Ok Tryz.prog 69 #[.int .i64 i] w fun v w' => Own encB 1 5 (Fsh w w') w' v (putU (iW i)) ∧ Ext False w w' := by
 obtain ⟨n, rfl⟩ := Int.eq_ofNat_of_zero_le h0
 exact r12n_ok n (by omega) w
theorem r50str_ok (s : Str) (hs : s.length ≤ 1000000) (w : World) : Ok Tryz.prog 71 #[str s] w fun v w' => Own encB 1 5 (Fsh w w') w' v (putB s) ∧ Ext False w w' := by
 refine ZQ 9 func71 rfl rfl rfl ?_
 have hX := xRf w
 refine QH (Qc ?_)
 refine Rr Zi ?_
 refine Qg (QH (Qc ?_))
 refine Rr (Zt (v := str _) rfl) ?_
 refine Rr (J8 underlying9 rfl) ?_
 refine ZC rfl (ZK call69 rfl) (Ok.mono (r12n_ok s.length (by omega) _) ?_)
 rintro v5 w1 ⟨hown5, x2⟩
 have z3 := x2.size
 replace hX := hX.ex x2
 replace hown5 := hown5.mono (D' := fun g => w.heap.size ≤ g) (fun g h1 h2 => by omega)
 refine Rr (Zt (v := str _) rfl) ?_
 refine Rg_sb rfl underlying9 underlying22 underlying5 rfl (by omega) ?_
 intro a7 c7 w4 x5 hs7
 have z6 := x5.size
 replace hX := hX.ex x5
 replace hown5 := hown5.ext x5
 refine Jd rfl Z6 Ya rfl rfl hown5 hs7 rfl (by have := J7 (BitVec.ofNat 64 s.length); omega) omU ?_
 intro v8 w7 x8 hown5
 have z9 := x8.size
 replace hX := Bel.out hX x8 om2
 refine Rr (ZD (v := v8) rfl) ?_
 refine Qg (ZJ ?_)
 refine ⟨_, ZF rfl rfl, ?_⟩
 exact ⟨hown5.mono (fun g h1 h2 => by omega), hX⟩

set_option maxHeartbeats 2000000 in
theorem rbytes50_ok (v0 : Value) (G0 : Nat → Prop) (l : List COp) (w : World) (hl : Rd encRo 8 G0 w v0 l) (hv : ∀ x ∈ l, Vo x) (hn : l.length ≤ 10000) : Ok Tryz.prog 28 #[v0] w fun v w' => Own encB 1 5 (Fsh w w') w' v (obytes l) ∧ Ext False w w' := by
 obtain ⟨al, cl, rfl, hl⟩ := hl
 have ml := hl.len
 replace hl := hl.mono (F' := fun g => g < w.heap.size) (fun g h1 h2 => h1)
 refine ZQ 66 func28 rfl rfl rfl ?_
 have hX := xRf w
 refine QH (Qc ?_)
 refine Rr Zi ?_
 refine Qg (QH (Qc ?_))
 obtain ⟨n1, hn1⟩ : ∃ n, n = w.heap.size := ⟨_, rfl⟩
 refine Rr (mvS rfl) ?_
 refine Rr (Z0 underlying27 rfl) ?_
 refine ZC rfl (ZK call69 rfl) (Ok.mono (r12n_ok l.length (by omega) _) ?_)
 rintro v10 w1 ⟨hown10, x2⟩
 have z3 := x2.size
 replace hX := hX.ex x2
 replace hl := hl.ext x2
 replace hown10 := hown10.mono (D' := fun g => w.heap.size ≤ g) (fun g h1 h2 => by omega)
 refine Rr (ZD (v := v10) rfl) ?_
 refine Qg (QH (QH (Qc ?_)))
 refine Rr (mvS rfl) ?_
 refine Rr (Z0 underlying27 rfl) ?_
 refine Rr Jj ?_
 refine Qg (ZM ?_)
 refine Jk (α := Nat × Value) [(3, 3), (5, 5), (7, 7), (13, 64)] (fun q => [(13, .int .i64 (q.1 : Int)), (3, q.2)]) (fun q w' => (q.1 ≤ l.length) ∧ Bel False (fun g => n1 ≤ g) w1 w' ∧ (Own encB 1 5 (fun g => n1 ≤ g) w' q.2 (obytesK l q.1))) (fun q => l.length - q.1) (0, v10) ⟨rfl, rfl, trivial⟩ ⟨Nat.zero_le _, Bel.refl _ _, (by rw [obytesK_zero]; exact hown10.mono (fun g h1 h2 => by omega))⟩ ?_
 rintro ⟨k, t⟩ fb6 w5 ⟨hk, hXL4, hown3⟩
 dsimp only at *
 have z7 := Bel.size hXL4
 replace hX := Bel.out hX hXL4 om2
 replace hl := hl.keep hXL4 om3
 refine QH (Qc ?_)
 refine Rr (Z5 rfl rfl) ?_
 refine Qg (QH ?_)
 refine ZG rfl (fun hc1 => ?_) (fun hc1 => ?_)
 ·have hk1 : k < l.length := by have := dcT hc1; omega
  refine ZH (QH (ZM (QH (Qc ?_))))
  refine Rr (Js underlying27 sizeOf44 hl rfl rfl omg) ?_
  refine Rr (Jx isAgg44 sizeOf44 hl rfl (Jw coz hk1)) ?_
  refine Z8 rfl rfl zeroValue44 rfl sizeOf44 (fun _ => rfl) rfl rfl ?_
  intro b5 w8 x9 hge5 hb5
  replace hown3 := hown3.mono (D' := fun g => n1 ≤ g ∧ g ≠ b5) (fun g h1 h2 => by omega)
  have hlt5 := hb5.lt
  change Box _ _ _ (encRo _) at hb5
  have z10 := x9.size
  replace hX := hX.ex x9
  replace hXL4 := Bel.ex hXL4 x9
  replace hown3 := hown3.ext x9
  refine Qg (QH ?_)
  obtain ⟨o, ho⟩ : ∃ o, o = (l.getD k coz) := ⟨_, rfl⟩
  rw [← ho] at hb5
  have hvo : Vo o := hv o (ho ▸ gm hk1)
  have hrg := hvo.rng
  have hal := hvo.sh2
  have hkl := obytesK_sh hv k
  have hnl := numsB_len ([o.a, o.b, o.u] : List Int)
  obtain ⟨n2, hn2⟩ : ∃ n, n = w8.heap.size := ⟨_, rfl⟩
  apply JA (β := False) (fun b => if n1 ≤ b ∧ b ≠ b5 then 1 else 0) [peqC _, peqC _, peqC _, (postP (fun v => v = .int .u8 ((putF o.add).toNat : Int))), peqC _, peqC _, peqC _, (fun v w c => ∃ a, v = .slice a 2 2 ∧ postOwn encB 1 5 0 [putF o.add, UInt8.ofNat o.k.toNat] v w c), (postOwn encB 1 5 1 ((obytesK l k) ++ [putF o.add, UInt8.ofNat o.k.toNat]))] [0, 0, 0, 0, 0, 0, 0, 0, 1] 9 Jz (by kernel_rfl) (by kernel_rfl) rfl ⟨Q4 _ _, Q4 _ _, Q4 _ _, (J2), Q4 _ _, Q4 _ _, Q4 _ _, (J4), (Jm), trivial⟩ ?ob5 ?fin5
  case ob5 =>
   refine Zb (fun w11 c13 x12 hc014 hk15 => ?_) ?_
   ·replace x12 := Bel.mono x12 (D' := fun g => n1 ≤ g ∧ g ≠ b5) omC
    have z16 := x12.size
    refine QU ?_
    exact ZL rfl (Zt (v := t) rfl)
   refine Zb (fun w17 c19 x18 hc020 hk21 => ?_) ?_
   ·replace x18 := Bel.mono x18 (D' := fun g => n1 ≤ g ∧ g ≠ b5) omC
    have z22 := x18.size
    refine QU ?_
    exact ZL rfl (ZN underlying44 rfl sizeOf4 rfl)
   refine Zb (fun w23 c25 x24 hc026 hk27 => ?_) ?_
   ·replace x24 := Bel.mono x24 (D' := fun g => n1 ≤ g ∧ g ≠ b5) omC
    have z28 := x24.size
    have hb5 := hb5.keep x24 om1
    refine Qk (QU ?_)
    exact ZL rfl (ZB isAgg4 rfl (hb5.at.get 0 rfl))
   refine Zb (fun w29 c31 x30 hc032 hk33 => ?_) ?_
   ·replace x30 := Bel.mono x30 (D' := fun g => n1 ≤ g ∧ g ≠ b5) omC
    have z34 := x30.size
    refine Qk (QU ?_)
    exact OpC_callP rfl (ZK call70 rfl) (rflg_ok _ o.add)
   refine Zb (fun w35 c37 x36 hc038 hk39 => ?_) ?_
   ·replace x36 := Bel.mono x36 (D' := fun g => n1 ≤ g ∧ g ≠ b5) omC
    have z40 := x36.size
    refine QU ?_
    exact ZL rfl (ZN underlying44 rfl sizeOf3 rfl)
   refine Zb (fun w41 c43 x42 hc044 hk45 => ?_) ?_
   ·replace x42 := Bel.mono x42 (D' := fun g => n1 ≤ g ∧ g ≠ b5) omC
    have z46 := x42.size
    have hb5 := hb5.keep x42 om1
    refine Qk (QU ?_)
    exact ZL rfl (ZB isAgg3 rfl (hb5.at.get 1 rfl))
   refine Zb (fun w47 c49 x48 hc050 hk51 => ?_) ?_
   ·replace x48 := Bel.mono x48 (D' := fun g => n1 ≤ g ∧ g ≠ b5) omC
    have z52 := x48.size
    refine Qk (QU ?_)
    exact ZL rfl ((o_conv underlying3 underlying5 rfl).trans (by rw [wrap_kk (i := o.k) (by omega)]))
   refine Zb (fun w53 c55 x54 hc056 hk57 => ?_) ?_
   ·replace x54 := Bel.mono x54 (D' := fun g => n1 ≤ g ∧ g ≠ b5) omC
    have z58 := x54.size
    refine ZE (fun v20 hv20 => ?_)
    have he20 : v20 = _ := hv20
    subst he20
    refine Qk (QU ?_)
    exact OpC_bs (vs := [.int _ _, .int _ _]) [putF o.add, UInt8.ofNat o.k.toNat] Z6 Ya rfl rfl ⟨rfl, rfl, trivial⟩ rfl rfl rfl rfl
   refine Zb (fun w59 c61 x60 hc062 hk63 => ?_) ?_
   ·replace x60 := Bel.mono x60 (D' := fun g => n1 ≤ g ∧ g ≠ b5) omC
    have z64 := x60.size
    refine Qk ?_
    refine ZE (fun v24 hv24 => ?_)
    obtain ⟨a24, rfl, ho24⟩ := hv24
    refine ZE (fun v20 hv20 => ?_)
    have he20 : v20 = _ := hv20
    subst he20
    refine QU ?_
    exact Yd (by decide) Z6 Ya rfl rfl (((hown3.mono (D' := fun g => (n1 ≤ g ∧ g ≠ b5) ∧ g < n2) (fun g h1 h2 => ⟨⟨by omega, by omega⟩, by omega⟩)).ext (Bel.exK x60 (fun b hb hd => hk63 1 (by decide) (by kernel_rfl) b hb (if_pos hd)))).mono (fun g hg h => (hc062 g (by omega)).trans (if_pos h.1))) (Own.slA ho24 Z6) rfl (by simp only [List.length_cons, List.length_nil]; omega)
   exact Jv
  case fin5 =>
   intro w65 c67 x66 hc068
   replace x66 := Bel.mono x66 (D' := fun g => n1 ≤ g ∧ g ≠ b5) omC
   have z69 := x66.size
   replace hX := Bel.out hX x66 om2
   replace hXL4 := Bel.out hXL4 x66 om2
   replace hb5 := hb5.keep x66 om1
   refine Qk (Qk (Qk ?_))
   refine ZE (fun v20 hv20 => ?_)
   have he20 : v20 = _ := hv20
   subst he20
   refine Qk (Qk (Qk ?_))
   refine ZE (fun v24 hv24 => ?_)
   obtain ⟨a24, rfl, ho24⟩ := hv24
   refine ZE (fun v25 hv25 => ?_)
   refine QU ?_
   change Own _ _ _ _ _ _ _ at hv25
   have hown3 := Own.mono hv25 (D' := fun g => n1 ≤ g ∧ g ≠ b5) (fun g h1 h2 => Classical.byContradiction fun hn => by have hlt : g < n2 := Nat.lt_of_not_le (fun hq => hn ⟨by omega, by omega⟩); have h : _ = (if n1 ≤ g ∧ g ≠ b5 then 1 else 0) := hc068 g (by omega); rw [h2, if_neg hn] at h; cases h)
   refine Rr (ZD (v := v25) rfl) ?_
   refine Qg (QH (QH (Qc ?_)))
   obtain ⟨n4, hn4⟩ : ∃ n, n = w65.heap.size := ⟨_, rfl⟩
   replace hown3 := hown3.mono (D' := fun g => (n1 ≤ g ∧ g ≠ b5) ∧ g < n4) (fun g h1 h2 => ⟨by omega, by omega⟩)
   refine Rr (ZN underlying44 rfl sizeOf3 rfl) ?_
   refine Rr (ZB isAgg3 rfl (hb5.at.get 2 rfl)) ?_
   refine Rr (ZN underlying44 rfl sizeOf3 rfl) ?_
   refine Rr (ZB isAgg3 rfl (hb5.at.get 3 rfl)) ?_
   refine Rr (ZN underlying44 rfl sizeOf3 rfl) ?_
   refine Rr (ZB isAgg3 rfl (hb5.at.get 4 rfl)) ?_
   refine Jh (vs := [.int _ _, .int _ _, .int _ _]) (([o.a, o.b, o.u] : List Int)) rfl Ye el_int rfl rfl ⟨rfl, ⟨rfl, ⟨rfl, trivial⟩⟩⟩ rfl rfl rfl rfl ?_
   intro a32 w70 x71 hown32
   have z72 := x71.size
   replace hX := hX.ex x71
   replace hXL4 := Bel.ex hXL4 x71
   replace hb5 := hb5.ext x71
   replace hown3 := hown3.ext x71
   obtain ⟨n5, hn5⟩ : ∃ n, n = w70.heap.size := ⟨_, rfl⟩
   replace hown32 := hown32.mono (D' := fun g => n4 ≤ g ∧ g < n5) (fun g h1 h2 => by omega)
   refine Rr (Z0 underlying117 rfl) ?_
   refine Rr Jj ?_
   refine Qg (ZM ?_)
   refine Jk (α := Nat × Value) [(3, 3), (7, 7), (34, 42)] (fun q => [(34, .int .i64 (q.1 : Int)), (3, q.2)]) (fun q w' => (q.1 ≤ 3) ∧ Bel False (fun g => n1 ≤ g ∧ g ≠ b5 ∧ ¬ (n4 ≤ g ∧ g < n5)) w70 w' ∧ (Own encB 1 5 (fun g => n1 ≤ g ∧ g ≠ b5 ∧ ¬ (n4 ≤ g ∧ g < n5)) w' q.2 ((obytesK l k) ++ [putF o.add, UInt8.ofNat o.k.toNat] ++ numsB (([o.a, o.b, o.u] : List Int).take q.1)))) (fun q => 3 - q.1) (0, v25) ⟨rfl, rfl, trivial⟩ ⟨Nat.zero_le _, Bel.refl _ _, (by simpa [numsB] using hown3.mono (fun g h1 h2 => ⟨by omega, by omega, by omega⟩))⟩ ?_
   rintro ⟨j, t2⟩ fb75 w74 ⟨hj, hXL73, hown3⟩
   dsimp only at *
   have z76 := Bel.size hXL73
   replace hX := Bel.out hX hXL73 om2
   replace hXL4 := Bel.out hXL4 hXL73 om2
   replace hb5 := hb5.keep hXL73 om1
   replace hown32 := hown32.keepD hXL73 om3
   refine QH (Qc ?_)
   refine Rr (Z5 rfl rfl) ?_
   refine Qg (QH ?_)
   refine ZG rfl (fun hc2 => ?_) (fun hc2 => ?_)
   ·have hj1 : j < ([o.a, o.b, o.u] : List Int).length := by have h := dcT hc2; simp only [List.length_cons, List.length_nil] at h ⊢; omega
    have hjr : 0 ≤ ([o.a, o.b, o.u] : List Int).getD j 0 ∧ ([o.a, o.b, o.u] : List Int).getD j 0 < 4611686018427387904 := (fun (z : Int) (hz : z ∈ ([o.a, o.b, o.u] : List Int)) => (by simp only [List.mem_cons, List.not_mem_nil, or_false] at hz; rcases hz with rfl | rfl | rfl <;> omega : 0 ≤ z ∧ z < 4611686018427387904)) _ (gm (z := (0 : Int)) hj1)
    refine ZH (QH (ZM (QH (Qc ?_))))
    refine Rr (Js underlying117 sizeOf3 (hown32.slA Ye) rfl rfl omg) ?_
    refine Rr (Yf isAgg3 (hown32.slA Ye) rfl rfl (Jw (0 : Int) hj1) rfl) ?_
    refine Rr (asI rfl) ?_
    refine Qg (Qc ?_)
    refine Rr (Zt (v := t2) rfl) ?_
    refine Rr (mvI rfl) ?_
    refine ZC rfl (ZK call69 rfl) (Ok.mono (r12i_ok (([o.a, o.b, o.u] : List Int).getD j 0) hjr.1 hjr.2 _) ?_)
    rintro v40 w77 ⟨hown40, x78⟩
    have z79 := x78.size
    replace hX := hX.ex x78
    replace hXL4 := Bel.ex hXL4 x78
    replace hXL73 := Bel.ex hXL73 x78
    replace hown3 := hown3.ext x78
    replace hown40 := hown40.mono (D' := fun g => n1 ≤ g ∧ g ≠ b5 ∧ ¬ (n4 ≤ g ∧ g < n5)) (fun g h1 h2 => by omega)
    obtain ⟨a40, c40, hv40, -⟩ := hown40.sl Z6
    subst hv40
    refine Jd rfl Z6 Ya rfl rfl hown3 (hown40.slA Z6) rfl (by show (_ + (putU (iW (([o.a, o.b, o.u] : List Int).getD j 0))).length) * _ ≤ _; have h1 := numsB_len (([o.a, o.b, o.u] : List Int).take j); have h2 := J7 (iW (([o.a, o.b, o.u] : List Int).getD j 0)); rw [List.length_take] at h1; simp only [List.length_append, List.length_cons, List.length_nil] at h1 ⊢; omega) omU ?_
    intro v41 w80 x81 hown3
    have z82 := x81.size
    replace hX := Bel.out hX x81 om2
    replace hXL4 := Bel.out hXL4 x81 om2
    replace hXL73 := Bel.out hXL73 x81 om2
    refine Rr (ZD (v := v41) rfl) ?_
    refine Qg (Qc ?_)
    refine Rr (Z1 rfl rfl omg) ?_
    refine Rr (mvI rfl) ?_
    refine Qg ?_
    refine ⟨(j + 1, v41), ⟨sT, sT, trivial⟩, oT, ⟨?_, hXL73, ?_⟩, ?_⟩
    ·show j + 1 ≤ 3; have : ([o.a, o.b, o.u] : List Int).length = 3 := rfl; omega
    ·rw [numsB_succ hj1, ← List.append_assoc]; exact hown3.mono (fun g h1 h2 => ⟨by omega, by omega, by omega⟩)
    ·show 3 - (j + 1) < 3 - j; have : ([o.a, o.b, o.u] : List Int).length = 3 := rfl; omega
   have hj1 : ¬ j < ([o.a, o.b, o.u] : List Int).length := by have h := dcF hc2; simp only [List.length_cons, List.length_nil] at h ⊢; omega
   refine Z4 (ZX (QH (Qc ?_)))
   obtain rfl : j = 3 := by have h := hj1; simp only [List.length_cons, List.length_nil] at h; omega
   refine Rr (ZN underlying44 rfl sizeOf3 rfl) ?_
   refine Rr (ZB isAgg3 rfl (hb5.at.get 1 rfl)) ?_
   refine Rr (ZZ rfl rfl) ?_
   refine Qg ?_
   refine ZG rfl (fun hc3 => ?_) (fun hc3 => ?_)
   ·have hk2 : o.k = 2 := eq_of_beq hc3
    refine QH ?_
    obtain ⟨n3, hn3⟩ : ∃ n, n = w74.heap.size := ⟨_, rfl⟩
    apply JA (β := False) (fun b => if n1 ≤ b ∧ b ≠ b5 then 1 else 0) [peqC _, peqC _, peqC _, peqC _, (postW (ListIs encB 1 0 (fun M => M = putB o.p.act))), (postOwn encB 1 5 1 (((obytesK l k) ++ [putF o.add, UInt8.ofNat o.k.toNat] ++ numsB ([o.a, o.b, o.u] : List Int)) ++ putB o.p.act)), peqC _, peqC _, peqC _, (postW (ListIs encB 1 0 (fun M => M = putB o.p.path))), (postOwn encB 1 5 1 (((obytesK l k) ++ [putF o.add, UInt8.ofNat o.k.toNat] ++ numsB ([o.a, o.b, o.u] : List Int)) ++ putB o.p.act ++ putB o.p.path))] [0, 0, 0, 0, 0, 1, 0, 0, 0, 0, 1] 11 Jz (by kernel_rfl) (by kernel_rfl) rfl ⟨Q4 _ _, Q4 _ _, Q4 _ _, Q4 _ _, (Jl (ListIs.keepS _ _ _ _)), (Jm), Q4 _ _, Q4 _ _, Q4 _ _, (Jl (ListIs.keepS _ _ _ _)), (Jm), trivial⟩ ?ob12 ?fin12
    case ob12 =>
     refine Zb (fun w83 c85 x84 hc086 hk87 => ?_) ?_
     ·replace x84 := Bel.mono x84 (D' := fun g => n1 ≤ g ∧ g ≠ b5) omC
      have z88 := x84.size
      refine QU ?_
      exact ZL rfl (Zt (v := t2) rfl)
     refine Zb (fun w89 c91 x90 hc092 hk93 => ?_) ?_
     ·replace x90 := Bel.mono x90 (D' := fun g => n1 ≤ g ∧ g ≠ b5) omC
      have z94 := x90.size
      refine QU ?_
      exact ZL rfl (ZN underlying44 rfl sizeOf42 rfl)
     refine Zb (fun w95 c97 x96 hc098 hk99 => ?_) ?_
     ·replace x96 := Bel.mono x96 (D' := fun g => n1 ≤ g ∧ g ≠ b5) omC
      have z100 := x96.size
      refine Qk (QU ?_)
      exact ZL rfl (ZN underlying42 rfl sizeOf9 rfl)
     refine Zb (fun w101 c103 x102 hc0104 hk105 => ?_) ?_
     ·replace x102 := Bel.mono x102 (D' := fun g => n1 ≤ g ∧ g ≠ b5) omC
      have z106 := x102.size
      have hb5 := hb5.keep x102 om1
      refine Qk (QU ?_)
      exact ZL rfl (ZB isAgg9 rfl (hb5.at.get 5 rfl))
     refine Zb (fun w107 c109 x108 hc0110 hk111 => ?_) ?_
     ·replace x108 := Bel.mono x108 (D' := fun g => n1 ≤ g ∧ g ≠ b5) omC
      have z112 := x108.size
      refine Qk (QU ?_)
      exact OpC_W (S := ListIs encB 1 0 (fun M => M = putB o.p.act)) rfl (ZK call71 rfl) ((r50str_ok o.p.act (by omega) _).mono (fun v w2 ⟨h, x⟩ => ⟨⟨fun _ _ => Nat.zero_le _, _, h.rd Z6, rfl⟩, x⟩))
     refine Zb (fun w113 c115 x114 hc0116 hk117 => ?_) ?_
     ·replace x114 := Bel.mono x114 (D' := fun g => n1 ≤ g ∧ g ≠ b5) omC
      have z118 := x114.size
      refine Qk ?_
      refine ZE (fun v50 hv50 => ?_)
      obtain ⟨F50, hF50, -, M50, ⟨a50, c50, rfl, hs50⟩, rfl⟩ := hv50
      refine ZE (fun v50 hv50 => ?_)
      obtain ⟨F50, hF50, -, M50, ⟨a50, c50, rfl, hs50⟩, rfl⟩ := hv50
      refine QU ?_
      exact Yd (by decide) Z6 Ya rfl rfl (((hown3.mono (D' := fun g => (n1 ≤ g ∧ g ≠ b5) ∧ g < n3) (fun g h1 h2 => ⟨⟨by omega, by omega⟩, by omega⟩)).ext (Bel.exK x114 (fun b hb hd => hk117 1 (by decide) (by kernel_rfl) b hb (if_pos hd)))).mono (fun g hg h => (hc0116 g (by omega)).trans (if_pos h.1))) hs50 rfl (by have := JX o.p.act; simp only [List.length_append, List.length_cons, List.length_nil] at hnl ⊢; omega)
     refine Zb (fun w119 c121 x120 hc0122 hk123 => ?_) ?_
     ·replace x120 := Bel.mono x120 (D' := fun g => n1 ≤ g ∧ g ≠ b5) omC
      have z124 := x120.size
      refine QU ?_
      exact ZL rfl (ZN underlying44 rfl sizeOf42 rfl)
     refine Zb (fun w125 c127 x126 hc0128 hk129 => ?_) ?_
     ·replace x126 := Bel.mono x126 (D' := fun g => n1 ≤ g ∧ g ≠ b5) omC
      have z130 := x126.size
      refine Qk (QU ?_)
      exact ZL rfl (ZN underlying42 rfl sizeOf9 rfl)
     refine Zb (fun w131 c133 x132 hc0134 hk135 => ?_) ?_
     ·replace x132 := Bel.mono x132 (D' := fun g => n1 ≤ g ∧ g ≠ b5) omC
      have z136 := x132.size
      have hb5 := hb5.keep x132 om1
      refine Qk (QU ?_)
      exact ZL rfl (ZB isAgg9 rfl (hb5.at.get 6 rfl))
     refine Zb (fun w137 c139 x138 hc0140 hk141 => ?_) ?_
     ·replace x138 := Bel.mono x138 (D' := fun g => n1 ≤ g ∧ g ≠ b5) omC
      have z142 := x138.size
      refine Qk ?_
      refine ZE (fun v51 hv51 => ?_)
      refine QU ?_
      exact OpC_W (S := ListIs encB 1 0 (fun M => M = putB o.p.path)) rfl (ZK call71 rfl) ((r50str_ok o.p.path (by omega) _).mono (fun v w2 ⟨h, x⟩ => ⟨⟨fun _ _ => Nat.zero_le _, _, h.rd Z6, rfl⟩, x⟩))
     refine Zb (fun w143 c145 x144 hc0146 hk147 => ?_) ?_
     ·replace x144 := Bel.mono x144 (D' := fun g => n1 ≤ g ∧ g ≠ b5) omC
      have z148 := x144.size
      refine ZE (fun v51 hv51 => ?_)
      refine ZE (fun v55 hv55 => ?_)
      obtain ⟨F55, hF55, -, M55, ⟨a55, c55, rfl, hs55⟩, rfl⟩ := hv55
      refine ZE (fun v55 hv55 => ?_)
      obtain ⟨F55, hF55, -, M55, ⟨a55, c55, rfl, hs55⟩, rfl⟩ := hv55
      refine QU ?_
      exact Yd (by decide) Z6 Ya rfl rfl hv51 hs55 rfl (by have := JX o.p.act; have := JX o.p.path; simp only [List.length_append, List.length_cons, List.length_nil] at hnl ⊢; omega)
     exact Jv
    case fin12 =>
     intro w149 c151 x150 hc0152
     replace x150 := Bel.mono x150 (D' := fun g => n1 ≤ g ∧ g ≠ b5) omC
     have z153 := x150.size
     replace hX := Bel.out hX x150 om2
     replace hXL4 := Bel.out hXL4 x150 om2
     replace hb5 := hb5.keep x150 om1
     refine Qk (Qk (Qk (Qk ?_)))
     refine ZE (fun v50 hv50 => ?_)
     obtain ⟨F50, hF50, -, M50, ⟨a50, c50, rfl, hs50⟩, rfl⟩ := hv50
     refine ZE (fun v51 _ => ?_)
     refine Qk (Qk (Qk ?_))
     refine ZE (fun v55 hv55 => ?_)
     obtain ⟨F55, hF55, -, M55, ⟨a55, c55, rfl, hs55⟩, rfl⟩ := hv55
     refine ZE (fun v56 hv56 => ?_)
     refine QU ?_
     change Own _ _ _ _ _ _ _ at hv56
     have hown3 := Own.mono hv56 (D' := fun g => n1 ≤ g ∧ g ≠ b5) (fun g h1 h2 => Classical.byContradiction fun hn => by have hlt : g < n3 := Nat.lt_of_not_le (fun hq => hn ⟨by omega, by omega⟩); have h : _ = (if n1 ≤ g ∧ g ≠ b5 then 1 else 0) := hc0152 g (by omega); rw [h2, if_neg hn] at h; cases h)
     refine Rr (ZD (v := v56) rfl) ?_
     refine Qg (Qc ?_)
     refine Rr (Zt (v := v56) rfl) ?_
     refine Rr (ZN underlying44 rfl sizeOf42 rfl) ?_
     refine Rr (ZN underlying42 rfl sizeOf4 rfl) ?_
     refine Rr (ZB isAgg4 rfl (hb5.at.get 7 rfl)) ?_
     refine ZC rfl (ZK call70 rfl) (Ok.mono (rflg_ok _ o.p.deep) ?_)
     rintro _ w154 ⟨rfl, x155⟩
     have z156 := x155.size
     replace hX := hX.ex x155
     replace hXL4 := Bel.ex hXL4 x155
     replace hown3 := hown3.ext x155
     refine Jh (vs := [.int _ _]) ([putF o.p.deep]) rfl Z6 Ya rfl rfl ⟨rfl, trivial⟩ rfl rfl rfl rfl ?_
     intro a62 w157 x158 hown62
     have z159 := x158.size
     replace hX := hX.ex x158
     replace hXL4 := Bel.ex hXL4 x158
     replace hown3 := hown3.ext x158
     replace hown62 := hown62.mono (D' := fun g => n1 ≤ g ∧ g ≠ b5 ∧ ¬ (n4 ≤ g ∧ g < n5)) (fun g h1 h2 => by omega)
     refine Jd rfl Z6 Ya rfl rfl hown3 (hown62.slA Z6) rfl (by have := JX o.p.act; have := JX o.p.path; simp only [List.length_append, List.length_cons, List.length_nil] at hnl ⊢; omega) omU ?_
     intro v63 w160 x161 hown3
     have z162 := x161.size
     replace hX := Bel.out hX x161 om2
     replace hXL4 := Bel.out hXL4 x161 om2
     refine Rr (ZD (v := v63) rfl) ?_
     refine Qg (Qc ?_)
     refine Rr (Z1 rfl rfl omg) ?_
     refine Rr (mvI rfl) ?_
     refine Qg ?_
     refine ⟨(k + 1, v63), ⟨sT, sT, trivial⟩, oT, ⟨?_, hXL4, ?_⟩, ?_⟩
     ·show k + 1 ≤ l.length; omega
     ·rw [obytesK_succ hk1, ← ho, opB_ref (by omega), if_pos hk2, permB]
      simp only [← List.append_assoc]
      exact hown3.mono (fun g h1 h2 => h2.1)
     ·show l.length - (k + 1) < l.length - k; omega
   have hk2 : ¬ o.k = 2 := ne_of_beq_false hc3
   refine ZH (Qc ?_)
   refine Rr (Z1 rfl rfl omg) ?_
   refine Rr (mvI rfl) ?_
   refine Qg ?_
   refine ⟨(k + 1, t2), ⟨sT, sT, trivial⟩, oT, ⟨?_, hXL4, ?_⟩, ?_⟩
   ·show k + 1 ≤ l.length; omega
   ·rw [obytesK_succ hk1, ← ho, opB_ref (by omega), if_neg hk2, List.append_nil]
    simp only [← List.append_assoc]
    exact hown3.mono (fun g h1 h2 => h2.1)
   ·show l.length - (k + 1) < l.length - k; omega
 have hk1 : ¬ k < l.length := by have := dcF hc1; omega
 refine Z4 (ZX (QH (Qc ?_)))
 refine Rr (Zt (v := t) rfl) ?_
 refine Rr (ZD (v := t) rfl) ?_
 refine Qg (ZJ ?_)
 refine ⟨_, ZF rfl rfl, ?_⟩
 rw [obytesK_end (by omega)] at hown3
 exact ⟨hown3.mono (fun g h1 h2 => by omega), hX⟩

