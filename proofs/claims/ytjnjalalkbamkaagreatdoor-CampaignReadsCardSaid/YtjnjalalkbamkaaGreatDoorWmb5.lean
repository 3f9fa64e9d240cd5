/- Walks: what functions return. -/
import Derived.Test.YtjnjalalkbamkaaGreatDoorWbits
import Derived.Test.YtjnjalalkbamkaaGreatDoorCb
import Derived.Test.YtjnjalalkbamkaaGreatDoorOwn2
import Derived.Test.YtjnjalalkbamkaaGreatDoorWnew
import Derived.Test.YtjnjalalkbamkaaGreatDoorDrawC
set_option linter.unusedVariables false
set_option linter.unusedSimpArgs false
set_option linter.unnecessarySimpa false
namespace Go.Proofs.YtjnjalalkbamkaaGreatDoor
open Go Go.Lx Go.RowKit Tryz
set_option maxRecDepth 100000
theorem el_me : ElT Tryz.prog 144 149 3 24 (.agg #[.int .i64 0, .int .i64 0, .int .i64 0]) := ⟨underlying144, ⟨Tryz.t149, by kernel_rfl, rfl, rfl, rfl⟩, rfl, by decide, by decide⟩
theorem mnclone_ok (w : World) (vl : Value) (l : List Men) (hl : Rd encMe 3 (Lt w.heap.size) w vl l) (nl : l.length ≤ 100000) : Ok Tryz.prog 74 #[vl] w fun v w' => Own encMe 3 149 (Fsh w w') w' v (l) ∧ Ext False w w' := by
 obtain ⟨al, cl, rfl, hl⟩ := hl; have ml := hl.len
 refine Qz 8 func74 rfl rfl rfl ?_
 have hX := xRf w
 refine Qe (Qc ?_)
 refine Rr Qm ?_
 refine Qd (Qe (Qe (Qc ?_)))
 refine Rr (mvS rfl) ?_
 refine Rr (o_lnil underlying144 rfl) ?_
 refine Qd ?_
 refine QD rfl (fun hc1 => ?_) (fun hc1 => ?_)
 ·have hnl := sl_none hl hc1; subst hnl
  refine Qe (Qc ?_)
  refine Rr Qm ?_
  refine Qd (Qy ?_)
  refine ⟨_, Qp rfl rfl, ?_⟩
  exact ⟨Own.nil _ _, hX⟩
 refine Qu (Qe (Qc ?_))
 refine Rg_bs (vs := []) (([] : List Men)) rfl encMe_ok el_me rfl rfl trivial rfl rfl rfl rfl ?_
 intro a5 w1 x2 hown5
 have z3 := x2.size
 replace hX := hX.ex x2
 replace hl := hl.ext x2
 replace hown5 := hown5.mono (D' := fun g => w.heap.size ≤ g) (fun g h1 h2 => by omega)
 refine Rr (mvS rfl) ?_
 refine Rg_app rfl encMe_ok el_me rfl rfl hown5 hl rfl (by simp; omega) omU ?_
 intro v7 w4 x5 hown5
 have z6 := x5.size
 replace hX := Bel.out hX x5 om2
 refine Rr (Qv (v := v7) rfl) ?_
 refine Qd (Qy ?_)
 refine ⟨_, Qp rfl rfl, ?_⟩
 rw [List.nil_append] at hown5; exact ⟨hown5.mono (fun g h1 h2 => by omega), hX⟩

theorem menover {D F : Nat → Prop} {b : Option Addr} {g off m cb c la ca n : Nat} {xs l : List Men} (w : World) (hx : Own encMe 3 149 F w (.slice b n cb) xs) (hne : xs ≠ []) (ho : Own encMe 3 149 D w (.slice (some ⟨g, 0, none⟩) m c) l) (hc : 0 < c) (hd : ∀ q, F q → D q → False) :
  (callFunc 105 #[.slice b n cb, .slice (some ⟨g, off, none⟩) la ca]).run Tryz.prog w = .ok (.value (.bool false)) w := by
 rw [run_callFunc_extern func105 (by kernel_rfl) (by kernel_rfl) (by kernel_rfl) (e := Extern.SlicesOverlaps.overlaps #[144, 144] #[4]) (by kernel_rfl), over_apart underlying144 sizeOf149 hx hne ho (by decide) hc hd]
 rfl
theorem menins_ok (a : Option Addr) (c : Nat) (D F : Nat → Prop) (l : List Men) (i : Nat) (b : Option Addr) (cb : Nat) (x : Men) (w : World) (ho : Own encMe 3 149 D w (.slice a l.length c) l) (hx : Own encMe 3 149 F w (.slice b 1 cb) [x]) (hi : i ≤ l.length) (hl : l.length ≤ 100000) (hDF : ∀ q, F q → D q → False) : Ok Tryz.prog 76 #[.slice a l.length c, .int .i64 (i : Int), .slice b 1 cb] w fun v w' => Own encMe 3 149 (fun g => D g ∨ Fsh w w' g) w' v (l.take i ++ [x] ++ l.drop i) ∧ Bel False D w w' := by
 replace ho := ho.mono (D' := fun g => D g ∧ g < w.heap.size) (fun g h1 h2 => ⟨h2, h1⟩)
 replace hx := hx.mono (D' := fun g => F g ∧ g < w.heap.size) (fun g h1 h2 => ⟨h2, h1⟩)
 have hlc := ho.capOf.1
 have hcm := (ho.slA encMe_ok).cap
 have hcm2 : c ≤ 140737488355328 * 65536 := by unfold maxLen at hcm; omega
 obtain ⟨n0, hn0⟩ : ∃ n, n = w.heap.size := ⟨_, rfl⟩
 refine Qz 95 func76 rfl rfl rfl ?_
 have hX : Bel False (fun g => D g ∨ w.heap.size ≤ g) w w := Bel.refl _ _
 refine Qe (Qc ?_)
 refine Rr Qm ?_
 refine Qd (Qe (Qc ?_))
 refine Rr (mvS rfl) ?_
 refine Rr (mvI rfl) ?_
 refine Rr (o_slfrom2 (j := i) underlying144 sizeOf149 rfl rfl (by omega) (by omega)) ?_
 refine Qd (Qe (Qc ?_))
 refine Rr (mvS rfl) ?_
 refine Rr (QK underlying144 rfl) ?_
 refine Rr (asI rfl) ?_
 refine Qd (Qe (Qe (Qc ?_)))
 refine Rr (mvI rfl) ?_
 refine Rr (Q0 rfl rfl) ?_
 refine Qd ?_
 refine Qr rfl ?_
 refine Qu (Qe (Qc ?_))
 refine Rr (mvS rfl) ?_
 refine Rr (QK underlying144 rfl) ?_
 refine Rr (asI rfl) ?_
 refine Qd (Qe (Qe (Qc ?_)))
 refine Rr (mvI rfl) ?_
 refine Rr (mvI rfl) ?_
 refine Rr (Q0 rfl rfl) ?_
 refine Qd ?_
 refine QD rfl (fun hc2 => ?_) (fun hc2 => ?_)
 ·have hil : i = l.length := by have := eq_of_beq hc2; omega
  refine Qe (Qc ?_)
  refine Rr (mvS rfl) ?_
  refine Rr (mvS rfl) ?_
  refine Rg_app rfl encMe_ok el_me rfl rfl (ho.mono (D' := fun g => D g ∨ w.heap.size ≤ g) (fun g _ h => Or.inl h.1)) (hx.slA encMe_ok) rfl (by simp; omega) (fun g h => Or.inr (by omega)) ?_
  intro v25 w1 x2 hown25
  have z3 := x2.size
  replace hX := Bel.out hX x2 (fun g h1 h2 => by first | exact h2 | exact Or.inl h2.1 | exact Or.inl h2 | omega)
  refine Rr (Qv (v := v25) rfl) ?_
  refine Qd (Qy ?_)
  refine ⟨_, Qp rfl rfl, ?_⟩
  refine ⟨?_, hX.mono (fun g h1 h2 => h2.elim id (fun h => by omega))⟩
  have e : (l.take i ++ [x] ++ l.drop i) = l ++ [x] := by rw [hil]; simp
  rw [e]
  exact hown25.mono (fun g h1 h2 => h2.elim Or.inl (fun h => Or.inr ⟨h, h1⟩))
 have hil : i < l.length := by
  have : ¬ (i : Int) = (l.length : Int) := by simpa using hc2
  omega
 refine Qu (Qe (Qe (Qc ?_)))
 refine Rr (mvI rfl) ?_
 refine Rr (mvI rfl) ?_
 refine Rr (o_addN (p := l.length) (b := 1) rfl rfl (by omega)) ?_
 refine Rr (mvS rfl) ?_
 refine Rr (o_cap underlying144 rfl) ?_
 refine Rr (o_gtr rfl rfl) ?_
 refine Qd ?_
 refine QD rfl (fun hc3 => ?_) (fun hc3 => ?_)
 ·replace hc3 := dcT hc3
  refine Qe (Qc ?_)
  refine Rr (mvS rfl) ?_
  refine Rr (mvI rfl) ?_
  refine Rr (o_slto (j := i) underlying144 sizeOf149 rfl rfl (by omega)) ?_
  refine Rr (mvI rfl) ?_
  refine Rr (mvI rfl) ?_
  refine Rr (o_addN (p := l.length) (b := 1) rfl rfl (by omega)) ?_
  refine Rr (mvI rfl) ?_
  refine Rr (o_subN (p := l.length + 1) (b := i) rfl rfl (by omega) (by omega)) ?_
  refine Rg_appz (i := i) (q := l.length + 1 - i) mez rfl encMe_ok el_me rfl underlying3 rfl rfl (ho.cut encMe_ok hi) (by omega) (by omega) (by omega) ?_
  intro g40 c40 w4 x5 hge40 hown40
  have z6 := x5.size
  replace hX := hX.ex x5
  replace ho := ho.ext x5
  replace hx := hx.ext x5
  refine Rr (asS rfl) ?_
  refine Qd (Qe (Qc ?_))
  refine Rr (mvS rfl) ?_
  refine Rr (mvI rfl) ?_
  refine Rr (o_slfrom2 (j := i) underlying144 sizeOf149 rfl rfl (by omega) (by have := hown40.capOf.1; omega)) ?_
  refine Rr (mvS rfl) ?_
  refine Rg_cpy (o := i) (m2 := i + (l.length + 1 - i)) ([x]) rfl encMe_ok el_me rfl rfl hown40 (hx.slA encMe_ok) (by simp; omega) (by simp; omega) (by have h := hown40.capOf.1; simp; omega) (by simp; omega) ?_
  intro w7 x8 hown40
  have z9 := x8.size
  replace hX := Bel.out hX x8 (fun g h1 h2 => by first | exact h2 | exact Or.inl h2.1 | exact Or.inl h2 | omega)
  replace ho := ho.keepD x8 om3
  refine Qd (Qe ?_)
  apply Ze (β := False) (fun _ => 0) [peqC _, peqC _, peqC _, peqC _, peqC _, peqC _, peqC _, peqC _] [0, 0, 0, 0, 0, 0, 0, 0] 8 Q9 (by kernel_rfl) (by kernel_rfl) rfl ⟨Qi _ _, Qi _ _, Qi _ _, Qi _ _, Qi _ _, Qi _ _, Qi _ _, Qi _ _, trivial⟩ ?ob11 ?fin11
  case ob11 =>
   refine Qk (fun w10 c12 x11 hc013 hk14 => ?_) ?_
   ·replace x11 := RelG.ext0 x11
    have z15 := x11.size
    refine Qj ?_
    exact Qs rfl (mvS rfl)
   refine Qk (fun w16 c18 x17 hc019 hk20 => ?_) ?_
   ·replace x17 := RelG.ext0 x17
    have z21 := x17.size
    refine Qj ?_
    exact Qs rfl (mvI rfl)
   refine Qk (fun w22 c24 x23 hc025 hk26 => ?_) ?_
   ·replace x23 := RelG.ext0 x23
    have z27 := x23.size
    refine Qj ?_
    exact Qs rfl (mvI rfl)
   refine Qk (fun w28 c30 x29 hc031 hk32 => ?_) ?_
   ·replace x29 := RelG.ext0 x29
    have z33 := x29.size
    refine Qb (Qb (Qj ?_))
    exact Qs rfl (o_addN (p := i) (b := 1) rfl rfl (by omega))
   refine Qk (fun w34 c36 x35 hc037 hk38 => ?_) ?_
   ·replace x35 := RelG.ext0 x35
    have z39 := x35.size
    have hown40 := hown40.ext x35
    refine Qb (Qb (Qj ?_))
    exact Qs rfl (o_slfrom2 (j := i + 1) underlying144 sizeOf149 rfl rfl (by omega) (by have := hown40.capOf.1; omega))
   refine Qk (fun w40 c42 x41 hc043 hk44 => ?_) ?_
   ·replace x41 := RelG.ext0 x41
    have z45 := x41.size
    refine Qj ?_
    exact Qs rfl (mvS rfl)
   refine Qk (fun w46 c48 x47 hc049 hk50 => ?_) ?_
   ·replace x47 := RelG.ext0 x47
    have z51 := x47.size
    refine Qj ?_
    exact Qs rfl (mvI rfl)
   refine Qk (fun w52 c54 x53 hc055 hk56 => ?_) ?_
   ·replace x53 := RelG.ext0 x53
    have z57 := x53.size
    refine Qb (Qb (Qj ?_))
    exact Qs rfl (o_slfrom2 (j := i) underlying144 sizeOf149 rfl rfl (by omega) (by omega))
   exact Q8
  case fin11 =>
   intro w58 c60 x59 hc061
   replace x59 := RelG.ext0 x59
   have z62 := x59.size
   replace hX := hX.ex x59
   replace ho := ho.ext x59
   replace hown40 := hown40.ext x59
   refine Qb (Qb (Qb (Qb (Qb (Qb (Qb (Qb (Qj ?_))))))))
   refine Rg_cpy (o := i + 1) (m2 := i + (l.length + 1 - i)) (l.drop i) rfl encMe_ok el_me rfl rfl hown40 ((ho.slA encMe_ok).drop hi) (by simp; omega) (by rw [putL_len (by simp; omega)]; simp; omega) (by have h := hown40.capOf.1; simp; omega) (by rw [putL_len (by simp; omega)]; simp; omega) ?_
   intro w63 x64 hown40
   have z65 := x64.size
   replace hX := Bel.out hX x64 (fun g h1 h2 => by first | exact h2 | exact Or.inl h2.1 | exact Or.inl h2 | omega)
   refine Qd (Qe (Qc ?_))
   refine Rr (mvS rfl) ?_
   refine Rr (asS rfl) ?_
   refine Qd (Qy ?_)
   refine ⟨_, Qp rfl rfl, ?_⟩
   refine ⟨?_, hX.mono (fun g h1 h2 => h2.elim id (fun h => by omega))⟩
   rw [ins_grow hi rfl] at hown40
   exact hown40.mono (fun g h1 h2 => Or.inr ⟨by omega, h1⟩)
 replace hc3 := dcF hc3
 refine Qu (Qe (Qc ?_))
 refine Rr (mvS rfl) ?_
 refine Rr (mvI rfl) ?_
 refine Rr (mvI rfl) ?_
 refine Rr (o_addN (p := l.length) (b := 1) rfl rfl (by omega)) ?_
 refine Rr (o_slto (j := l.length + 1) underlying144 sizeOf149 rfl rfl (by omega)) ?_
 refine Rr (asS rfl) ?_
 refine Qd (Qe (Qe (Qc ?_)))
 obtain ⟨ga, rfl⟩ : ∃ g, a = some ⟨g, 0, none⟩ := by
  obtain ⟨g, c2, hv⟩ := ho.sm (by intro e; rw [e] at hil; simp at hil)
  simp only [Value.slice.injEq] at hv
  exact ⟨g, hv.1⟩
 refine Rr (mvS rfl) ?_
 refine Rr (mvS rfl) ?_
 refine Rr (mvI rfl) ?_
 refine Rr (mvI rfl) ?_
 refine Rr (o_addN (p := i) (b := 1) rfl rfl (by omega)) ?_
 refine Rr (o_sfromG (j := i + 1) underlying144 sizeOf149 rfl rfl (by omega) (by omega)) ?_
 refine Rr (o_ext2 rfl rfl (menover _ hx (by simp) ho (by omega) (fun q h1 h2 => hDF q h1.1 h2.1))) ?_
 refine Rr (Q5 rfl) ?_
 refine Qd ?_
 refine Q2 rfl ?_
 refine Qe ?_
 apply Ze (β := False) (fun _ => 0) [peqC _, peqC _, peqC _, peqC _, peqC _, peqC _, peqC _, peqC _] [0, 0, 0, 0, 0, 0, 0, 0] 8 Q9 (by kernel_rfl) (by kernel_rfl) rfl ⟨Qi _ _, Qi _ _, Qi _ _, Qi _ _, Qi _ _, Qi _ _, Qi _ _, Qi _ _, trivial⟩ ?ob15 ?fin15
 case ob15 =>
  refine Qk (fun w66 c68 x67 hc069 hk70 => ?_) ?_
  ·replace x67 := RelG.ext0 x67
   have z71 := x67.size
   refine Qj ?_
   exact Qs rfl (mvS rfl)
  refine Qk (fun w72 c74 x73 hc075 hk76 => ?_) ?_
  ·replace x73 := RelG.ext0 x73
   have z77 := x73.size
   refine Qj ?_
   exact Qs rfl (mvI rfl)
  refine Qk (fun w78 c80 x79 hc081 hk82 => ?_) ?_
  ·replace x79 := RelG.ext0 x79
   have z83 := x79.size
   refine Qj ?_
   exact Qs rfl (mvI rfl)
  refine Qk (fun w84 c86 x85 hc087 hk88 => ?_) ?_
  ·replace x85 := RelG.ext0 x85
   have z89 := x85.size
   refine Qb (Qb (Qj ?_))
   exact Qs rfl (o_addN (p := i) (b := 1) rfl rfl (by omega))
  refine Qk (fun w90 c92 x91 hc093 hk94 => ?_) ?_
  ·replace x91 := RelG.ext0 x91
   have z95 := x91.size
   refine Qb (Qb (Qj ?_))
   exact Qs rfl (o_slfrom2 (j := i + 1) underlying144 sizeOf149 rfl rfl (by omega) (by omega))
  refine Qk (fun w96 c98 x97 hc099 hk100 => ?_) ?_
  ·replace x97 := RelG.ext0 x97
   have z101 := x97.size
   refine Qj ?_
   exact Qs rfl (mvS rfl)
  refine Qk (fun w102 c104 x103 hc0105 hk106 => ?_) ?_
  ·replace x103 := RelG.ext0 x103
   have z107 := x103.size
   refine Qj ?_
   exact Qs rfl (mvI rfl)
  refine Qk (fun w108 c110 x109 hc0111 hk112 => ?_) ?_
  ·replace x109 := RelG.ext0 x109
   have z113 := x109.size
   refine Qb (Qb (Qj ?_))
   exact Qs rfl (o_slfrom2 (j := i) underlying144 sizeOf149 rfl rfl (by omega) (by omega))
  exact Q8
 case fin15 =>
  intro w114 c116 x115 hc0117
  replace x115 := RelG.ext0 x115
  have z118 := x115.size
  replace hX := hX.ex x115
  replace ho := ho.ext x115
  replace hx := hx.ext x115
  refine Qb (Qb (Qb (Qb (Qb (Qb (Qb (Qb (Qj ?_))))))))
  refine Rg_cpy (o := i + 1) (m2 := l.length + 1) (l.drop i) rfl encMe_ok el_me rfl rfl ho ((ho.slA encMe_ok).drop hi) (by simp; omega) (by omega) (by simp; omega) (by simp; omega) ?_
  intro w119 x120 ho
  have z121 := x120.size
  replace hX := Bel.out hX x120 (fun g h1 h2 => by first | exact h2 | exact Or.inl h2.1 | exact Or.inl h2 | omega)
  replace hx := hx.keepD x120 (fun g h1 h2 h3 => by first | (exact hDF g h2.1 h3.1) | omega)
  refine Qd (Qe (Qc ?_))
  refine Rr (mvS rfl) ?_
  refine Rr (mvI rfl) ?_
  refine Rr (o_slfrom2 (j := i) underlying144 sizeOf149 rfl rfl (by omega) (by omega)) ?_
  refine Rr (mvS rfl) ?_
  refine Rg_cpy (o := i) (m2 := l.length + 1) ([x]) rfl encMe_ok el_me rfl rfl ho (hx.slA encMe_ok) (by simp; omega) (by rw [putL_len (by omega)]; simp; omega) (by simp; omega) (by rw [putL_len (by omega)]; simp; omega) ?_
  intro w122 x123 ho
  have z124 := x123.size
  replace hX := Bel.out hX x123 (fun g h1 h2 => by first | exact h2 | exact Or.inl h2.1 | exact Or.inl h2 | omega)
  refine Qd (Qe (Qc ?_))
  refine Rr (mvS rfl) ?_
  refine Rr (asS rfl) ?_
  refine Qd (Qy ?_)
  refine ⟨_, Qp rfl rfl, ?_⟩
  refine ⟨?_, hX.mono (fun g h1 h2 => h2.elim id (fun h => by omega))⟩
  rw [ins_place hil] at ho
  exact ho.mono (fun g h1 h2 => Or.inl h2.1)

theorem meninsV_ok (D F : Nat → Prop) (l : List Men) (i : Nat) (v0 : Value) (b : Option Addr) (cb : Nat) (x : Men) (w : World) (ho : Own encMe 3 149 D w v0 l) (hx : Own encMe 3 149 F w (.slice b 1 cb) [x]) (hi : i ≤ l.length) (hl : l.length ≤ 100000) (hDF : ∀ q, F q → D q → False) :
  Ok Tryz.prog 76 #[v0, .int .i64 (i : Int), .slice b 1 cb] w fun v w' => Own encMe 3 149 (fun g => D g ∨ Fsh w w' g) w' v (l.take i ++ [x] ++ l.drop i) ∧ Bel False D w w' := by
 obtain ⟨a, c, rfl, -⟩ := ho.sl encMe_ok
 exact menins_ok a c D F l i b cb x w ho hx hi hl hDF
theorem mfind1_ok (x y : Men) (hx : x.rg) (hy : y.rg) (w : World) : Ok Tryz.prog 104 #[.agg (encMe x).toArray, .agg (encMe y).toArray] w fun v w' => v = .int .i64 (cmpN x y) ∧ Ext False w w' := by
 obtain ⟨hx1, hx2, hx3⟩ := hx
 obtain ⟨hy1, hy2, hy3⟩ := hy
 refine Qz 20 func104 rfl rfl rfl ?_
 have hX := xRf w
 refine Qe (Qc ?_)
 refine QJ rfl (Q4 (v := .agg _) rfl) ?_
 intro b2 w1 x2 hge2 hb2
 change Box _ _ _ (encMe _) at hb2
 replace hX := hX.ex x2
 refine QJ rfl (Q4 (v := .agg _) rfl) ?_
 intro b3 w3 x4 hge3 hb3
 change Box _ _ _ (encMe _) at hb3
 replace hX := hX.ex x4
 replace hb2 := hb2.ext x4
 refine Rr Qm ?_
 refine Qd (Qe (Qe (Qc ?_)))
 refine Rr (Qx underlying149 rfl sizeOf3 rfl) ?_
 refine Rr (Qn isAgg3 rfl (hb2.at.get 0 rfl)) ?_
 refine Rr (Qx underlying149 rfl sizeOf3 rfl) ?_
 refine Rr (Qn isAgg3 rfl (hb3.at.get 0 rfl)) ?_
 refine Rr (o_neq rfl rfl) ?_
 refine Qd ?_
 refine QD rfl (fun hc1 => ?_) (fun hc1 => ?_)
 ·refine Qe (Qc ?_)
  refine Rr (Qx underlying149 rfl sizeOf3 rfl) ?_
  refine Rr (Qn isAgg3 rfl (hb2.at.get 0 rfl)) ?_
  refine Rr (Qx underlying149 rfl sizeOf3 rfl) ?_
  refine Rr (Qn isAgg3 rfl (hb3.at.get 0 rfl)) ?_
  refine Rr (o_sub rfl rfl (by unfold I64; omega)) ?_
  refine Rr (asI rfl) ?_
  refine Qd (Qy ?_)
  refine ⟨_, Qp rfl rfl, ?_⟩
  refine ⟨congrArg (Value.int .i64) ?_, hX⟩
  all_goals (rw [cmpN, if_pos (by simpa using hc1)])
 refine Qu (Qe (Qc ?_))
 refine Rr (Qx underlying149 rfl sizeOf3 rfl) ?_
 refine Rr (Qn isAgg3 rfl (hb2.at.get 1 rfl)) ?_
 refine Rr (Qx underlying149 rfl sizeOf3 rfl) ?_
 refine Rr (Qn isAgg3 rfl (hb3.at.get 1 rfl)) ?_
 refine Rr (o_sub rfl rfl (by unfold I64; omega)) ?_
 refine Rr (asI rfl) ?_
 refine Qd (Qy ?_)
 refine ⟨_, Qp rfl rfl, ?_⟩
 refine ⟨congrArg (Value.int .i64) ?_, hX⟩
 all_goals (rw [cmpN, if_neg (by simpa using hc1)])

theorem mbs_ok (a : Option Addr) (c : Nat) (G : Nat → Prop) (L : List Men) (y : Men) (w : World) (hs : Sl encMe 3 G w a c L) (hm : OkN L) (hy : y.rg) : Ok Tryz.prog 103 #[.slice a L.length c, .agg (encMe y).toArray, .func (.func 104) #[] #[]] w fun v w' => v = .tuple #[.int .i64 (fdN L y : Int), .bool (fnN L y)] ∧ Ext False w w' := by
 have hlen := hm.len
 replace hs := hs.mono (F' := fun g => g < w.heap.size) (fun g h1 h2 => h1)
 refine Qz 49 func103 rfl rfl rfl ?_
 have hX := xRf w
 refine Qe (Qc ?_)
 refine QJ rfl (Q4 (v := .agg _) rfl) ?_
 intro b4 w1 x2 hge4 hb4
 change Box _ _ _ (encMe _) at hb4
 replace hX := hX.ex x2
 replace hs := hs.ext x2
 refine Rr Qm ?_
 refine Rr Qm ?_
 refine Qd (Qe (Qc ?_))
 refine Rr (mvS rfl) ?_
 refine Rr (QK underlying144 rfl) ?_
 refine Rr (asI rfl) ?_
 refine Qd (Qe (Qc ?_))
 refine Rr (mvI rfl) ?_
 refine Rr Qm ?_
 refine Rr (asI rfl) ?_
 refine Qd (Qe (QB ?_))
 refine Za (α := Nat × Nat) [(9, 11), (15, 34)] (fun q => [(9, .int .i64 (q.1 : Int)), (10, .int .i64 (q.2 : Int))]) (fun q w' => (BsN L y q.1 q.2) ∧ Ext False w1 w') (fun q => q.2 - q.1) (0, L.length) ⟨rfl, rfl, trivial⟩ ⟨BsN.start _ _, Bel.refl _ _⟩ ?_
 rintro ⟨i, j⟩ fb5 w4 ⟨hb, hXL3⟩
 dsimp only at *
 replace hX := hX.ex hXL3
 replace hs := hs.ext hXL3
 replace hb4 := hb4.ext hXL3
 have hb1 := hb.le
 have hb2 := hb.len
 refine Qe (Qe (Qc ?_))
 refine Rr (mvI rfl) ?_
 refine Rr (mvI rfl) ?_
 refine Rr (QQ rfl rfl) ?_
 refine Qd ?_
 refine QD rfl (fun hc1 => ?_) (fun hc1 => ?_)
 ·replace hc1 := dcT hc1
  have hij : i < j := by omega
  refine Qu (QB (Qe (Qc ?_)))
  refine Rr (mvI rfl) ?_
  refine Rr (mvI rfl) ?_
  refine Rr (o_addN (p := i) (b := j) rfl rfl (by omega)) ?_
  refine Rr (o_convV (n := i + j) underlying3 underlying164 rfl (by omega)) ?_
  refine Rr (o_shrU (a := BitVec.ofNat 64 (i + j)) (n := 1) rfl rfl (by decide)) ?_
  refine Rr (o_convU (n := ((i + j) / 2)) underlying164 underlying3 rfl (half_natN (by omega)) (by omega)) ?_
  refine Rr (asI rfl) ?_
  refine Qd (Qe ?_)
  apply W_draw (β := False) [peq _, peq _, peq _, peq _, peq _, peq _, peq _, peq _] 8 Q9 (by kernel_rfl) rfl ⟨Qf _, Qf _, Qf _, Qf _, Qf _, Qf _, Qf _, Qf _, trivial⟩ ?ob5 ?fin5
  case ob5 =>
   refine Qh (fun w6 x7 => ?_) ?_
   ·refine Qg ?_
    exact Qt rfl (Ql (v := .func _ _ _) rfl)
   refine Qh (fun w8 x9 => ?_) ?_
   ·refine Qg ?_
    exact Qt rfl (mvS rfl)
   refine Qh (fun w10 x11 => ?_) ?_
   ·refine Qg ?_
    exact Qt rfl (mvI rfl)
   refine Qh (fun w12 x13 => ?_) ?_
   ·have hs := hs.ext x13
    refine Qa (Qa (Qg ?_))
    exact Qt rfl (Zg underlying144 sizeOf149 hs rfl rfl omg)
   refine Qh (fun w14 x15 => ?_) ?_
   ·have hs := hs.ext x15
    refine Qa (Qg ?_)
    exact Qt rfl (o_ldRS isAgg149 sizeOf149 hs rfl (getE mez (by omega)))
   refine Qh (fun w16 x17 => ?_) ?_
   ·have hb4 := hb4.ext x17
    refine Qg ?_
    exact Qt rfl (QO isAgg149 sizeOf149 rfl hb4.at rfl)
   refine Qh (fun w18 x19 => ?_) ?_
   ·refine Qa (Qa (Qa (Qg ?_)))
    exact OpS_call rfl (o_clo2 call104 rfl rfl rfl) (mfind1_ok (L.getD ((i + j) / 2) mez) y (hm.rg _ (gm (z := mez) (show ((i + j) / 2) < L.length by omega))) hy _)
   refine Qh (fun w20 x21 => ?_) ?_
   ·refine Qa (Qg ?_)
    exact Qt rfl (QQ rfl rfl)
   exact Q7
  case fin5 =>
   intro w22 x23
   replace hX := hX.ex x23
   replace hXL3 := Bel.ex hXL3 x23
   refine Qa (Qa (Qa (Qa (Qa (Qa (Qa (Qa (Qg ?_))))))))
   refine Qd ?_
   refine QD rfl (fun hc2 => ?_) (fun hc2 => ?_)
   ·replace hc2 := dcT hc2
    refine Qc ?_
    refine Rr (mvI rfl) ?_
    refine Rr (Q6 rfl rfl omg) ?_
    refine Rr (asI rfl) ?_
    refine Qd ?_
    refine ⟨(((i + j) / 2) + 1, j), ⟨sT, sT, trivial⟩, oT, ⟨?_, hXL3⟩, ?_⟩
    ·exact hb.loS hm.srt (by omega) (by omega) hc2
    ·show j - (((i + j) / 2) + 1) < j - i; omega
   replace hc2 := dcF hc2
   refine Qc ?_
   refine Rr (mvI rfl) ?_
   refine Rr (asI rfl) ?_
   refine Qd ?_
   refine ⟨(i, ((i + j) / 2)), ⟨sT, sT, trivial⟩, oT, ⟨?_, hXL3⟩, ?_⟩
   ·exact hb.hiS hm.srt (by omega) (by omega) hc2
   ·show ((i + j) / 2) - i < j - i; omega
 replace hc1 := dcF hc1
 obtain rfl : i = j := by omega
 refine QS (QL (Qe ?_))
 apply W_draw (β := False) [peq _, peq _, peq _, peq _, peq _, peq _, peq _, peq _, peq _, peq _, peq _, peq _, peq _, peq _, peq _, peq _] 16 Q9 (by kernel_rfl) rfl ⟨Qf _, Qf _, Qf _, Qf _, Qf _, Qf _, Qf _, Qf _, Qf _, Qf _, Qf _, Qf _, Qf _, Qf _, Qf _, Qf _, trivial⟩ ?ob8 ?fin8
 case ob8 =>
  refine Qh (fun w24 x25 => ?_) ?_
  ·refine Qg ?_
   exact Qt rfl (mvI rfl)
  refine Qh (fun w26 x27 => ?_) ?_
  ·refine Qg ?_
   exact Qt rfl (mvI rfl)
  refine Qh (fun w28 x29 => ?_) ?_
  ·refine Qg ?_
   exact Qt rfl (mvI rfl)
  refine Qh (fun w30 x31 => ?_) ?_
  ·refine Qa (Qa (Qg ?_))
   exact Qt rfl (QQ rfl rfl)
  refine Qh (fun w32 x33 => ?_) ?_
  ·refine Qa (Qg ?_)
   exact Qt rfl (mvB rfl)
  refine Qh (fun w34 x35 => ?_) ?_
  ·refine Qa (Qg ?_)
   exact QN 4 39 rfl rfl (fun hg => (Ql (v := .func _ _ _) rfl))
  refine Qh (fun w36 x37 => ?_) ?_
  ·refine Qa (Qg ?_)
   exact QN 4 39 rfl rfl (fun hg => (mvS rfl))
  refine Qh (fun w38 x39 => ?_) ?_
  ·refine Qa (Qg ?_)
   exact QN 4 39 rfl rfl (fun hg => (mvI rfl))
  refine Qh (fun w40 x41 => ?_) ?_
  ·have hs := hs.ext x41
   refine Qa (Qa (Qa (Qg ?_)))
   exact QN 4 39 rfl rfl (fun hg => (Zg underlying144 sizeOf149 hs (QE (u := undef) hg) (QE (u := undef) hg) omg))
  refine Qh (fun w42 x43 => ?_) ?_
  ·have hs := hs.ext x43
   refine Qa (Qa (Qg ?_))
   exact QN 4 39 rfl rfl (fun hg => (o_ldRS isAgg149 sizeOf149 hs (QE (u := undef) hg) (getE mez (by simpa using hg))))
  refine Qh (fun w44 x45 => ?_) ?_
  ·have hb4 := hb4.ext x45
   refine Qa (Qg ?_)
   exact QN 4 39 rfl rfl (fun hg => (QO isAgg149 sizeOf149 rfl hb4.at rfl))
  refine Qh (fun w46 x47 => ?_) ?_
  ·refine Qa (Qa (Qa (Qa (Qa (Qg ?_)))))
   exact OpS_mayCall 4 39 rfl rfl (fun hg => ⟨(o_clo2 call104 (QE (u := undef) hg) (QE (u := undef) hg) (QE (u := undef) hg)), mfind1_ok (L.getD i mez) y (by have hil : i < L.length := (by simpa using hg); exact (hm.rg _ (gm (z := mez) (show i < L.length by omega)))) hy _⟩)
  refine Qh (fun w48 x49 => ?_) ?_
  ·refine Qa (Qa (Qg ?_))
   exact QN 4 39 rfl rfl (fun hg => (Q0 (QE (u := undef) hg) rfl))
  refine Qh (fun w50 x51 => ?_) ?_
  ·refine Qa (Qa (Qg ?_))
   exact Qt rfl (o_and (u := undef) rfl rfl)
  refine Qh (fun w52 x53 => ?_) ?_
  ·refine Qa (Qa (Qa (Qg ?_)))
   exact Qt rfl (asI rfl)
  refine Qh (fun w54 x55 => ?_) ?_
  ·refine Qa (Qa (Qa (Qa (Qa (Qa (Qa (Qa (Qa ?_))))))))
   refine Qa (Qa (Qa (Qa (Qa (Qa (Qa (Qa (Qg ?_))))))))
   exact Qt rfl (asB rfl)
  exact Q7
 case fin8 =>
  intro w56 x57
  replace hX := hX.ex x57
  refine Qa (Qa (Qa (Qa (Qa (Qa (Qa (Qa (Qa ?_))))))))
  refine Qa (Qa (Qa (Qa (Qa (Qa (Qa (Qg (Qd ?_))))))))
  refine Qy ?_
  refine ⟨_, res_tmp2 rfl rfl rfl, ?_⟩
  rw [hb.fin, hb.fn]
  exact ⟨rfl, hX⟩

theorem mfind_ok (v0 : Value) (L : List Men) (w : World) (hb0 : MbIs w v0 L) (hm : OkN L) (u r : Int) (hu : 0 ≤ u ∧ u ≤ 100000) (hr : 0 ≤ r ∧ r < 64) : Ok Tryz.prog 75 #[v0, .int .i64 u, .int .i64 r] w fun v w' => v = .tuple #[.int .i64 (fdN L ⟨u, r, 0⟩ : Int), .bool (fnN L ⟨u, r, 0⟩)] ∧ Ext False w w' := by
 obtain ⟨pb, ab, cb, rfl, hba, hb⟩ := hb0
 have hbl := hba.lt
 have hlen := hm.len
 refine Qz 18 func75 rfl rfl rfl ?_
 have hX := xRf w
 refine Qe (Qc ?_)
 refine Rr Qm ?_
 refine Rr Qm ?_
 refine Qd (Qe (Qc ?_))
 refine Rr (Ql (v := .pointer _) rfl) ?_
 refine Rr (QG rfl) ?_
 refine Rr (Qx underlying146 rfl sizeOf144 rfl) ?_
 refine Rr (Qn isAgg144 rfl (hba.get 0 rfl)) ?_
 refine Rr (mvI rfl) ?_
 refine Rr (mvI rfl) ?_
 refine Rr (QZ (cells := encMe ⟨u, r, 0⟩) (vs := [(0, .int _ _), (1, .int _ _)]) rfl (by kernel_rfl)) ?_
 refine Qo rfl (o_call3 call103 rfl rfl rfl) (Ok.mono (mbs_ok _ _ _ L ⟨u, r, 0⟩ _ hb hm ⟨hu, hr, ⟨by show (0 : Int) ≤ 0; decide, by show (0 : Int) ≤ 100000; decide⟩⟩) ?_)
 rintro _ w1 ⟨rfl, x2⟩
 replace hX := hX.ex x2
 refine Rr (QH rfl rfl) ?_
 refine Rr (QH rfl rfl) ?_
 refine Rr (asI rfl) ?_
 refine Rr (asB rfl) ?_
 refine Qd (Qy ?_)
 refine ⟨_, res_tmp2 rfl rfl rfl, ?_⟩
 exact ⟨rfl, hX⟩

theorem mbnew_ok (w : World) : Ok Tryz.prog 39 #[] w fun v w' => MbF (Fsh w w') w' v [] ∧ Ext False w w' := by
 refine Qz 3 func39 rfl rfl rfl ?_
 have hX := xRf w
 refine Qe (Qc ?_)
 refine Rr Qm ?_
 refine Qd (Qe (Qc ?_))
 refine Rr (QZ (cells := [.slice none 0 0]) (vs := []) rfl (by kernel_rfl)) ?_
 refine QJ rfl (Q4 (v := .agg _) rfl) ?_
 intro b2 w1 x2 hge2 hb2
 have hlt2 := hb2.lt
 have z3 := x2.size
 replace hX := hX.ex x2
 refine Rr (Qv (v := .pointer _) rfl) ?_
 refine Qd (Qy ?_)
 refine ⟨_, Qp rfl rfl, ?_⟩
 change Box _ _ _ [.slice none 0 0] at hb2
 exact ⟨mbF_new (L := []) (e := 149) (D := fun _ => False) hb2 (by exact ⟨by omega, hb2.lt⟩) rfl (Own.nil _ _) (fun g h1 h2 => h2.elim), hX⟩

theorem massign_ok (v0 : Value) (L : List Men) (w : World) (hb0 : MbIs w v0 L) (hm : OkN L) (u r t : Int) (hu : 1 ≤ u ∧ u ≤ 256) (hr : 1 ≤ r ∧ r ≤ 63) (ht : 0 ≤ t ∧ t ≤ 30000) (hnf : fnN L ⟨u, r, 0⟩ = false) : Ok Tryz.prog 40 #[v0, .int .i64 u, .int .i64 r, .int .i64 t] w fun v w' => (∃ p, v = .tuple #[p, .int .i64 0] ∧ MbF (Fsh w w') w' p (insN L ⟨u, r, t⟩)) ∧ Ext False w w' := by
 obtain ⟨pb, ab, cb, rfl, hba, hb⟩ := hb0
 have hbl := hba.lt
 have hlen := hm.len
 refine Qz 68 func40 rfl rfl rfl ?_
 have hX := xRf w
 refine Qe (Qc ?_)
 refine Rr Qm ?_
 refine Rr Qm ?_
 refine Qd (Qe (QB (Qe (Qc ?_))))
 refine Rr (Ql (v := .pointer _) rfl) ?_
 refine Rr (o_peq underlying85 rfl rfl) ?_
 refine Rr (mvB rfl) ?_
 refine QF 2 16 rfl rfl ?_
 refine Rr (mvI rfl) ?_
 refine QF 2 16 rfl rfl ?_
 refine Rr (QQ rfl rfl) ?_
 refine Rr (Q3 (v := .bool _) rfl rfl) ?_
 refine Rr (mvB rfl) ?_
 refine Qq 6 20 rfl rfl rfl (fun hg => (mvI rfl)) ?_
 refine Qq 6 20 rfl rfl rfl (fun hg => (o_gtr (QE (u := undef) hg) rfl)) ?_
 refine Rr (o_or (u := undef) rfl rfl) ?_
 refine Rr (mvB rfl) ?_
 refine Qq 10 24 rfl rfl rfl (fun hg => (mvI rfl)) ?_
 refine Qq 10 24 rfl rfl rfl (fun hg => (QQ (QE (u := undef) hg) rfl)) ?_
 refine Rr (o_or (u := undef) rfl rfl) ?_
 refine Rr (mvB rfl) ?_
 refine Qq 14 28 rfl rfl rfl (fun hg => (mvI rfl)) ?_
 refine Qq 14 28 rfl rfl rfl (fun hg => (o_gtr (QE (u := undef) hg) rfl)) ?_
 refine Rr (o_or (u := undef) rfl rfl) ?_
 refine Rr (asB rfl) ?_
 refine Qd ?_
 refine Qr (cvB (by simp; omega)) ?_
 refine Qe (Qc ?_)
 refine Rr (mvI rfl) ?_
 refine Rr (QQ rfl rfl) ?_
 refine Rr (mvB rfl) ?_
 refine Qq 2 35 rfl rfl rfl (fun hg => (mvI rfl)) ?_
 refine Qq 2 35 rfl rfl rfl (fun hg => (o_gtr (QE (u := undef) hg) rfl)) ?_
 refine Rr (o_or (u := undef) rfl rfl) ?_
 refine Rr (asB rfl) ?_
 refine Qd ?_
 refine Qr (cvB (by simp; omega)) ?_
 refine Qu (Qe (Qc ?_))
 refine Rr (Ql (v := .pointer _) rfl) ?_
 refine Rr (QG rfl) ?_
 refine Rr (Qx underlying146 rfl sizeOf144 rfl) ?_
 refine Rr (Qn isAgg144 rfl (hba.get 0 rfl)) ?_
 refine Qo rfl (QA call74 rfl) (Ok.mono (mnclone_ok _ _ L hb.trd (by omega)) ?_)
 rintro v43 w1 ⟨hown43, x2⟩
 have z3 := x2.size
 replace hX := hX.ex x2
 replace hb := hb.ext x2
 replace hba := hba.ext x2
 refine Rr (Qv (v := v43) rfl) ?_
 refine Qd (Qe (Qc ?_))
 refine Rr (Ql (v := .pointer _) rfl) ?_
 refine Rr (mvI rfl) ?_
 refine Rr (mvI rfl) ?_
 refine Qo rfl (o_call3 call75 rfl rfl rfl) (Ok.mono (mfind_ok _ L _ ⟨pb, ab, cb, rfl, hba, hb.mono (fun g h1 h2 => h1)⟩ hm u r ⟨by omega, by omega⟩ ⟨by omega, by omega⟩) ?_)
 rintro _ w4 ⟨rfl, x5⟩
 have z6 := x5.size
 replace hX := hX.ex x5
 replace hown43 := hown43.ext x5
 refine Rr (Ql (v := .tuple _) rfl) ?_
 refine Rr (QH rfl rfl) ?_
 refine Rr (QH rfl rfl) ?_
 refine Rr (asI rfl) ?_
 refine Rr (asB rfl) ?_
 refine Qd (Qe (Qe (Qc ?_)))
 refine Rr (mvB rfl) ?_
 refine Qd ?_
 refine Qr (cvB hnf) ?_
 refine Qc ?_
 refine Rr (Ql (v := v43) rfl) ?_
 refine Rr (mvI rfl) ?_
 refine Rr (mvI rfl) ?_
 refine Rr (mvI rfl) ?_
 refine Rr (mvI rfl) ?_
 refine Rr (QZ (cells := encMe ⟨u, r, t⟩) (vs := [(0, .int _ _), (1, .int _ _), (2, .int _ _)]) rfl (by kernel_rfl)) ?_
 refine Rg_bs (vs := [.agg _]) (([⟨u, r, t⟩] : List Men)) rfl encMe_ok el_me rfl rfl ⟨rfl, trivial⟩ rfl rfl rfl rfl ?_
 intro a63 w7 x8 hown63
 have z9 := x8.size
 replace hX := hX.ex x8
 replace hown43 := hown43.ext x8
 refine Qo rfl (o_call3 call76 rfl rfl rfl) (Ok.mono (meninsV_ok _ _ L (fdN L ⟨u, r, 0⟩) _ _ _ ⟨u, r, t⟩ _ hown43 hown63 (fdN_le _ _) (by omega) (fun q h1 h2 => by omega)) ?_)
 rintro v64 w10 ⟨hown64, x11⟩
 have z12 := x11.size
 replace hX := Bel.out hX x11 om2
 refine Rr (Qv (v := v64) rfl) ?_
 refine Qd (Qe (Qc ?_))
 change Own _ _ _ _ _ _ (insN L ⟨u, r, t⟩) at hown64
 obtain ⟨a64, c64, hv64, -⟩ := hown64.sl encMe_ok
 subst hv64
 refine Rr (Ql (v := .slice a64 (insN L ⟨u, r, t⟩).length c64) rfl) ?_
 refine Rr (QZ (cells := [.slice a64 (insN L ⟨u, r, t⟩).length c64]) (vs := [(0, .slice _ _ _)]) rfl (by kernel_rfl)) ?_
 refine QJ rfl (Q4 (v := .agg _) rfl) ?_
 intro b67 w13 x14 hge67 hb67
 have hlt67 := hb67.lt
 have z15 := x14.size
 replace hX := hX.ex x14
 replace hown64 := hown64.ext x14
 refine Rr (Qv (v := .pointer _) rfl) ?_
 refine Rr Qm ?_
 refine Qd (Qy ?_)
 refine ⟨_, res_tmp2 rfl rfl rfl, ?_⟩
 change Box _ _ _ [.slice a64 (insN L ⟨u, r, t⟩).length c64] at hb67
 exact ⟨⟨_, rfl, mbF_new hb67 (by exact ⟨by omega, hb67.lt⟩) rfl hown64 (fun g h1 h2 => ⟨by omega, h1⟩)⟩, hX⟩

theorem mindex_ok (v0 : Value) (L : List Men) (w : World) (hb0 : MbIs w v0 L) (hm : OkN L) (u r : Int) (hu : 1 ≤ u ∧ u ≤ 256) (hr : 1 ≤ r ∧ r ≤ 63) : Ok Tryz.prog 91 #[v0, .int .i64 u, .int .i64 r] w fun v w' => v = .tuple #[.int .i64 (fdN L ⟨u, r, 0⟩ : Int), .bool (fnN L ⟨u, r, 0⟩)] ∧ Ext False w w' := by
 obtain ⟨pb, ab, cb, rfl, hba, hb⟩ := hb0
 have hbl := hba.lt
 have hlen := hm.len
 refine Qz 32 func91 rfl rfl rfl ?_
 have hX := xRf w
 refine Qe (Qc ?_)
 refine Rr Qm ?_
 refine Rr Qm ?_
 refine Qd (Qe (Qe (Qc ?_)))
 refine Rr (Ql (v := .pointer _) rfl) ?_
 refine Rr (o_peq underlying85 rfl rfl) ?_
 refine Rr (mvB rfl) ?_
 refine QF 2 10 rfl rfl ?_
 refine Rr (mvI rfl) ?_
 refine QF 2 10 rfl rfl ?_
 refine Rr (QQ rfl rfl) ?_
 refine Rr (Q3 (v := .bool _) rfl rfl) ?_
 refine Rr (mvB rfl) ?_
 refine Qq 6 14 rfl rfl rfl (fun hg => (mvI rfl)) ?_
 refine Qq 6 14 rfl rfl rfl (fun hg => (o_gtr (QE (u := undef) hg) rfl)) ?_
 refine Rr (o_or (u := undef) rfl rfl) ?_
 refine Rr (mvB rfl) ?_
 refine Qq 10 18 rfl rfl rfl (fun hg => (mvI rfl)) ?_
 refine Qq 10 18 rfl rfl rfl (fun hg => (QQ (QE (u := undef) hg) rfl)) ?_
 refine Rr (o_or (u := undef) rfl rfl) ?_
 refine Rr (mvB rfl) ?_
 refine Qq 14 22 rfl rfl rfl (fun hg => (mvI rfl)) ?_
 refine Qq 14 22 rfl rfl rfl (fun hg => (o_gtr (QE (u := undef) hg) rfl)) ?_
 refine Rr (o_or (u := undef) rfl rfl) ?_
 refine Qd ?_
 refine Qr (cvB (by simp; omega)) ?_
 refine Qu (Qe (Qc ?_))
 refine Rr (Ql (v := .pointer _) rfl) ?_
 refine Rr (mvI rfl) ?_
 refine Rr (mvI rfl) ?_
 refine Qo rfl (o_call3 call75 rfl rfl rfl) (Ok.mono (mfind_ok _ L _ ⟨pb, ab, cb, rfl, hba, hb⟩ hm u r ⟨by omega, by omega⟩ ⟨by omega, by omega⟩) ?_)
 rintro _ w1 ⟨rfl, x2⟩
 replace hX := hX.ex x2
 refine Rr (QH rfl rfl) ?_
 refine Rr (QH rfl rfl) ?_
 refine Rr (asI rfl) ?_
 refine Rr (asB rfl) ?_
 refine Qd (Qy ?_)
 refine ⟨_, res_tmp2 rfl rfl rfl, ?_⟩
 exact ⟨rfl, hX⟩

theorem muntil_ok (v0 : Value) (L : List Men) (w : World) (hb0 : MbIs w v0 L) (hm : OkN L) (u r : Int) (hu : 1 ≤ u ∧ u ≤ 256) (hr : 1 ≤ r ∧ r ≤ 63) (hf : fnN L ⟨u, r, 0⟩ = true) : Ok Tryz.prog 56 #[v0, .int .i64 u, .int .i64 r] w fun v w' => v = .tuple #[.int .i64 (L.getD (fdN L ⟨u, r, 0⟩) mez).t, .bool true] ∧ Ext False w w' := by
 obtain ⟨pb, ab, cb, rfl, hba, hb⟩ := hb0
 have hbl := hba.lt
 have hlen := hm.len
 refine Qz 27 func56 rfl rfl rfl ?_
 have hX := xRf w
 refine Qe (Qc ?_)
 refine Rr Qm ?_
 refine Rr Qm ?_
 refine Qd (Qe (Qc ?_))
 refine Rr (Ql (v := .pointer _) rfl) ?_
 refine Rr (mvI rfl) ?_
 refine Rr (mvI rfl) ?_
 refine Qo rfl (o_call3 call91 rfl rfl rfl) (Ok.mono (mindex_ok _ L _ ⟨pb, ab, cb, rfl, hba, hb⟩ hm u r hu hr) ?_)
 rintro _ w1 ⟨rfl, x2⟩
 replace hX := hX.ex x2
 replace hb := hb.ext x2
 replace hba := hba.ext x2
 refine Rr (Ql (v := .tuple _) rfl) ?_
 refine Rr (QH rfl rfl) ?_
 refine Rr (QH rfl rfl) ?_
 refine Rr (asI rfl) ?_
 refine Rr (asB rfl) ?_
 refine Qd (Qe (Qe (Qc ?_)))
 refine Rr (mvB rfl) ?_
 refine Rr (Q5 rfl) ?_
 refine Qd ?_
 refine Qr (cvB (by rw [hf]; rfl)) ?_
 refine Qu (Qe (Qc ?_))
 refine Rr (Ql (v := .pointer _) rfl) ?_
 refine Rr (QG rfl) ?_
 refine Rr (Qx underlying146 rfl sizeOf144 rfl) ?_
 refine Rr (Qn isAgg144 rfl (hba.get 0 rfl)) ?_
 refine Rr (mvI rfl) ?_
 refine Rr (Zg underlying144 sizeOf149 hb rfl rfl (fnN_lt hf)) ?_
 refine Rr (o_faE underlying149 rfl sizeOf3 hb rfl (getE mez (fnN_lt hf))) ?_
 refine Rr (o_ldE (j := 2) isAgg3 hb rfl (getE mez (fnN_lt hf)) rfl) ?_
 refine Rr (asI rfl) ?_
 refine Rr Qm ?_
 refine Qd (Qy ?_)
 refine ⟨_, res_tmp2 rfl rfl rfl, ?_⟩
 exact ⟨rfl, hX⟩

theorem mactive_ok (x : Men) (d : Int) (w : World) : Ok Tryz.prog 114 #[.agg (encMe x).toArray, .int .i64 d] w fun v w' => v = .bool (actN x d) ∧ Ext False w w' := by
 refine Qz 17 func114 rfl rfl rfl ?_
 have hX := xRf w
 refine Qe (Qc ?_)
 refine QJ rfl (Q4 (v := .agg _) rfl) ?_
 intro b2 w1 x2 hge2 hb2
 change Box _ _ _ (encMe _) at hb2
 replace hX := hX.ex x2
 refine Rr Qm ?_
 refine Qd (Qe (Qc ?_))
 refine Rr (mvI rfl) ?_
 refine Rr (o_geq rfl rfl) ?_
 refine Rr (mvB rfl) ?_
 refine Qq 2 7 rfl rfl rfl (fun hg => (mvI rfl)) ?_
 refine Qq 2 7 rfl rfl rfl (fun hg => (o_leq (QE (u := undef) hg) rfl)) ?_
 refine Rr (o_and (u := undef) rfl rfl) ?_
 refine Rr (mvB rfl) ?_
 refine Qq 6 11 rfl rfl rfl (fun hg => (mvI rfl)) ?_
 refine Qq 6 11 rfl rfl rfl (fun hg => (Qx underlying149 rfl sizeOf3 rfl)) ?_
 refine Qq 6 11 rfl rfl rfl (fun hg => (Qn isAgg3 (QE (u := undef) hg) (hb2.at.get 2 rfl))) ?_
 refine Qq 6 11 rfl rfl rfl (fun hg => (o_leq (QE (u := undef) hg) (QE (u := undef) hg))) ?_
 refine Rr (o_and (u := undef) rfl rfl) ?_
 refine Rr (asB rfl) ?_
 refine Qd (Qy ?_)
 refine ⟨_, Qp rfl rfl, ?_⟩
 refine ⟨cvB ?_, hX⟩
 all_goals (rfl)

theorem ments_ok (v0 : Value) (L : List Men) (w : World) (hb0 : MbIs w v0 L) (hm : OkN L) : Ok Tryz.prog 137 #[v0] w fun v w' => Own encMe 3 149 (Fsh w w') w' v L ∧ Ext False w w' := by
 obtain ⟨pb, ab, cb, rfl, hba, hb⟩ := hb0
 have hbl := hba.lt
 have hlen := hm.len
 refine Qz 10 func137 rfl rfl rfl ?_
 have hX := xRf w
 refine Qe (Qc ?_)
 refine Rr Qm ?_
 refine Qd (Qe (Qe (Qc ?_)))
 refine Rr (Ql (v := .pointer _) rfl) ?_
 refine Rr (o_peq underlying85 rfl rfl) ?_
 refine Qd ?_
 refine Qr rfl ?_
 refine Qu (Qe (Qc ?_))
 refine Rr (Ql (v := .pointer _) rfl) ?_
 refine Rr (QG rfl) ?_
 refine Rr (Qx underlying146 rfl sizeOf144 rfl) ?_
 refine Rr (Qn isAgg144 rfl (hba.get 0 rfl)) ?_
 refine Qo rfl (QA call74 rfl) (Ok.mono (mnclone_ok _ _ L hb.trd (by omega)) ?_)
 rintro v9 w1 ⟨hown9, x2⟩
 have z3 := x2.size
 replace hX := hX.ex x2
 replace hown9 := hown9.mono (D' := fun g => w.heap.size ≤ g) (fun g h1 h2 => by omega)
 refine Rr (Qv (v := v9) rfl) ?_
 refine Qd (Qy ?_)
 refine ⟨_, Qp rfl rfl, ?_⟩
 exact ⟨hown9.mono (fun g h1 h2 => ⟨by omega, by omega⟩), hX⟩

theorem bwithM_ok (w : World) (s : SV) (Gs : Nat → Prop) (hs : Sl encU 1 Gs w s.a s.c (wl s.x)) (r : Int) (h1 : 0 ≤ r) (h2 : r < 64) : Ok Tryz.prog 115 #[.agg (encSV s).toArray, .int .i64 r] w fun v w' => ∃ a c, v = .agg (encSV ⟨a, c, s.x ||| oneW r.toNat⟩).toArray ∧ Sl encU 1 (fun g => Gs g ∨ Fsh w w' g) w' a c (wl (s.x ||| oneW r.toNat)) ∧ Ext False w w' := by
 obtain ⟨n, rfl⟩ : ∃ n : Nat, r = n := ⟨r.toNat, by omega⟩
 rw [Int.toNat_natCast]
 exact bwith_ok w s Gs hs n (by omega)
theorem mon_ok (v0 : Value) (L : List Men) (w : World) (hb0 : MbIs w v0 L) (hm : OkN L) (u d : Int) : Ok Tryz.prog 87 #[v0, .int .i64 u, .int .i64 d] w fun v w' => ∃ x c, v = .agg (encSV ⟨x, c, onW L u d⟩).toArray ∧ Sl encU 1 (Fsh w w') w' x c (wl (onW L u d)) ∧ Ext False w w' := by
 obtain ⟨pb, ab, cb, rfl, hba, hb⟩ := hb0
 have hbl := hba.lt
 have hlen := hm.len
 refine Qz 37 func87 rfl rfl rfl ?_
 have hX := xRf w
 refine Qe (Qc ?_)
 refine QJ rfl (Zh zeroValue45) ?_
 intro b6 w1 x2 hge6 hb6
 have hlt6 := hb6.lt
 change Box _ _ _ ([.slice _ _ _]) at hb6
 have z3 := x2.size
 replace hX := hX.ex x2
 replace hb := hb.ext x2
 replace hba := hba.ext x2
 refine Qd (Qe (Qc ?_))
 refine QJ rfl (Zh zeroValue45) ?_
 intro b7 w4 x5 hge7 hb7
 have hlt7 := hb7.lt
 change Box _ _ _ ([.slice _ _ _]) at hb7
 have z6 := x5.size
 replace hX := hX.ex x5
 replace hb := hb.ext x5
 replace hba := hba.ext x5
 replace hb6 := hb6.ext x5
 refine Qd (Qe (Qe (Qc ?_)))
 refine Rr (Ql (v := .pointer _) rfl) ?_
 refine Rr (o_peq underlying85 rfl rfl) ?_
 refine Qd ?_
 refine Qr rfl ?_
 refine Qu (Qe (Qe (Qc ?_)))
 refine Rr (Ql (v := .pointer _) rfl) ?_
 refine Rr (QG rfl) ?_
 refine Rr (Qx underlying146 rfl sizeOf144 rfl) ?_
 refine Rr (Qn isAgg144 rfl (hba.get 0 rfl)) ?_
 refine Rr (QK underlying144 rfl) ?_
 refine Rr QT ?_
 refine Qd (QB ?_)
 refine Za (α := Nat × Option Addr × Nat) [(9, 9), (18, 35)] (fun q => [(18, .int .i64 (q.1 : Int))]) (fun q w' => (q.1 ≤ L.length) ∧ Bel False (fun g => g = b7) w4 w' ∧ (Box w' b7 45 (encSV ⟨q.2.1, q.2.2, onW (L.take q.1) u d⟩) ∧ Sl encU 1 (fun g => w.heap.size ≤ g ∧ g ≠ b7 ∧ g ≠ b6) w' q.2.1 q.2.2 (wl (onW (L.take q.1) u d)))) (fun q => L.length - q.1) (0, none, 0) ⟨rfl, trivial⟩ ⟨Nat.zero_le _, Bel.refl _ _, ⟨hb7, Sl.none⟩⟩ ?_
 rintro ⟨k, ea, ec⟩ fb9 w8 ⟨hk, hXL7, ⟨hb7, hq7⟩⟩
 dsimp only at *
 have z10 := Bel.size hXL7
 replace hX := Bel.out hX hXL7 om2
 replace hb := hb.keep hXL7 om3
 replace hb6 := hb6.keep hXL7 om1
 refine Qe (Qc ?_)
 refine Rr (QQ rfl rfl) ?_
 refine Qd (Qe ?_)
 refine QD rfl (fun hc2 => ?_) (fun hc2 => ?_)
 ·replace hc2 := dcT hc2
  refine Qu (Qe (QB (Qe (Qc ?_))))
  refine Rr (Zg underlying144 sizeOf149 hb rfl rfl omg) ?_
  refine Rr (o_ldRS isAgg149 sizeOf149 hb rfl (getE mez (by omega))) ?_
  refine Rg_alst rfl rfl zeroValue149 rfl sizeOf149 (fun _ => rfl) rfl rfl ?_
  intro b9 w11 x12 hge9 hb9
  have hlt9 := hb9.lt
  change Box _ _ _ (encMe _) at hb9
  have z13 := x12.size
  replace hX := hX.ex x12
  replace hXL7 := Bel.ex hXL7 x12
  replace hq7 := hq7.ext x12
  replace hb7 := hb7.ext x12
  refine Qd (Qe (Qc ?_))
  refine Rr (Qx underlying149 rfl sizeOf3 rfl) ?_
  refine Rr (Qn isAgg3 rfl (hb9.at.get 0 rfl)) ?_
  refine Rr (mvI rfl) ?_
  refine Rr (Q0 rfl rfl) ?_
  refine Rr (mvB rfl) ?_
  refine Qq 4 26 rfl rfl rfl (fun hg => (QO isAgg149 sizeOf149 rfl hb9.at rfl)) ?_
  refine Qq 4 26 rfl rfl rfl (fun hg => (mvI rfl)) ?_
  refine Rg_mayCall 4 26 rfl rfl rfl (fun hg => ⟨(QM call114 (QE (u := undef) hg) (QE (u := undef) hg)), mactive_ok (L.getD k mez) d _⟩) ?_
  intro w14 x15
  have z16 := x15.size
  replace hX := hX.ex x15
  replace hXL7 := Bel.ex hXL7 x15
  replace hq7 := hq7.ext x15
  replace hb7 := hb7.ext x15
  replace hb9 := hb9.ext x15
  refine Rr (o_and (u := undef) rfl rfl) ?_
  refine Qd ?_
  refine QD rfl (fun hc3 => ?_) (fun hc3 => ?_)
  ·have hon : (L.getD k mez).u = u ∧ actN (L.getD k mez) d = true := by simpa using hc3
   refine Qc ?_
   refine Rr (QO isAgg45 sizeOf45 rfl hb7.at rfl) ?_
   refine Rr (Qx underlying149 rfl sizeOf3 rfl) ?_
   refine Rr (Qn isAgg3 rfl (hb9.at.get 1 rfl)) ?_
   refine Qo rfl (QM call115 rfl rfl) (Ok.mono (bwithM_ok _ ⟨_, _, _⟩ _ hq7 _ (hm.rg _ (gm (z := mez) (show k < L.length by omega))).2.1.1 (hm.rg _ (gm (z := mez) (show k < L.length by omega))).2.1.2) ?_)
   rintro _ w17 ⟨a34, c34, rfl, hq34, x18⟩
   have z19 := x18.size
   replace hX := hX.ex x18
   replace hXL7 := Bel.ex hXL7 x18
   replace hb7 := hb7.ext x18
   refine QX (v := .agg _) rfl sizeOf45 rfl rfl hb7 rfl rfl rfl ?_
   intro w20 c21 hb7
   change Box _ _ _ (encSV _) at hb7
   have z22 := Bel.size c21
   replace hX := Bel.out hX c21 om2
   replace hXL7 := Bel.out hXL7 c21 om2
   replace hq34 := hq34.keep c21 om3
   refine Qd (Qc ?_)
   refine Rr (Q6 rfl rfl omg) ?_
   refine Rr (mvI rfl) ?_
   refine Qd ?_
   refine ⟨(k + 1, a34, c34), ⟨sT, trivial⟩, oT, ⟨?_, hXL7, ?_⟩, ?_⟩
   ·show k + 1 ≤ L.length; omega
   ·exact ⟨by show Box _ _ _ (encSV ⟨_, _, onW (L.take (k + 1)) u d⟩); rw [onW_yes (by omega) hon]; exact hb7, by show Sl _ _ _ _ _ _ (wl (onW (L.take (k + 1)) u d)); rw [onW_yes (by omega) hon]; exact hq34.mono (fun g h1 h2 => by omega)⟩
   ·show L.length - (k + 1) < L.length - k; omega
  have hon : ¬ ((L.getD k mez).u = u ∧ actN (L.getD k mez) d = true) := by simpa using hc3
  refine Qu (Qc ?_)
  refine Rr (Q6 rfl rfl omg) ?_
  refine Rr (mvI rfl) ?_
  refine Qd ?_
  refine ⟨(k + 1, ea, ec), ⟨sT, trivial⟩, oT, ⟨?_, hXL7, ?_⟩, ?_⟩
  ·show k + 1 ≤ L.length; omega
  ·exact ⟨by show Box _ _ _ (encSV ⟨_, _, onW (L.take (k + 1)) u d⟩); rw [onW_no (by omega) hon]; exact hb7, by show Sl _ _ _ _ _ _ (wl (onW (L.take (k + 1)) u d)); rw [onW_no (by omega) hon]; exact hq7⟩
  ·show L.length - (k + 1) < L.length - k; omega
 replace hc2 := dcF hc2
 refine QS (QL (Qe (Qc ?_)))
 refine Rr (QO isAgg45 sizeOf45 rfl hb7.at rfl) ?_
 refine QX (v := .agg _) rfl sizeOf45 rfl rfl hb6 rfl rfl rfl ?_
 intro w23 c24 hb6
 change Box _ _ _ (encSV _) at hb6
 have z25 := Bel.size c24
 replace hX := Bel.out hX c24 om2
 replace hq7 := hq7.keep c24 om3
 refine Qd (Qy ?_)
 refine ⟨_, res_1 (v := .agg _) rfl (rv_cellS isAgg45 sizeOf45 rfl hb6.at rfl), ?_⟩
 rw [List.take_of_length_le (by omega)] at hq7 ⊢
 exact ⟨_, _, rfl, hq7.mono (fun g h1 h2 => ⟨by omega, by omega⟩), hX⟩

