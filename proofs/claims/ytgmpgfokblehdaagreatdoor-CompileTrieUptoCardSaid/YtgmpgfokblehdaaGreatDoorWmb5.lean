/- Walks: what functions return. -/
import Derived.Test.YtgmpgfokblehdaaGreatDoorSe
import Derived.Test.YtgmpgfokblehdaaGreatDoorWnew
set_option linter.unusedVariables false
set_option linter.unusedSimpArgs false
set_option linter.unnecessarySimpa false
namespace Go.Proofs.YtgmpgfokblehdaaGreatDoor
open Go Go.Lx Go.RowKit Tryz
set_option maxRecDepth 100000
theorem Yi : ElT Tryz.prog 133 136 3 24 (.agg #[.int .i64 0, .int .i64 0, .int .i64 0]) := ⟨underlying133, ⟨Tryz.t136, by kernel_rfl, rfl, rfl, rfl⟩, rfl, by decide, by decide⟩
theorem YP (w : World) (vl : Value) (l : List Men) (hl : Rd encMe 3 (Lt w.heap.size) w vl l) (nl : l.length ≤ 100000) : Ok Tryz.prog 58 #[vl] w fun v w' => Own encMe 3 136 (Fsh w w') w' v (l) ∧ Ext False w w' := by
 obtain ⟨al, cl, rfl, hl⟩ := hl; have ml := hl.len
 refine Qv 8 func58 rfl rfl rfl ?_
 have hX := xRf w
 refine Qf (Qb (Rr Qj (Qc (Qf (Qf (Qb (Rr (mvS rfl) (Rr (o_lnil underlying133 rfl) (Qc (Qw rfl (fun hc1 => ?_) (fun hc1 => ?_)))))))))))
 ·have hnl := Vb hl hc1; subst hnl
  exact Qf (Qb (Rr Qj (Qc (Qu ⟨_, Qr rfl rfl, ⟨Own.nil _ _, hX⟩⟩))))
 refine Qp (Qf (Qb (ZP (vs := []) (([] : List Men)) rfl Zq Yi rfl rfl trivial rfl rfl rfl rfl ?_)))
 intro a5 w1 x2 hown5
 have z3 := x2.size
 replace hX := hX.ex x2
 replace hl := hl.ext x2
 replace hown5 := hown5.mono (D' := fun g => w.heap.size ≤ g) (fun g h1 h2 => by omega)
 refine Rr (mvS rfl) ?_
 refine ZZ rfl Zq Yi rfl rfl hown5 hl rfl (by simp; omega) omU ?_
 intro v7 w4 x5 hown5
 replace hX := Bel.out hX x5 om2
 refine Rr (QL (v := v7) rfl) (Qc (Qu ⟨_, Qr rfl rfl, ?_⟩))
 rw [List.nil_append] at hown5; exact ⟨hown5.mono (fun g h1 h2 => by omega), hX⟩
theorem menover {D F : Nat → Prop} {b : Option Addr} {g off m cb c la ca n : Nat} {xs l : List Men} (w : World) (hx : Own encMe 3 136 F w (.slice b n cb) xs) (hne : xs ≠ []) (ho : Own encMe 3 136 D w (.slice (some ⟨g, 0, none⟩) m c) l) (hc : 0 < c) (hd : ∀ q, F q → D q → False) :
  (callFunc 127 #[.slice b n cb, .slice (some ⟨g, off, none⟩) la ca]).run Tryz.prog w = .ok (.value (.bool false)) w := by
 rw [run_callFunc_extern func127 (by kernel_rfl) (by kernel_rfl) (by kernel_rfl) (e := Extern.SlicesOverlaps.overlaps #[133, 133] #[4]) (by kernel_rfl), YQ underlying133 sizeOf136 hx hne ho (by decide) hc hd]
 rfl
theorem menins_ok (a : Option Addr) (c : Nat) (D F : Nat → Prop) (l : List Men) (i : Nat) (b : Option Addr) (cb : Nat) (x : Men) (w : World) (ho : Own encMe 3 136 D w (.slice a l.length c) l) (hx : Own encMe 3 136 F w (.slice b 1 cb) [x]) (hi : i ≤ l.length) (hl : l.length ≤ 100000) (hDF : ∀ q, F q → D q → False) : Ok Tryz.prog 60 #[.slice a l.length c, .int .i64 (i : Int), .slice b 1 cb] w fun v w' => Own encMe 3 136 (fun g => D g ∨ Fsh w w' g) w' v (l.take i ++ [x] ++ l.drop i) ∧ Bel False D w w' := by
 replace ho := ho.mono (D' := fun g => D g ∧ g < w.heap.size) (fun g h1 h2 => ⟨h2, h1⟩)
 replace hx := hx.mono (D' := fun g => F g ∧ g < w.heap.size) (fun g h1 h2 => ⟨h2, h1⟩)
 have hlc := ho.capOf.1
 have hcm := (ho.slA Zq).cap
 have hcm2 : c ≤ 140737488355328 * 65536 := by unfold maxLen at hcm; omega
 obtain ⟨n0, hn0⟩ : ∃ n, n = w.heap.size := ⟨_, rfl⟩
 refine Qv 95 func60 rfl rfl rfl ?_
 have hX : Bel False (fun g => D g ∨ w.heap.size ≤ g) w w := Bel.refl _ _
 refine Qf (Qb (Rr Qj (Qc (Qf (Qb (Rr (mvS rfl) (Rr (mvI rfl) (Rr (Zr (j := i) underlying133 sizeOf136 rfl rfl (by omega) (by omega)) (Qc (Qf (Qb (Rr (mvS rfl) (Rr (QC underlying133 rfl) (Rr (asI rfl) (Qc (Qf (Qf (Qb (Rr (mvI rfl) (Rr (Zu rfl rfl) (Qc (Qq rfl (Qp (Qf (Qb (Rr (mvS rfl) (Rr (QC underlying133 rfl) (Rr (asI rfl) (Qc (Qf (Qf (Qb (Rr (mvI rfl) (Rr (mvI rfl) (Rr (Zu rfl rfl) (Qc (Qw rfl (fun hc2 => ?_) (fun hc2 => ?_))))))))))))))))))))))))))))))))))))))
 ·have hil : i = l.length := by have := eq_of_beq hc2; omega
  refine Qf (Qb (Rr (mvS rfl) (Rr (mvS rfl) ?_)))
  refine ZZ rfl Zq Yi rfl rfl (ho.mono (D' := fun g => D g ∨ w.heap.size ≤ g) (fun g _ h => Or.inl h.1)) (hx.slA Zq) rfl (by simp; omega) (fun g h => Or.inr (by omega)) ?_
  intro v25 w1 x2 hown25
  replace hX := Bel.out hX x2 (fun g h1 h2 => by first | exact h2 | exact Or.inl h2.1 | exact Or.inl h2 | omega)
  refine Rr (QL (v := v25) rfl) (Qc (Qu ⟨_, Qr rfl rfl, ⟨?_, hX.mono (fun g h1 h2 => h2.elim id (fun h => by omega))⟩⟩))
  have e : (l.take i ++ [x] ++ l.drop i) = l ++ [x] := by rw [hil]; simp
  rw [e]
  exact hown25.mono (fun g h1 h2 => h2.elim Or.inl (fun h => Or.inr ⟨h, h1⟩))
 have hil : i < l.length := by
  have : ¬ (i : Int) = (l.length : Int) := by simpa using hc2
  omega
 refine Qp (Qf (Qf (Qb (Rr (mvI rfl) (Rr (mvI rfl) (Rr (ZB (p := l.length) (b := 1) rfl rfl (by omega)) (Rr (mvS rfl) (Rr (o_cap underlying133 rfl) (Rr (ZM rfl rfl) (Qc (Qw rfl (fun hc3 => ?_) (fun hc3 => ?_))))))))))))
 ·replace hc3 := dcT hc3
  refine Qf (Qb (Rr (mvS rfl) (Rr (mvI rfl) (Rr (Jm (j := i) underlying133 sizeOf136 rfl rfl (by omega)) (Rr (mvI rfl) (Rr (mvI rfl) (Rr (ZB (p := l.length) (b := 1) rfl rfl (by omega)) (Rr (mvI rfl) (Rr (Ya (p := l.length + 1) (b := i) rfl rfl (by omega) (by omega)) (Rg_appz (i := i) (q := l.length + 1 - i) mez rfl Zq Yi rfl underlying3 rfl rfl (ho.cut Zq hi) (by omega) (by omega) (by omega) ?_))))))))))
  intro g40 c40 w4 x5 hge40 hown40
  replace hX := hX.ex x5
  replace ho := ho.ext x5
  replace hx := hx.ext x5
  refine Rr (asS rfl) (Qc (Qf (Qb (Rr (mvS rfl) (Rr (mvI rfl) ?_)))))
  refine Rr (Zr (j := i) underlying133 sizeOf136 rfl rfl (by omega) (by have := hown40.capOf.1; omega)) ?_
  refine Rr (mvS rfl) ?_
  refine Jn (o := i) (m2 := i + (l.length + 1 - i)) ([x]) rfl Zq Yi rfl rfl hown40 (hx.slA Zq) (by simp; omega) (by simp; omega) (by have h := hown40.capOf.1; simp; omega) (by simp; omega) ?_
  intro w7 x8 hown40
  replace hX := Bel.out hX x8 (fun g h1 h2 => by first | exact h2 | exact Or.inl h2.1 | exact Or.inl h2 | omega)
  replace ho := ho.keepD x8 om3
  refine Qc (Qf ?_)
  apply Zl (β := False) (fun _ => 0) [peqC _, peqC _, peqC _, peqC _, peqC _, peqC _, peqC _, peqC _] [0, 0, 0, 0, 0, 0, 0, 0] 8 QV (by kernel_rfl) (by kernel_rfl) rfl ⟨Qk _ _, Qk _ _, Qk _ _, Qk _ _, Qk _ _, Qk _ _, Qk _ _, Qk _ _, trivial⟩ ?ob11 ?fin11
  case ob11 =>
   refine Ql (fun w10 c12 x11 hc013 hk14 => Qi (Qx rfl (mvS rfl))) (Ql (fun w16 c18 x17 hc019 hk20 => Qi (Qx rfl (mvI rfl))) (Ql (fun w22 c24 x23 hc025 hk26 => Qi (Qx rfl (mvI rfl))) (Ql (fun w28 c30 x29 hc031 hk32 => Qh (Qh (Qi (Qx rfl (ZB (p := i) (b := 1) rfl rfl (by omega)))))) (Ql (fun w34 c36 x35 hc037 hk38 => ?_) ?_))))
   ·replace x35 := RelG.ext0 x35
    have hown40 := hown40.ext x35
    refine Qh (Qh (Qi ?_))
    exact Qx rfl (Zr (j := i + 1) underlying133 sizeOf136 rfl rfl (by omega) (by have := hown40.capOf.1; omega))
   exact Ql (fun w40 c42 x41 hc043 hk44 => Qi (Qx rfl (mvS rfl))) (Ql (fun w46 c48 x47 hc049 hk50 => Qi (Qx rfl (mvI rfl))) (Ql (fun w52 c54 x53 hc055 hk56 => Qh (Qh (Qi (Qx rfl (Zr (j := i) underlying133 sizeOf136 rfl rfl (by omega) (by omega)))))) Q8))
  case fin11 =>
   intro w58 c60 x59 hc061
   replace x59 := RelG.ext0 x59
   replace hX := hX.ex x59
   replace ho := ho.ext x59
   replace hown40 := hown40.ext x59
   refine Qh (Qh (Qh (Qh (Qh (Qh (Qh (Qh (Qi ?_))))))))
   refine Jn (o := i + 1) (m2 := i + (l.length + 1 - i)) (l.drop i) rfl Zq Yi rfl rfl hown40 ((ho.slA Zq).drop hi) (by simp; omega) (by rw [ZL (by simp; omega)]; simp; omega) (by have h := hown40.capOf.1; simp; omega) (by rw [ZL (by simp; omega)]; simp; omega) ?_
   intro w63 x64 hown40
   replace hX := Bel.out hX x64 (fun g h1 h2 => by first | exact h2 | exact Or.inl h2.1 | exact Or.inl h2 | omega)
   refine Qc (Qf (Qb (Rr (mvS rfl) (Rr (asS rfl) (Qc (Qu ⟨_, Qr rfl rfl, ⟨?_, hX.mono (fun g h1 h2 => h2.elim id (fun h => by omega))⟩⟩))))))
   rw [ins_grow hi rfl] at hown40
   exact hown40.mono (fun g h1 h2 => Or.inr ⟨by omega, h1⟩)
 replace hc3 := dcF hc3
 refine Qp (Qf (Qb (Rr (mvS rfl) (Rr (mvI rfl) (Rr (mvI rfl) (Rr (ZB (p := l.length) (b := 1) rfl rfl (by omega)) (Rr (Jm (j := l.length + 1) underlying133 sizeOf136 rfl rfl (by omega)) (Rr (asS rfl) (Qc (Qf (Qf (Qb ?_))))))))))))
 obtain ⟨ga, rfl⟩ : ∃ g, a = some ⟨g, 0, none⟩ := by
  obtain ⟨g, c2, hv⟩ := ho.sm (by intro e; rw [e] at hil; simp at hil)
  simp only [Value.slice.injEq] at hv
  exact ⟨g, hv.1⟩
 refine Rr (mvS rfl) (Rr (mvS rfl) (Rr (mvI rfl) (Rr (mvI rfl) (Rr (ZB (p := i) (b := 1) rfl rfl (by omega)) (Rr (o_sfromG (j := i + 1) underlying133 sizeOf136 rfl rfl (by omega) (by omega)) (Rr (o_ext2 rfl rfl (menover _ hx (by simp) ho (by omega) (fun q h1 h2 => hDF q h1.1 h2.1))) (Rr (Zp rfl) (Qc (Za rfl (Qf ?_))))))))))
 apply Zl (β := False) (fun _ => 0) [peqC _, peqC _, peqC _, peqC _, peqC _, peqC _, peqC _, peqC _] [0, 0, 0, 0, 0, 0, 0, 0] 8 QV (by kernel_rfl) (by kernel_rfl) rfl ⟨Qk _ _, Qk _ _, Qk _ _, Qk _ _, Qk _ _, Qk _ _, Qk _ _, Qk _ _, trivial⟩ ?ob15 ?fin15
 case ob15 =>
  exact Ql (fun w66 c68 x67 hc069 hk70 => Qi (Qx rfl (mvS rfl))) (Ql (fun w72 c74 x73 hc075 hk76 => Qi (Qx rfl (mvI rfl))) (Ql (fun w78 c80 x79 hc081 hk82 => Qi (Qx rfl (mvI rfl))) (Ql (fun w84 c86 x85 hc087 hk88 => Qh (Qh (Qi (Qx rfl (ZB (p := i) (b := 1) rfl rfl (by omega)))))) (Ql (fun w90 c92 x91 hc093 hk94 => Qh (Qh (Qi (Qx rfl (Zr (j := i + 1) underlying133 sizeOf136 rfl rfl (by omega) (by omega)))))) (Ql (fun w96 c98 x97 hc099 hk100 => Qi (Qx rfl (mvS rfl))) (Ql (fun w102 c104 x103 hc0105 hk106 => Qi (Qx rfl (mvI rfl))) (Ql (fun w108 c110 x109 hc0111 hk112 => Qh (Qh (Qi (Qx rfl (Zr (j := i) underlying133 sizeOf136 rfl rfl (by omega) (by omega)))))) Q8)))))))
 case fin15 =>
  intro w114 c116 x115 hc0117
  replace x115 := RelG.ext0 x115
  replace hX := hX.ex x115
  replace ho := ho.ext x115
  replace hx := hx.ext x115
  refine Qh (Qh (Qh (Qh (Qh (Qh (Qh (Qh (Qi ?_))))))))
  refine Jn (o := i + 1) (m2 := l.length + 1) (l.drop i) rfl Zq Yi rfl rfl ho ((ho.slA Zq).drop hi) (by simp; omega) (by omega) (by simp; omega) (by simp; omega) ?_
  intro w119 x120 ho
  replace hX := Bel.out hX x120 (fun g h1 h2 => by first | exact h2 | exact Or.inl h2.1 | exact Or.inl h2 | omega)
  replace hx := hx.keepD x120 (fun g h1 h2 h3 => by first | (exact hDF g h2.1 h3.1) | omega)
  refine Qc (Qf (Qb (Rr (mvS rfl) (Rr (mvI rfl) (Rr (Zr (j := i) underlying133 sizeOf136 rfl rfl (by omega) (by omega)) (Rr (mvS rfl) ?_))))))
  refine Jn (o := i) (m2 := l.length + 1) ([x]) rfl Zq Yi rfl rfl ho (hx.slA Zq) (by simp; omega) (by rw [ZL (by omega)]; simp; omega) (by simp; omega) (by rw [ZL (by omega)]; simp; omega) ?_
  intro w122 x123 ho
  replace hX := Bel.out hX x123 (fun g h1 h2 => by first | exact h2 | exact Or.inl h2.1 | exact Or.inl h2 | omega)
  refine Qc (Qf (Qb (Rr (mvS rfl) (Rr (asS rfl) (Qc (Qu ⟨_, Qr rfl rfl, ⟨?_, hX.mono (fun g h1 h2 => h2.elim id (fun h => by omega))⟩⟩))))))
  rw [ins_place hil] at ho
  exact ho.mono (fun g h1 h2 => Or.inl h2.1)
theorem meninsV_ok (D F : Nat → Prop) (l : List Men) (i : Nat) (v0 : Value) (b : Option Addr) (cb : Nat) (x : Men) (w : World) (ho : Own encMe 3 136 D w v0 l) (hx : Own encMe 3 136 F w (.slice b 1 cb) [x]) (hi : i ≤ l.length) (hl : l.length ≤ 100000) (hDF : ∀ q, F q → D q → False) :
  Ok Tryz.prog 60 #[v0, .int .i64 (i : Int), .slice b 1 cb] w fun v w' => Own encMe 3 136 (fun g => D g ∨ Fsh w w' g) w' v (l.take i ++ [x] ++ l.drop i) ∧ Bel False D w w' := by
 obtain ⟨a, c, rfl, -⟩ := ho.sl Zq
 exact menins_ok a c D F l i b cb x w ho hx hi hl hDF
theorem mendel_ok (a : Option Addr) (c : Nat) (D : Nat → Prop) (l : List Men) (i : Nat) (w : World) (ho : Own encMe 3 136 D w (.slice a l.length c) l) (hi : i < l.length) (hl : l.length ≤ 100000) : Ok Tryz.prog 68 #[.slice a l.length c, .int .i64 (i : Int), .int .i64 ((i + 1 : Nat) : Int)] w fun v w' => Own encMe 3 136 D w' v (l.take i ++ l.drop (i + 1)) ∧ Bel True D w w' := by
 have hlc := ho.capOf.1
 have hne : l ≠ [] := by rintro rfl; simp at hi
 have hcm := (ho.slA Zq).cap
 have hcm2 : c ≤ 140737488355328 * 65536 := by unfold maxLen at hcm; omega
 refine Qv 33 func68 rfl rfl rfl ?_
 have hX : Bel True (D) w w := Bel.refl _ _
 refine Qf (Qb (Rr Qj (Qc (Qf (Qb (Rr (mvS rfl) (Rr (mvI rfl) (Rr (mvI rfl) (Rr (mvS rfl) (Rr (QC underlying133 rfl) (Rg_sl3L rfl underlying133 sizeOf136 rfl rfl rfl rfl (by omega) (by omega) (by omega) (fun v13 => Qc (Qf (Qf (Qb (Rr (mvI rfl) (Rr (mvI rfl) (Rr (Zu rfl rfl) (Qc (Qq (cvB (neF (by omega))) (Qp (Qf (Qb (Rr (mvS rfl) (Rr (QC underlying133 rfl) (Rr (asI rfl) (Qc (Qf ?_))))))))))))))))))))))))))))
 apply Zl (β := True) (fun _ => 0) [peqC _, peqC _, peqC _, peqC _, peqC _, peqC _] [0, 0, 0, 0, 0, 0] 6 QV (by kernel_rfl) (by kernel_rfl) rfl ⟨Qk _ _, Qk _ _, Qk _ _, Qk _ _, Qk _ _, Qk _ _, trivial⟩ ?ob5 ?fin5
 case ob5 =>
  exact Ql (fun w1 c3 x2 hc04 hk5 => Qi (Qx rfl (mvS rfl))) (Ql (fun w7 c9 x8 hc010 hk11 => Qi (Qx rfl (mvI rfl))) (Ql (fun w13 c15 x14 hc016 hk17 => Qh (Qh (Qi (Qx rfl (Jm (j := i) underlying133 sizeOf136 rfl rfl (by omega)))))) (Ql (fun w19 c21 x20 hc022 hk23 => Qi (Qx rfl (mvS rfl))) (Ql (fun w25 c27 x26 hc028 hk29 => Qi (Qx rfl (mvI rfl))) (Ql (fun w31 c33 x32 hc034 hk35 => Qh (Qh (Qi (Qx rfl (Zr (j := i + 1) underlying133 sizeOf136 rfl rfl (by omega) (by omega)))))) Q8)))))
 case fin5 =>
  intro w37 c39 x38 hc040
  replace x38 := RelG.ext0 x38
  replace hX := hX.ex x38
  replace ho := ho.ext x38
  refine Qh (Qh (Qh (Qh (Qh (Qh (Qi ?_))))))
  refine Rg_appfit (i := i) (m2 := l.length) (l.drop (i + 1)) rfl Zq Yi rfl rfl (by simp) ho ((ho.slA Zq).drop (j := i + 1) hi) hne (by omega) (by simp; omega) (by simp; omega) ?_
  intro w42 x43 ho
  replace hX := Bel.out hX x43 om2
  refine Rr (asS rfl) (Qc (Qf (Qb (Rr (mvS rfl) (Rr (mvS rfl) (Rr (QC underlying133 rfl) (Rr (mvI rfl) (Rr (o_slmid (j := i + (l.length - (i + 1))) (h := l.length) underlying133 sizeOf136 rfl rfl rfl (by omega) (by omega) (by omega)) ?_))))))))
  refine Vc mez Zq Yi rfl rfl ho (by rw [ZL (by omega)]; simp; omega) (by rw [ZL (by omega)]; simp; omega) ?_
  intro w45 x46 ho
  replace hX := Bel.out hX x46 om2
  refine Qc (Qf (Qb (Rr (mvS rfl) (Rr (asS rfl) (Qc (Qu ⟨_, Qr rfl rfl, ⟨?_, hX⟩⟩))))))
  have e1 : i + (l.length - (i + 1)) = l.length - 1 := by omega
  rw [e1, del_place hi] at ho
  have h := ho.cut Zq (j := l.length - 1) (by simp; omega)
  rw [List.take_left' (by simp; omega)] at h
  rw [e1]
  exact h
theorem mendelV_ok (D : Nat → Prop) (l : List Men) (i : Nat) (v0 : Value) (w : World) (ho : Own encMe 3 136 D w v0 l) (hi : i < l.length) (hl : l.length ≤ 100000) :
  Ok Tryz.prog 68 #[v0, .int .i64 (i : Int), .int .i64 ((i + 1 : Nat) : Int)] w fun v w' => Own encMe 3 136 D w' v (l.take i ++ l.drop (i + 1)) ∧ Bel True D w w' := by
 obtain ⟨a, c, rfl, -⟩ := ho.sl Zq
 exact mendel_ok a c D l i w ho hi hl
theorem mfind1_ok (x y : Men) (hx : x.rg) (hy : y.rg) (w : World) : Ok Tryz.prog 126 #[.agg (encMe x).toArray, .agg (encMe y).toArray] w fun v w' => v = .int .i64 (cmpN x y) ∧ Ext False w w' := by
 obtain ⟨hx1, hx2, hx3⟩ := hx
 obtain ⟨hy1, hy2, hy3⟩ := hy
 refine Qv 20 func126 rfl rfl rfl ?_
 have hX := xRf w
 refine Qf (Qb (QH rfl (QX (v := .agg _) rfl) ?_))
 intro b2 w1 x2 hge2 hb2
 replace hX := hX.ex x2
 refine QH rfl (QX (v := .agg _) rfl) ?_
 intro b3 w3 x4 hge3 hb3
 replace hX := hX.ex x4
 replace hb2 := hb2.ext x4
 refine Rr Qj (Qc (Qf (Qf (Qb (Rr (Qy underlying136 rfl sizeOf3 rfl) (Rr (Qm isAgg3 rfl (hb2.at.get 0 rfl)) (Rr (Qy underlying136 rfl sizeOf3 rfl) (Rr (Qm isAgg3 rfl (hb3.at.get 0 rfl)) (Rr (Zv rfl rfl) (Qc (Qw rfl (fun hc1 => ?_) (fun hc1 => ?_))))))))))))
 ·refine Qf (Qb (Rr (Qy underlying136 rfl sizeOf3 rfl) (Rr (Qm isAgg3 rfl (hb2.at.get 0 rfl)) (Rr (Qy underlying136 rfl sizeOf3 rfl) (Rr (Qm isAgg3 rfl (hb3.at.get 0 rfl)) ?_)))))
  refine Rr (Yh rfl rfl (by unfold I64; omega)) ?_
  refine Rr (asI rfl) (Qc (Qu ⟨_, Qr rfl rfl, ⟨congrArg (Value.int .i64) ?_, hX⟩⟩))
  all_goals (rw [cmpN, if_pos (by simpa using hc1)])
 refine Qp (Qf (Qb (Rr (Qy underlying136 rfl sizeOf3 rfl) (Rr (Qm isAgg3 rfl (hb2.at.get 1 rfl)) (Rr (Qy underlying136 rfl sizeOf3 rfl) (Rr (Qm isAgg3 rfl (hb3.at.get 1 rfl)) ?_))))))
 refine Rr (Yh rfl rfl (by unfold I64; omega)) ?_
 refine Rr (asI rfl) (Qc (Qu ⟨_, Qr rfl rfl, ⟨congrArg (Value.int .i64) ?_, hX⟩⟩))
 all_goals (rw [cmpN, if_neg (by simpa using hc1)])
theorem mbs_ok (a : Option Addr) (c : Nat) (G : Nat → Prop) (L : List Men) (y : Men) (w : World) (hs : Sl encMe 3 G w a c L) (hm : OkN L) (hy : y.rg) : Ok Tryz.prog 125 #[.slice a L.length c, .agg (encMe y).toArray, .func (.func 126) #[] #[]] w fun v w' => v = .tuple #[.int .i64 (fdN L y : Int), .bool (fnN L y)] ∧ Ext False w w' := by
 have hlen := hm.len
 replace hs := hs.mono (F' := fun g => g < w.heap.size) (fun g h1 h2 => h1)
 refine Qv 49 func125 rfl rfl rfl ?_
 have hX := xRf w
 refine Qf (Qb (QH rfl (QX (v := .agg _) rfl) ?_))
 intro b4 w1 x2 hge4 hb4
 replace hX := hX.ex x2
 replace hs := hs.ext x2
 refine Rr Qj (Rr Qj (Qc (Qf (Qb (Rr (mvS rfl) (Rr (QC underlying133 rfl) (Rr (asI rfl) (Qc (Qf (Qb (Rr (mvI rfl) (Rr Qj (Rr (asI rfl) (Qc (Qf (Qt (QU (α := Nat × Nat) [(9, 11), (15, 34)] (fun q => [(9, .int .i64 (q.1 : Int)), (10, .int .i64 (q.2 : Int))]) (fun q w' => (BsN L y q.1 q.2) ∧ Ext False w1 w') (fun q => q.2 - q.1) (0, L.length) ⟨rfl, rfl, trivial⟩ ⟨BsN.start _ _, Bel.refl _ _⟩ ?_)))))))))))))))))
 rintro ⟨i, j⟩ fb5 w4 ⟨hb, hXL3⟩
 dsimp only at *
 replace hX := hX.ex hXL3
 replace hs := hs.ext hXL3
 replace hb4 := hb4.ext hXL3
 have hb1 := hb.le
 have hb2 := hb.len
 refine Qf (Qf (Qb (Rr (mvI rfl) (Rr (mvI rfl) (Rr (QM rfl rfl) (Qc (Qw rfl (fun hc1 => ?_) (fun hc1 => ?_))))))))
 ·replace hc1 := dcT hc1
  have hij : i < j := by omega
  refine Qp (Qt (Qf (Qb (Rr (mvI rfl) (Rr (mvI rfl) (Rr (ZB (p := i) (b := j) rfl rfl (by omega)) (Rr (o_convV (n := i + j) underlying3 underlying187 rfl (by omega)) (Rr (o_shrU (a := BitVec.ofNat 64 (i + j)) (n := 1) rfl rfl (by decide)) (Rr (o_convU (n := ((i + j) / 2)) underlying187 underlying3 rfl (half_natN (by omega)) (by omega)) (Rr (asI rfl) (Qc (Qf ?_))))))))))))
  apply Q3 (β := False) [peq _, peq _, peq _, peq _, peq _, peq _, peq _, peq _] 8 QV (by kernel_rfl) rfl ⟨Qd _, Qd _, Qd _, Qd _, Qd _, Qd _, Qd _, Qd _, trivial⟩ ?ob5 ?fin5
  case ob5 =>
   refine Qg (fun _ _ => Qe (Qn rfl (QG (v := .func _ _ _) rfl))) (Qg (fun _ _ => Qe (Qn rfl (mvS rfl))) (Qg (fun _ _ => Qe (Qn rfl (mvI rfl))) (Qg (fun w12 x13 => ?_) ?_)))
   ·have hs := hs.ext x13
    exact Qa (Qa (Qe (Qn rfl (QW underlying133 sizeOf136 hs rfl rfl omg))))
   refine Qg (fun w14 x15 => ?_) ?_
   ·have hs := hs.ext x15
    exact Qa (Qe (Qn rfl (QY isAgg136 sizeOf136 hs rfl (Ze mez (by omega)))))
   refine Qg (fun w16 x17 => ?_) ?_
   ·have hb4 := hb4.ext x17
    exact Qe (Qn rfl (QF isAgg136 sizeOf136 rfl hb4.at rfl))
   exact Qg (fun w18 x19 => Qa (Qa (Qa (Qe (Zj rfl (JR call126 rfl rfl rfl) (mfind1_ok (L.getD ((i + j) / 2) mez) y (hm.rg _ (gm (z := mez) (show ((i + j) / 2) < L.length by omega))) hy _)))))) (Qg (fun _ _ => Qa (Qe (Qn rfl (QM rfl rfl)))) QR)
  case fin5 =>
   intro w22 x23
   replace hXL3 := Bel.ex hXL3 x23
   refine Qa (Qa (Qa (Qa (Qa (Qa (Qa (Qa (Qe (Qc (Qw rfl (fun hc2 => ?_) (fun hc2 => ?_)))))))))))
   ·replace hc2 := dcT hc2
    refine Qb (Rr (mvI rfl) (Rr (QO rfl rfl omg) (Rr (asI rfl) (Qc ⟨(((i + j) / 2) + 1, j), ⟨sT, sT, trivial⟩, oT, ⟨(hb.loS hm.srt (by omega) (by omega) hc2), hXL3⟩, ?_⟩))))
    ·show j - (((i + j) / 2) + 1) < j - i; omega
   replace hc2 := dcF hc2
   refine Qb (Rr (mvI rfl) (Rr (asI rfl) (Qc ⟨(i, ((i + j) / 2)), ⟨sT, sT, trivial⟩, oT, ⟨(hb.hiS hm.srt (by omega) (by omega) hc2), hXL3⟩, ?_⟩)))
   ·show ((i + j) / 2) - i < j - i; omega
 replace hc1 := dcF hc1
 obtain rfl : i = j := by omega
 refine QN (QI (Qf ?_))
 apply Q3 (β := False) [peq _, peq _, peq _, peq _, peq _, peq _, peq _, peq _, peq _, peq _, peq _, peq _, peq _, peq _, peq _, peq _] 16 QV (by kernel_rfl) rfl ⟨Qd _, Qd _, Qd _, Qd _, Qd _, Qd _, Qd _, Qd _, Qd _, Qd _, Qd _, Qd _, Qd _, Qd _, Qd _, Qd _, trivial⟩ ?ob8 ?fin8
 case ob8 =>
  refine Qg (fun _ _ => Qe (Qn rfl (mvI rfl))) (Qg (fun _ _ => Qe (Qn rfl (mvI rfl))) (Qg (fun _ _ => Qe (Qn rfl (mvI rfl))) (Qg (fun _ _ => Qa (Qa (Qe (Qn rfl (QM rfl rfl))))) (Qg (fun _ _ => Qa (Qe (Qn rfl (mvB rfl)))) (Qg (fun _ _ => Qa (Qe (Zs 4 39 rfl rfl (fun hg => QG (v := .func _ _ _) rfl)))) (Qg (fun _ _ => Qa (Qe (Zs 4 39 rfl rfl (fun hg => mvS rfl)))) (Qg (fun _ _ => Qa (Qe (Zs 4 39 rfl rfl (fun hg => mvI rfl)))) (Qg (fun w40 x41 => ?_) ?_))))))))
  ·have hs := hs.ext x41
   exact Qa (Qa (Qa (Qe (Zs 4 39 rfl rfl (fun hg => QW underlying133 sizeOf136 hs (QK (u := undef) hg) (QK (u := undef) hg) omg)))))
  refine Qg (fun w42 x43 => ?_) ?_
  ·have hs := hs.ext x43
   exact Qa (Qa (Qe (Zs 4 39 rfl rfl (fun hg => QY isAgg136 sizeOf136 hs (QK (u := undef) hg) (Ze mez (by simpa using hg))))))
  refine Qg (fun w44 x45 => ?_) ?_
  ·have hb4 := hb4.ext x45
   exact Qa (Qe (Zs 4 39 rfl rfl (fun hg => QF isAgg136 sizeOf136 rfl hb4.at rfl)))
  refine Qg (fun w46 x47 => ?_) ?_
  ·refine Qa (Qa (Qa (Qa (Qa (Qe ?_)))))
   exact Yp 4 39 rfl rfl (fun hg => ⟨(JR call126 (QK (u := undef) hg) (QK (u := undef) hg) (QK (u := undef) hg)), mfind1_ok (L.getD i mez) y (by have hil : i < L.length := (by simpa using hg); exact (hm.rg _ (gm (z := mez) (show i < L.length by omega)))) hy _⟩)
  exact Qg (fun _ _ => Qa (Qa (Qe (Zs 4 39 rfl rfl (fun hg => Zu (QK (u := undef) hg) rfl))))) (Qg (fun _ _ => Qa (Qa (Qe (Qn rfl (Zt (u := undef) rfl rfl))))) (Qg (fun _ _ => Qa (Qa (Qa (Qe (Qn rfl (asI rfl)))))) (Qg (fun _ _ => Qa (Qa (Qa (Qa (Qa (Qa (Qa (Qa (Qa (Qa (Qa (Qa (Qa (Qa (Qa (Qa (Qa (Qe (Qn rfl (asB rfl)))))))))))))))))))) QR)))
 case fin8 =>
  intro w56 x57
  replace hX := hX.ex x57
  refine Qa (Qa (Qa (Qa (Qa (Qa (Qa (Qa (Qa (Qa (Qa (Qa (Qa (Qa (Qa (Qa (Qe (Qc (Qu ⟨_, QT rfl rfl rfl, ?_⟩))))))))))))))))))
  rw [hb.fin, hb.fn]
  exact ⟨rfl, hX⟩
theorem mfind_ok (v0 : Value) (L : List Men) (w : World) (hb0 : MbIs w v0 L) (hm : OkN L) (u r : Int) (hu : 0 ≤ u ∧ u ≤ 100000) (hr : 0 ≤ r ∧ r < 64) : Ok Tryz.prog 59 #[v0, .int .i64 u, .int .i64 r] w fun v w' => v = .tuple #[.int .i64 (fdN L ⟨u, r, 0⟩ : Int), .bool (fnN L ⟨u, r, 0⟩)] ∧ Ext False w w' := by
 obtain ⟨pb, ab, cb, rfl, hba, hb⟩ := hb0
 have hbl := hba.lt
 have hlen := hm.len
 refine Qv 18 func59 rfl rfl rfl ?_
 have hX := xRf w
 refine Qf (Qb (Rr Qj (Rr Qj (Qc (Qf (Qb (Rr (mvP rfl) (Rr (QJ rfl) (Rr (Qy underlying138 rfl sizeOf133 rfl) (Rr (Qm isAgg133 rfl (hba.get 0 rfl)) (Rr (mvI rfl) (Rr (mvI rfl) (Rr (Q2 (cells := encMe ⟨u, r, 0⟩) (vs := [(0, .int _ _), (1, .int _ _)]) rfl (by kernel_rfl)) ?_)))))))))))))
 refine Qo rfl (Zg call125 rfl rfl rfl) (Ok.mono (mbs_ok _ _ _ L ⟨u, r, 0⟩ _ hb hm ⟨hu, hr, ⟨by show (0 : Int) ≤ 0; decide, by show (0 : Int) ≤ 100000; decide⟩⟩) ?_)
 rintro _ w1 ⟨rfl, x2⟩
 replace hX := hX.ex x2
 exact Rr (QE rfl rfl) (Rr (QE rfl rfl) (Rr (asI rfl) (Rr (asB rfl) (Qc (Qu ⟨_, QT rfl rfl rfl, ⟨rfl, hX⟩⟩)))))
theorem mbnew_ok (w : World) : Ok Tryz.prog 37 #[] w fun v w' => MbF (Fsh w w') w' v [] ∧ Ext False w w' := by
 refine Qv 3 func37 rfl rfl rfl ?_
 have hX := xRf w
 refine Qf (Qb (Rr Qj (Qc (Qf (Qb (Rr (Q2 (cells := [.slice none 0 0]) (vs := []) rfl (by kernel_rfl)) (QH rfl (QX (v := .agg _) rfl) ?_)))))))
 intro b2 w1 x2 hge2 hb2
 replace hX := hX.ex x2
 refine Rr (asP rfl) (Qc (Qu ⟨_, Qr rfl rfl, ?_⟩))
 change Box _ _ _ [.slice none 0 0] at hb2
 exact ⟨mbF_new (L := []) (e := 136) (D := fun _ => False) hb2 (by exact ⟨by omega, hb2.lt⟩) rfl (Own.nil _ _) (fun g h1 h2 => h2.elim), hX⟩
theorem massign_ok (v0 : Value) (L : List Men) (w : World) (hb0 : MbIs w v0 L) (hm : OkN L) (u r t : Int) (hu : 1 ≤ u ∧ u ≤ 256) (hr : 1 ≤ r ∧ r ≤ 63) (ht : 0 ≤ t ∧ t ≤ 30000) (hnf : fnN L ⟨u, r, 0⟩ = false) : Ok Tryz.prog 19 #[v0, .int .i64 u, .int .i64 r, .int .i64 t] w fun v w' => (∃ p, v = .tuple #[p, .int .i64 0] ∧ MbF (Fsh w w') w' p (insN L ⟨u, r, t⟩)) ∧ Ext False w w' := by
 obtain ⟨pb, ab, cb, rfl, hba, hb⟩ := hb0
 have hbl := hba.lt
 have hlen := hm.len
 refine Qv 68 func19 rfl rfl rfl ?_
 have hX := xRf w
 refine Qf (Qb (Rr Qj (Rr Qj (Qc (Qf (Qt (Qf (Qb (Rr (mvP rfl) (Rr (Zi underlying34 rfl rfl) (Rr (mvB rfl) (QA 2 16 rfl rfl (Rr (mvI rfl) (QA 2 16 rfl rfl (Rr (QM rfl rfl) (Rr (Q0 (v := .bool _) rfl rfl) (Rr (mvB rfl) (Qs 6 20 rfl rfl rfl (fun hg => mvI rfl) (Qs 6 20 rfl rfl rfl (fun hg => ZM (QK (u := undef) hg) rfl) (Rr (ZS (u := undef) rfl rfl) (Rr (mvB rfl) (Qs 10 24 rfl rfl rfl (fun hg => mvI rfl) (Qs 10 24 rfl rfl rfl (fun hg => QM (QK (u := undef) hg) rfl) (Rr (ZS (u := undef) rfl rfl) (Rr (mvB rfl) (Qs 14 28 rfl rfl rfl (fun hg => mvI rfl) (Qs 14 28 rfl rfl rfl (fun hg => ZM (QK (u := undef) hg) rfl) (Rr (ZS (u := undef) rfl rfl) (Rr (asB rfl) (Qc ?_))))))))))))))))))))))))))))))
 refine Qq (cvB (by simp; omega)) ?_
 refine Qf (Qb (Rr (mvI rfl) (Rr (QM rfl rfl) (Rr (mvB rfl) (Qs 2 35 rfl rfl rfl (fun hg => mvI rfl) (Qs 2 35 rfl rfl rfl (fun hg => ZM (QK (u := undef) hg) rfl) (Rr (ZS (u := undef) rfl rfl) (Rr (asB rfl) (Qc ?_)))))))))
 refine Qq (cvB (by simp; omega)) ?_
 refine Qp (Qf (Qb (Rr (mvP rfl) (Rr (QJ rfl) (Rr (Qy underlying138 rfl sizeOf133 rfl) (Rr (Qm isAgg133 rfl (hba.get 0 rfl)) (Qo rfl (QD call58 rfl) (Ok.mono (YP _ _ L hb.trd (by omega)) ?_))))))))
 rintro v43 w1 ⟨hown43, x2⟩
 have z3 := x2.size
 replace hX := hX.ex x2
 replace hb := hb.ext x2
 replace hba := hba.ext x2
 refine Rr (QL (v := v43) rfl) (Qc (Qf (Qb (Rr (mvP rfl) (Rr (mvI rfl) (Rr (mvI rfl) (Qo rfl (Zg call59 rfl rfl rfl) (Ok.mono (mfind_ok _ L _ ⟨pb, ab, cb, rfl, hba, hb.mono (fun g h1 h2 => h1)⟩ hm u r ⟨by omega, by omega⟩ ⟨by omega, by omega⟩) ?_))))))))
 rintro _ w4 ⟨rfl, x5⟩
 have z6 := x5.size
 replace hX := hX.ex x5
 replace hown43 := hown43.ext x5
 refine Rr (QG (v := .tuple _) rfl) (Rr (QE rfl rfl) (Rr (QE rfl rfl) (Rr (asI rfl) (Rr (asB rfl) (Qc (Qf (Qf (Qb (Rr (mvB rfl) (Qc (Qq (cvB hnf) (Qb (Rr (QG (v := v43) rfl) (Rr (mvI rfl) (Rr (mvI rfl) (Rr (mvI rfl) (Rr (mvI rfl) (Rr (Q2 (cells := encMe ⟨u, r, t⟩) (vs := [(0, .int _ _), (1, .int _ _), (2, .int _ _)]) rfl (by kernel_rfl)) (ZP (vs := [.agg _]) (([⟨u, r, t⟩] : List Men)) rfl Zq Yi rfl rfl ⟨rfl, trivial⟩ rfl rfl rfl rfl ?_)))))))))))))))))))
 intro a63 w7 x8 hown63
 have z9 := x8.size
 replace hX := hX.ex x8
 replace hown43 := hown43.ext x8
 refine Qo rfl (Zg call60 rfl rfl rfl) (Ok.mono (meninsV_ok _ _ L (fdN L ⟨u, r, 0⟩) _ _ _ ⟨u, r, t⟩ _ hown43 hown63 (fdN_le _ _) (by omega) (fun q h1 h2 => by omega)) ?_)
 rintro v64 w10 ⟨hown64, x11⟩
 have z12 := x11.size
 replace hX := Bel.out hX x11 om2
 refine Rr (QL (v := v64) rfl) (Qc (Qf (Qb ?_)))
 change Own _ _ _ _ _ _ (insN L ⟨u, r, t⟩) at hown64
 obtain ⟨a64, c64, hv64, -⟩ := hown64.sl Zq
 subst hv64
 refine Rr (QG (v := .slice a64 (insN L ⟨u, r, t⟩).length c64) rfl) (Rr (Q2 (cells := [.slice a64 (insN L ⟨u, r, t⟩).length c64]) (vs := [(0, .slice _ _ _)]) rfl (by kernel_rfl)) (QH rfl (QX (v := .agg _) rfl) ?_))
 intro b67 w13 x14 hge67 hb67
 have hlt67 := hb67.lt
 have z15 := x14.size
 replace hX := hX.ex x14
 replace hown64 := hown64.ext x14
 refine Rr (asP rfl) (Rr Qj (Qc (Qu ⟨_, QT rfl rfl rfl, ?_⟩)))
 change Box _ _ _ [.slice a64 (insN L ⟨u, r, t⟩).length c64] at hb67
 exact ⟨⟨_, rfl, mbF_new hb67 (by exact ⟨by omega, hb67.lt⟩) rfl hown64 (fun g h1 h2 => ⟨by omega, h1⟩)⟩, hX⟩
theorem mindex_ok (v0 : Value) (L : List Men) (w : World) (hb0 : MbIs w v0 L) (hm : OkN L) (u r : Int) (hu : 1 ≤ u ∧ u ≤ 256) (hr : 1 ≤ r ∧ r ≤ 63) : Ok Tryz.prog 67 #[v0, .int .i64 u, .int .i64 r] w fun v w' => v = .tuple #[.int .i64 (fdN L ⟨u, r, 0⟩ : Int), .bool (fnN L ⟨u, r, 0⟩)] ∧ Ext False w w' := by
 obtain ⟨pb, ab, cb, rfl, hba, hb⟩ := hb0
 have hbl := hba.lt
 have hlen := hm.len
 refine Qv 32 func67 rfl rfl rfl ?_
 have hX := xRf w
 refine Qf (Qb (Rr Qj (Rr Qj (Qc (Qf (Qf (Qb (Rr (mvP rfl) (Rr (Zi underlying34 rfl rfl) (Rr (mvB rfl) (QA 2 10 rfl rfl (Rr (mvI rfl) (QA 2 10 rfl rfl (Rr (QM rfl rfl) (Rr (Q0 (v := .bool _) rfl rfl) (Rr (mvB rfl) (Qs 6 14 rfl rfl rfl (fun hg => mvI rfl) (Qs 6 14 rfl rfl rfl (fun hg => ZM (QK (u := undef) hg) rfl) (Rr (ZS (u := undef) rfl rfl) (Rr (mvB rfl) (Qs 10 18 rfl rfl rfl (fun hg => mvI rfl) (Qs 10 18 rfl rfl rfl (fun hg => QM (QK (u := undef) hg) rfl) (Rr (ZS (u := undef) rfl rfl) (Rr (mvB rfl) (Qs 14 22 rfl rfl rfl (fun hg => mvI rfl) (Qs 14 22 rfl rfl rfl (fun hg => ZM (QK (u := undef) hg) rfl) (Rr (ZS (u := undef) rfl rfl) (Qc ?_))))))))))))))))))))))))))))
 refine Qq (cvB (by simp; omega)) ?_
 refine Qp (Qf (Qb (Rr (mvP rfl) (Rr (mvI rfl) (Rr (mvI rfl) (Qo rfl (Zg call59 rfl rfl rfl) (Ok.mono (mfind_ok _ L _ ⟨pb, ab, cb, rfl, hba, hb⟩ hm u r ⟨by omega, by omega⟩ ⟨by omega, by omega⟩) ?_)))))))
 rintro _ w1 ⟨rfl, x2⟩
 replace hX := hX.ex x2
 exact Rr (QE rfl rfl) (Rr (QE rfl rfl) (Rr (asI rfl) (Rr (asB rfl) (Qc (Qu ⟨_, QT rfl rfl rfl, ⟨rfl, hX⟩⟩)))))
theorem mactive_ok (x : Men) (d : Int) (w : World) : Ok Tryz.prog 207 #[.agg (encMe x).toArray, .int .i64 d] w fun v w' => v = .bool (actN x d) ∧ Ext False w w' := by
 refine Qv 17 func207 rfl rfl rfl ?_
 have hX := xRf w
 refine Qf (Qb (QH rfl (QX (v := .agg _) rfl) ?_))
 intro b2 w1 x2 hge2 hb2
 replace hX := hX.ex x2
 refine Rr Qj (Qc (Qf (Qb (Rr (mvI rfl) (Rr (ZU rfl rfl) (Rr (mvB rfl) (Qs 2 7 rfl rfl rfl (fun hg => mvI rfl) (Qs 2 7 rfl rfl rfl (fun hg => Jk (QK (u := undef) hg) rfl) (Rr (Zt (u := undef) rfl rfl) (Rr (mvB rfl) (Qs 6 11 rfl rfl rfl (fun hg => mvI rfl) (Qs 6 11 rfl rfl rfl (fun hg => Qy underlying136 rfl sizeOf3 rfl) (Qs 6 11 rfl rfl rfl (fun hg => Qm isAgg3 (QK (u := undef) hg) (hb2.at.get 2 rfl)) (Qs 6 11 rfl rfl rfl (fun hg => Jk (QK (u := undef) hg) (QK (u := undef) hg)) (Rr (Zt (u := undef) rfl rfl) (Rr (asB rfl) (Qc (Qu ⟨_, Qr rfl rfl, ⟨cvB ?_, hX⟩⟩))))))))))))))))))
 all_goals (rfl)
theorem ments_ok (v0 : Value) (L : List Men) (w : World) (hb0 : MbIs w v0 L) (hm : OkN L) : Ok Tryz.prog 160 #[v0] w fun v w' => Own encMe 3 136 (Fsh w w') w' v L ∧ Ext False w w' := by
 obtain ⟨pb, ab, cb, rfl, hba, hb⟩ := hb0
 have hbl := hba.lt
 have hlen := hm.len
 refine Qv 10 func160 rfl rfl rfl ?_
 have hX := xRf w
 refine Qf (Qb (Rr Qj (Qc (Qf (Qf (Qb (Rr (mvP rfl) (Rr (Zi underlying34 rfl rfl) (Qc (Qq rfl (Qp (Qf (Qb (Rr (mvP rfl) (Rr (QJ rfl) (Rr (Qy underlying138 rfl sizeOf133 rfl) (Rr (Qm isAgg133 rfl (hba.get 0 rfl)) (Qo rfl (QD call58 rfl) (Ok.mono (YP _ _ L hb.trd (by omega)) ?_)))))))))))))))))))
 rintro v9 w1 ⟨hown9, x2⟩
 replace hX := hX.ex x2
 replace hown9 := hown9.mono (D' := fun g => w.heap.size ≤ g) (fun g h1 h2 => by omega)
 exact Rr (QL (v := v9) rfl) (Qc (Qu ⟨_, Qr rfl rfl, ⟨hown9.mono (fun g h1 h2 => ⟨by omega, by omega⟩), hX⟩⟩))
theorem bwithM_ok (w : World) (s : SV) (Gs : Nat → Prop) (hs : Sl encU 1 Gs w s.a s.c (wl s.x)) (r : Int) (h1 : 0 ≤ r) (h2 : r < 64) : Ok Tryz.prog 55 #[.agg (encSV s).toArray, .int .i64 r] w fun v w' => ∃ a c, v = .agg (encSV ⟨a, c, s.x ||| oneW r.toNat⟩).toArray ∧ Sl encU 1 (fun g => Gs g ∨ Fsh w w' g) w' a c (wl (s.x ||| oneW r.toNat)) ∧ Ext False w w' := by
 obtain ⟨n, rfl⟩ : ∃ n : Nat, r = n := ⟨r.toNat, by omega⟩
 rw [Int.toNat_natCast]
 exact JX w s Gs hs n (by omega)
theorem mon_ok (v0 : Value) (L : List Men) (w : World) (hb0 : MbIs w v0 L) (hm : OkN L) (u d : Int) : Ok Tryz.prog 170 #[v0, .int .i64 u, .int .i64 d] w fun v w' => ∃ x c, v = .agg (encSV ⟨x, c, onW L u d⟩).toArray ∧ Sl encU 1 (Fsh w w') w' x c (wl (onW L u d)) ∧ Ext False w w' := by
 obtain ⟨pb, ab, cb, rfl, hba, hb⟩ := hb0
 have hbl := hba.lt
 have hlen := hm.len
 refine Qv 37 func170 rfl rfl rfl ?_
 have hX := xRf w
 refine Qf (Qb (QH rfl (Q4 zeroValue32) ?_))
 intro b6 w1 x2 hge6 hb6
 have hlt6 := hb6.lt
 have z3 := x2.size
 replace hX := hX.ex x2
 replace hb := hb.ext x2
 replace hba := hba.ext x2
 refine Qc (Qf (Qb (QH rfl (Q4 zeroValue32) ?_)))
 intro b7 w4 x5 hge7 hb7
 have hlt7 := hb7.lt
 have z6 := x5.size
 replace hX := hX.ex x5
 replace hb := hb.ext x5
 replace hba := hba.ext x5
 replace hb6 := hb6.ext x5
 refine Qc (Qf (Qf (Qb (Rr (mvP rfl) (Rr (Zi underlying34 rfl rfl) (Qc (Qq rfl (Qp (Qf (Qf (Qb (Rr (mvP rfl) (Rr (QJ rfl) (Rr (Qy underlying138 rfl sizeOf133 rfl) (Rr (Qm isAgg133 rfl (hba.get 0 rfl)) (Rr (QC underlying133 rfl) (Rr QP (Qc (Qt (QU (α := Nat × Option Addr × Nat) [(9, 9), (18, 35)] (fun q => [(18, .int .i64 (q.1 : Int))]) (fun q w' => (q.1 ≤ L.length) ∧ Bel False (fun g => g = b7) w4 w' ∧ (Box w' b7 32 (encSV ⟨q.2.1, q.2.2, onW (L.take q.1) u d⟩) ∧ Sl encU 1 (fun g => w.heap.size ≤ g ∧ g ≠ b7 ∧ g ≠ b6) w' q.2.1 q.2.2 (wl (onW (L.take q.1) u d)))) (fun q => L.length - q.1) (0, none, 0) ⟨rfl, trivial⟩ ⟨Nat.zero_le _, Bel.refl _ _, ⟨hb7, Sl.none⟩⟩ ?_))))))))))))))))))))
 rintro ⟨k, ea, ec⟩ fb9 w8 ⟨hk, hXL7, ⟨hb7, hq7⟩⟩
 dsimp only at *
 have z10 := Bel.size hXL7
 replace hX := Bel.out hX hXL7 om2
 replace hb := hb.keep hXL7 om3
 replace hb6 := hb6.keep hXL7 om1
 refine Qf (Qb (Rr (QM rfl rfl) (Qc (Qf (Qw rfl (fun hc2 => ?_) (fun hc2 => ?_))))))
 ·replace hc2 := dcT hc2
  refine Qp (Qf (Qt (Qf (Qb (Rr (QW underlying133 sizeOf136 hb rfl rfl omg) (Rr (QY isAgg136 sizeOf136 hb rfl (Ze mez (by omega))) (Zk rfl rfl zeroValue136 rfl sizeOf136 (fun _ => rfl) rfl rfl ?_)))))))
  intro b9 w11 x12 hge9 hb9
  have hlt9 := hb9.lt
  have z13 := x12.size
  replace hXL7 := Bel.ex hXL7 x12
  replace hq7 := hq7.ext x12
  replace hb7 := hb7.ext x12
  refine Qc (Qf (Qb (Rr (Qy underlying136 rfl sizeOf3 rfl) (Rr (Qm isAgg3 rfl (hb9.at.get 0 rfl)) (Rr (mvI rfl) (Rr (Zu rfl rfl) (Rr (mvB rfl) (Qs 4 26 rfl rfl rfl (fun hg => QF isAgg136 sizeOf136 rfl hb9.at rfl) (Qs 4 26 rfl rfl rfl (fun hg => mvI rfl) (Zy 4 26 rfl rfl rfl (fun hg => ⟨(QB call207 (QK (u := undef) hg) (QK (u := undef) hg)), mactive_ok (L.getD k mez) d _⟩) ?_))))))))))
  intro w14 x15
  have z16 := x15.size
  replace hXL7 := Bel.ex hXL7 x15
  replace hq7 := hq7.ext x15
  replace hb7 := hb7.ext x15
  replace hb9 := hb9.ext x15
  refine Rr (Zt (u := undef) rfl rfl) (Qc (Qw rfl (fun hc3 => ?_) (fun hc3 => ?_)))
  ·have hon : (L.getD k mez).u = u ∧ actN (L.getD k mez) d = true := by simpa using hc3
   refine Qb (Rr (QF isAgg32 sizeOf32 rfl hb7.at rfl) (Rr (Qy underlying136 rfl sizeOf3 rfl) (Rr (Qm isAgg3 rfl (hb9.at.get 1 rfl)) (Qo rfl (QB call55 rfl rfl) (Ok.mono (bwithM_ok _ ⟨_, _, _⟩ _ hq7 _ (hm.rg _ (gm (z := mez) (show k < L.length by omega))).2.1.1 (hm.rg _ (gm (z := mez) (show k < L.length by omega))).2.1.2) ?_)))))
   rintro _ w17 ⟨a34, c34, rfl, hq34, x18⟩
   have z19 := x18.size
   replace hXL7 := Bel.ex hXL7 x18
   replace hb7 := hb7.ext x18
   refine QS (v := .agg _) rfl sizeOf32 rfl rfl hb7 rfl rfl rfl ?_
   intro w20 c21 hb7
   have z22 := Bel.size c21
   replace hXL7 := Bel.out hXL7 c21 om2
   replace hq34 := hq34.keep c21 om3
   refine Qc (Qb (Rr (QO rfl rfl omg) (Rr (mvI rfl) (Qc ⟨(k + 1, a34, c34), ⟨sT, trivial⟩, oT, ⟨?_, hXL7, ?_⟩, ?_⟩))))
   ·show k + 1 ≤ L.length; omega
   ·exact ⟨by show Box _ _ _ (encSV ⟨_, _, onW (L.take (k + 1)) u d⟩); rw [onW_yes (by omega) hon]; exact hb7, by show Sl _ _ _ _ _ _ (wl (onW (L.take (k + 1)) u d)); rw [onW_yes (by omega) hon]; exact hq34.mono (fun g h1 h2 => by omega)⟩
   ·show L.length - (k + 1) < L.length - k; omega
  have hon : ¬ ((L.getD k mez).u = u ∧ actN (L.getD k mez) d = true) := by simpa using hc3
  refine Qp (Qb (Rr (QO rfl rfl omg) (Rr (mvI rfl) (Qc ⟨(k + 1, ea, ec), ⟨sT, trivial⟩, oT, ⟨?_, hXL7, ?_⟩, ?_⟩))))
  ·show k + 1 ≤ L.length; omega
  ·exact ⟨by show Box _ _ _ (encSV ⟨_, _, onW (L.take (k + 1)) u d⟩); rw [onW_no (by omega) hon]; exact hb7, by show Sl _ _ _ _ _ _ (wl (onW (L.take (k + 1)) u d)); rw [onW_no (by omega) hon]; exact hq7⟩
  ·show L.length - (k + 1) < L.length - k; omega
 replace hc2 := dcF hc2
 refine QN (QI (Qf (Qb (Rr (QF isAgg32 sizeOf32 rfl hb7.at rfl) (QS (v := .agg _) rfl sizeOf32 rfl rfl hb6 rfl rfl rfl ?_)))))
 intro w23 c24 hb6
 replace hX := Bel.out hX c24 om2
 replace hq7 := hq7.keep c24 om3
 refine Qc (Qu ⟨_, ZN (v := .agg _) rfl (Zb isAgg32 sizeOf32 rfl hb6.at rfl), ?_⟩)
 rw [List.take_of_length_le (by omega)] at hq7 ⊢
 exact ⟨_, _, rfl, hq7.mono (fun g h1 h2 => ⟨by omega, by omega⟩), hX⟩
