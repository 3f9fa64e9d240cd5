/- Walks: what functions return. -/
import Derived.Test.YtgmpgfokblehdaaGreatDoorWnormal
import Derived.Test.YtgmpgfokblehdaaGreatDoorWbits
import Derived.Test.YtgmpgfokblehdaaGreatDoorHy
set_option linter.unusedVariables false
set_option linter.unusedSimpArgs false
set_option linter.unnecessarySimpa false
namespace Go.Proofs.YtgmpgfokblehdaaGreatDoor
open Go Go.Lx Go.RowKit Tryz
set_option maxRecDepth 100000
theorem entover {D F : Nat → Prop} {b : Option Addr} {g off m cb c la ca n : Nat} {xs l : List Ent} (w : World) (hx : Own encE 4 52 F w (.slice b n cb) xs) (hne : xs ≠ []) (ho : Own encE 4 52 D w (.slice (some ⟨g, 0, none⟩) m c) l) (hc : 0 < c) (hd : ∀ q, F q → D q → False) :
  (callFunc 97 #[.slice b n cb, .slice (some ⟨g, off, none⟩) la ca]).run Tryz.prog w = .ok (.value (.bool false)) w := by
 rw [run_callFunc_extern func97 (by kernel_rfl) (by kernel_rfl) (by kernel_rfl) (e := Extern.SlicesOverlaps.overlaps #[47, 47] #[4]) (by kernel_rfl), YQ underlying47 sizeOf52 hx hne ho (by decide) hc hd]
 rfl
theorem entins_ok (a : Option Addr) (c : Nat) (D F : Nat → Prop) (l : List Ent) (i : Nat) (b : Option Addr) (cb : Nat) (x : Ent) (w : World) (ho : Own encE 4 52 D w (.slice a l.length c) l) (hx : Own encE 4 52 F w (.slice b 1 cb) [x]) (hi : i ≤ l.length) (hl : l.length ≤ 100000) (hDF : ∀ q, F q → D q → False) : Ok Tryz.prog 48 #[.slice a l.length c, .int .i64 (i : Int), .slice b 1 cb] w fun v w' => Own encE 4 52 (fun g => D g ∨ Fsh w w' g) w' v (l.take i ++ [x] ++ l.drop i) ∧ Bel False D w w' := by
 replace ho := ho.mono (D' := fun g => D g ∧ g < w.heap.size) (fun g h1 h2 => ⟨h2, h1⟩)
 replace hx := hx.mono (D' := fun g => F g ∧ g < w.heap.size) (fun g h1 h2 => ⟨h2, h1⟩)
 have hlc := ho.capOf.1
 have hcm := (ho.slA QZ).cap
 have hcm2 : c ≤ 140737488355328 * 65536 := by unfold maxLen at hcm; omega
 obtain ⟨n0, hn0⟩ : ∃ n, n = w.heap.size := ⟨_, rfl⟩
 refine Qv 95 func48 rfl rfl rfl ?_
 have hX : Bel False (fun g => D g ∨ w.heap.size ≤ g) w w := Bel.refl _ _
 refine Qf (Qb (Rr Qj (Qc (Qf (Qb (Rr (mvS rfl) (Rr (mvI rfl) (Rr (Zr (j := i) underlying47 sizeOf52 rfl rfl (by omega) (by omega)) (Qc (Qf (Qb (Rr (mvS rfl) (Rr (QC underlying47 rfl) (Rr (asI rfl) (Qc (Qf (Qf (Qb (Rr (mvI rfl) (Rr (Zu rfl rfl) (Qc (Qq rfl (Qp (Qf (Qb (Rr (mvS rfl) (Rr (QC underlying47 rfl) (Rr (asI rfl) (Qc (Qf (Qf (Qb (Rr (mvI rfl) (Rr (mvI rfl) (Rr (Zu rfl rfl) (Qc (Qw rfl (fun hc2 => ?_) (fun hc2 => ?_))))))))))))))))))))))))))))))))))))))
 ·have hil : i = l.length := by have := eq_of_beq hc2; omega
  refine Qf (Qb (Rr (mvS rfl) (Rr (mvS rfl) ?_)))
  refine ZZ rfl QZ JJ rfl rfl (ho.mono (D' := fun g => D g ∨ w.heap.size ≤ g) (fun g _ h => Or.inl h.1)) (hx.slA QZ) rfl (by simp; omega) (fun g h => Or.inr (by omega)) ?_
  intro v25 w1 x2 hown25
  replace hX := Bel.out hX x2 (fun g h1 h2 => by first | exact h2 | exact Or.inl h2.1 | exact Or.inl h2 | omega)
  refine Rr (QL (v := v25) rfl) (Qc (Qu ⟨_, Qr rfl rfl, ⟨?_, hX.mono (fun g h1 h2 => h2.elim id (fun h => by omega))⟩⟩))
  have e : (l.take i ++ [x] ++ l.drop i) = l ++ [x] := by rw [hil]; simp
  rw [e]
  exact hown25.mono (fun g h1 h2 => h2.elim Or.inl (fun h => Or.inr ⟨h, h1⟩))
 have hil : i < l.length := by
  have : ¬ (i : Int) = (l.length : Int) := by simpa using hc2
  omega
 refine Qp (Qf (Qf (Qb (Rr (mvI rfl) (Rr (mvI rfl) (Rr (ZB (p := l.length) (b := 1) rfl rfl (by omega)) (Rr (mvS rfl) (Rr (o_cap underlying47 rfl) (Rr (ZM rfl rfl) (Qc (Qw rfl (fun hc3 => ?_) (fun hc3 => ?_))))))))))))
 ·replace hc3 := dcT hc3
  refine Qf (Qb (Rr (mvS rfl) (Rr (mvI rfl) (Rr (Jm (j := i) underlying47 sizeOf52 rfl rfl (by omega)) (Rr (mvI rfl) (Rr (mvI rfl) (Rr (ZB (p := l.length) (b := 1) rfl rfl (by omega)) (Rr (mvI rfl) (Rr (Ya (p := l.length + 1) (b := i) rfl rfl (by omega) (by omega)) (Rg_appz (i := i) (q := l.length + 1 - i) ez rfl QZ JJ rfl underlying3 rfl rfl (ho.cut QZ hi) (by omega) (by omega) (by omega) ?_))))))))))
  intro g40 c40 w4 x5 hge40 hown40
  replace hX := hX.ex x5
  replace ho := ho.ext x5
  replace hx := hx.ext x5
  refine Rr (asS rfl) (Qc (Qf (Qb (Rr (mvS rfl) (Rr (mvI rfl) ?_)))))
  refine Rr (Zr (j := i) underlying47 sizeOf52 rfl rfl (by omega) (by have := hown40.capOf.1; omega)) ?_
  refine Rr (mvS rfl) ?_
  refine Jn (o := i) (m2 := i + (l.length + 1 - i)) ([x]) rfl QZ JJ rfl rfl hown40 (hx.slA QZ) (by simp; omega) (by simp; omega) (by have h := hown40.capOf.1; simp; omega) (by simp; omega) ?_
  intro w7 x8 hown40
  replace hX := Bel.out hX x8 (fun g h1 h2 => by first | exact h2 | exact Or.inl h2.1 | exact Or.inl h2 | omega)
  replace ho := ho.keepD x8 om3
  refine Qc (Qf ?_)
  apply Zl (β := False) (fun _ => 0) [peqC _, peqC _, peqC _, peqC _, peqC _, peqC _, peqC _, peqC _] [0, 0, 0, 0, 0, 0, 0, 0] 8 QV (by kernel_rfl) (by kernel_rfl) rfl ⟨Qk _ _, Qk _ _, Qk _ _, Qk _ _, Qk _ _, Qk _ _, Qk _ _, Qk _ _, trivial⟩ ?ob11 ?fin11
  case ob11 =>
   refine Ql (fun w10 c12 x11 hc013 hk14 => Qi (Qx rfl (mvS rfl))) (Ql (fun w16 c18 x17 hc019 hk20 => Qi (Qx rfl (mvI rfl))) (Ql (fun w22 c24 x23 hc025 hk26 => Qi (Qx rfl (mvI rfl))) (Ql (fun w28 c30 x29 hc031 hk32 => Qh (Qh (Qi (Qx rfl (ZB (p := i) (b := 1) rfl rfl (by omega)))))) (Ql (fun w34 c36 x35 hc037 hk38 => ?_) ?_))))
   ·replace x35 := RelG.ext0 x35
    have hown40 := hown40.ext x35
    refine Qh (Qh (Qi ?_))
    exact Qx rfl (Zr (j := i + 1) underlying47 sizeOf52 rfl rfl (by omega) (by have := hown40.capOf.1; omega))
   exact Ql (fun w40 c42 x41 hc043 hk44 => Qi (Qx rfl (mvS rfl))) (Ql (fun w46 c48 x47 hc049 hk50 => Qi (Qx rfl (mvI rfl))) (Ql (fun w52 c54 x53 hc055 hk56 => Qh (Qh (Qi (Qx rfl (Zr (j := i) underlying47 sizeOf52 rfl rfl (by omega) (by omega)))))) Q8))
  case fin11 =>
   intro w58 c60 x59 hc061
   replace x59 := RelG.ext0 x59
   replace hX := hX.ex x59
   replace ho := ho.ext x59
   replace hown40 := hown40.ext x59
   refine Qh (Qh (Qh (Qh (Qh (Qh (Qh (Qh (Qi ?_))))))))
   refine Jn (o := i + 1) (m2 := i + (l.length + 1 - i)) (l.drop i) rfl QZ JJ rfl rfl hown40 ((ho.slA QZ).drop hi) (by simp; omega) (by rw [ZL (by simp; omega)]; simp; omega) (by have h := hown40.capOf.1; simp; omega) (by rw [ZL (by simp; omega)]; simp; omega) ?_
   intro w63 x64 hown40
   replace hX := Bel.out hX x64 (fun g h1 h2 => by first | exact h2 | exact Or.inl h2.1 | exact Or.inl h2 | omega)
   refine Qc (Qf (Qb (Rr (mvS rfl) (Rr (asS rfl) (Qc (Qu ⟨_, Qr rfl rfl, ⟨?_, hX.mono (fun g h1 h2 => h2.elim id (fun h => by omega))⟩⟩))))))
   rw [ins_grow hi rfl] at hown40
   exact hown40.mono (fun g h1 h2 => Or.inr ⟨by omega, h1⟩)
 replace hc3 := dcF hc3
 refine Qp (Qf (Qb (Rr (mvS rfl) (Rr (mvI rfl) (Rr (mvI rfl) (Rr (ZB (p := l.length) (b := 1) rfl rfl (by omega)) (Rr (Jm (j := l.length + 1) underlying47 sizeOf52 rfl rfl (by omega)) (Rr (asS rfl) (Qc (Qf (Qf (Qb ?_))))))))))))
 obtain ⟨ga, rfl⟩ : ∃ g, a = some ⟨g, 0, none⟩ := by
  obtain ⟨g, c2, hv⟩ := ho.sm (by intro e; rw [e] at hil; simp at hil)
  simp only [Value.slice.injEq] at hv
  exact ⟨g, hv.1⟩
 refine Rr (mvS rfl) (Rr (mvS rfl) (Rr (mvI rfl) (Rr (mvI rfl) (Rr (ZB (p := i) (b := 1) rfl rfl (by omega)) (Rr (o_sfromG (j := i + 1) underlying47 sizeOf52 rfl rfl (by omega) (by omega)) (Rr (o_ext2 rfl rfl (entover _ hx (by simp) ho (by omega) (fun q h1 h2 => hDF q h1.1 h2.1))) (Rr (Zp rfl) (Qc (Za rfl (Qf ?_))))))))))
 apply Zl (β := False) (fun _ => 0) [peqC _, peqC _, peqC _, peqC _, peqC _, peqC _, peqC _, peqC _] [0, 0, 0, 0, 0, 0, 0, 0] 8 QV (by kernel_rfl) (by kernel_rfl) rfl ⟨Qk _ _, Qk _ _, Qk _ _, Qk _ _, Qk _ _, Qk _ _, Qk _ _, Qk _ _, trivial⟩ ?ob15 ?fin15
 case ob15 =>
  exact Ql (fun w66 c68 x67 hc069 hk70 => Qi (Qx rfl (mvS rfl))) (Ql (fun w72 c74 x73 hc075 hk76 => Qi (Qx rfl (mvI rfl))) (Ql (fun w78 c80 x79 hc081 hk82 => Qi (Qx rfl (mvI rfl))) (Ql (fun w84 c86 x85 hc087 hk88 => Qh (Qh (Qi (Qx rfl (ZB (p := i) (b := 1) rfl rfl (by omega)))))) (Ql (fun w90 c92 x91 hc093 hk94 => Qh (Qh (Qi (Qx rfl (Zr (j := i + 1) underlying47 sizeOf52 rfl rfl (by omega) (by omega)))))) (Ql (fun w96 c98 x97 hc099 hk100 => Qi (Qx rfl (mvS rfl))) (Ql (fun w102 c104 x103 hc0105 hk106 => Qi (Qx rfl (mvI rfl))) (Ql (fun w108 c110 x109 hc0111 hk112 => Qh (Qh (Qi (Qx rfl (Zr (j := i) underlying47 sizeOf52 rfl rfl (by omega) (by omega)))))) Q8)))))))
 case fin15 =>
  intro w114 c116 x115 hc0117
  replace x115 := RelG.ext0 x115
  replace hX := hX.ex x115
  replace ho := ho.ext x115
  replace hx := hx.ext x115
  refine Qh (Qh (Qh (Qh (Qh (Qh (Qh (Qh (Qi ?_))))))))
  refine Jn (o := i + 1) (m2 := l.length + 1) (l.drop i) rfl QZ JJ rfl rfl ho ((ho.slA QZ).drop hi) (by simp; omega) (by omega) (by simp; omega) (by simp; omega) ?_
  intro w119 x120 ho
  replace hX := Bel.out hX x120 (fun g h1 h2 => by first | exact h2 | exact Or.inl h2.1 | exact Or.inl h2 | omega)
  replace hx := hx.keepD x120 (fun g h1 h2 h3 => by first | (exact hDF g h2.1 h3.1) | omega)
  refine Qc (Qf (Qb (Rr (mvS rfl) (Rr (mvI rfl) (Rr (Zr (j := i) underlying47 sizeOf52 rfl rfl (by omega) (by omega)) (Rr (mvS rfl) ?_))))))
  refine Jn (o := i) (m2 := l.length + 1) ([x]) rfl QZ JJ rfl rfl ho (hx.slA QZ) (by simp; omega) (by rw [ZL (by omega)]; simp; omega) (by simp; omega) (by rw [ZL (by omega)]; simp; omega) ?_
  intro w122 x123 ho
  replace hX := Bel.out hX x123 (fun g h1 h2 => by first | exact h2 | exact Or.inl h2.1 | exact Or.inl h2 | omega)
  refine Qc (Qf (Qb (Rr (mvS rfl) (Rr (asS rfl) (Qc (Qu ⟨_, Qr rfl rfl, ⟨?_, hX.mono (fun g h1 h2 => h2.elim id (fun h => by omega))⟩⟩))))))
  rw [ins_place hil] at ho
  exact ho.mono (fun g h1 h2 => Or.inl h2.1)
theorem entinsV_ok (D F : Nat → Prop) (l : List Ent) (i : Nat) (v0 : Value) (b : Option Addr) (cb : Nat) (x : Ent) (w : World) (ho : Own encE 4 52 D w v0 l) (hx : Own encE 4 52 F w (.slice b 1 cb) [x]) (hi : i ≤ l.length) (hl : l.length ≤ 100000) (hDF : ∀ q, F q → D q → False) :
  Ok Tryz.prog 48 #[v0, .int .i64 (i : Int), .slice b 1 cb] w fun v w' => Own encE 4 52 (fun g => D g ∨ Fsh w w' g) w' v (l.take i ++ [x] ++ l.drop i) ∧ Bel False D w w' := by
 obtain ⟨a, c, rfl, -⟩ := ho.sl QZ
 exact entins_ok a c D F l i b cb x w ho hx hi hl hDF
theorem entdel_ok (a : Option Addr) (c : Nat) (D : Nat → Prop) (l : List Ent) (i : Nat) (w : World) (ho : Own encE 4 52 D w (.slice a l.length c) l) (hi : i < l.length) (hl : l.length ≤ 100000) : Ok Tryz.prog 81 #[.slice a l.length c, .int .i64 (i : Int), .int .i64 ((i + 1 : Nat) : Int)] w fun v w' => Own encE 4 52 D w' v (l.take i ++ l.drop (i + 1)) ∧ Bel True D w w' := by
 have hlc := ho.capOf.1
 have hne : l ≠ [] := by rintro rfl; simp at hi
 have hcm := (ho.slA QZ).cap
 have hcm2 : c ≤ 140737488355328 * 65536 := by unfold maxLen at hcm; omega
 refine Qv 33 func81 rfl rfl rfl ?_
 have hX : Bel True (D) w w := Bel.refl _ _
 refine Qf (Qb (Rr Qj (Qc (Qf (Qb (Rr (mvS rfl) (Rr (mvI rfl) (Rr (mvI rfl) (Rr (mvS rfl) (Rr (QC underlying47 rfl) (Rg_sl3L rfl underlying47 sizeOf52 rfl rfl rfl rfl (by omega) (by omega) (by omega) (fun v13 => Qc (Qf (Qf (Qb (Rr (mvI rfl) (Rr (mvI rfl) (Rr (Zu rfl rfl) (Qc (Qq (cvB (neF (by omega))) (Qp (Qf (Qb (Rr (mvS rfl) (Rr (QC underlying47 rfl) (Rr (asI rfl) (Qc (Qf ?_))))))))))))))))))))))))))))
 apply Zl (β := True) (fun _ => 0) [peqC _, peqC _, peqC _, peqC _, peqC _, peqC _] [0, 0, 0, 0, 0, 0] 6 QV (by kernel_rfl) (by kernel_rfl) rfl ⟨Qk _ _, Qk _ _, Qk _ _, Qk _ _, Qk _ _, Qk _ _, trivial⟩ ?ob5 ?fin5
 case ob5 =>
  exact Ql (fun w1 c3 x2 hc04 hk5 => Qi (Qx rfl (mvS rfl))) (Ql (fun w7 c9 x8 hc010 hk11 => Qi (Qx rfl (mvI rfl))) (Ql (fun w13 c15 x14 hc016 hk17 => Qh (Qh (Qi (Qx rfl (Jm (j := i) underlying47 sizeOf52 rfl rfl (by omega)))))) (Ql (fun w19 c21 x20 hc022 hk23 => Qi (Qx rfl (mvS rfl))) (Ql (fun w25 c27 x26 hc028 hk29 => Qi (Qx rfl (mvI rfl))) (Ql (fun w31 c33 x32 hc034 hk35 => Qh (Qh (Qi (Qx rfl (Zr (j := i + 1) underlying47 sizeOf52 rfl rfl (by omega) (by omega)))))) Q8)))))
 case fin5 =>
  intro w37 c39 x38 hc040
  replace x38 := RelG.ext0 x38
  replace hX := hX.ex x38
  replace ho := ho.ext x38
  refine Qh (Qh (Qh (Qh (Qh (Qh (Qi ?_))))))
  refine Rg_appfit (i := i) (m2 := l.length) (l.drop (i + 1)) rfl QZ JJ rfl rfl (by simp) ho ((ho.slA QZ).drop (j := i + 1) hi) hne (by omega) (by simp; omega) (by simp; omega) ?_
  intro w42 x43 ho
  replace hX := Bel.out hX x43 om2
  refine Rr (asS rfl) (Qc (Qf (Qb (Rr (mvS rfl) (Rr (mvS rfl) (Rr (QC underlying47 rfl) (Rr (mvI rfl) (Rr (o_slmid (j := i + (l.length - (i + 1))) (h := l.length) underlying47 sizeOf52 rfl rfl rfl (by omega) (by omega) (by omega)) ?_))))))))
  refine Vc ez QZ JJ rfl rfl ho (by rw [ZL (by omega)]; simp; omega) (by rw [ZL (by omega)]; simp; omega) ?_
  intro w45 x46 ho
  replace hX := Bel.out hX x46 om2
  refine Qc (Qf (Qb (Rr (mvS rfl) (Rr (asS rfl) (Qc (Qu ⟨_, Qr rfl rfl, ⟨?_, hX⟩⟩))))))
  have e1 : i + (l.length - (i + 1)) = l.length - 1 := by omega
  rw [e1, del_place hi] at ho
  have h := ho.cut QZ (j := l.length - 1) (by simp; omega)
  rw [List.take_left' (by simp; omega)] at h
  rw [e1]
  exact h
theorem entdelV_ok (D : Nat → Prop) (l : List Ent) (i : Nat) (v0 : Value) (w : World) (ho : Own encE 4 52 D w v0 l) (hi : i < l.length) (hl : l.length ≤ 100000) :
  Ok Tryz.prog 81 #[v0, .int .i64 (i : Int), .int .i64 ((i + 1 : Nat) : Int)] w fun v w' => Own encE 4 52 D w' v (l.take i ++ l.drop (i + 1)) ∧ Bel True D w w' := by
 obtain ⟨a, c, rfl, -⟩ := ho.sl QZ
 exact entdel_ok a c D l i w ho hi hl
theorem gclone_ok (w : World) (vl : Value) (l : List Ent) (hl : Rd encE 4 (Lt w.heap.size) w vl l) (nl : l.length ≤ 100000) : Ok Tryz.prog 43 #[vl] w fun v w' => Own encE 4 52 (Fsh w w') w' v (l) ∧ Ext False w w' := by
 obtain ⟨al, cl, rfl, hl⟩ := hl; have ml := hl.len
 refine Qv 8 func43 rfl rfl rfl ?_
 have hX := xRf w
 refine Qf (Qb (Rr Qj (Qc (Qf (Qf (Qb (Rr (mvS rfl) (Rr (o_lnil underlying47 rfl) (Qc (Qw rfl (fun hc1 => ?_) (fun hc1 => ?_)))))))))))
 ·have hnl := Vb hl hc1; subst hnl
  exact Qf (Qb (Rr Qj (Qc (Qu ⟨_, Qr rfl rfl, ⟨Own.nil _ _, hX⟩⟩))))
 refine Qp (Qf (Qb (ZP (vs := []) (([] : List Ent)) rfl QZ JJ rfl rfl trivial rfl rfl rfl rfl ?_)))
 intro a5 w1 x2 hown5
 have z3 := x2.size
 replace hX := hX.ex x2
 replace hl := hl.ext x2
 replace hown5 := hown5.mono (D' := fun g => w.heap.size ≤ g) (fun g h1 h2 => by omega)
 refine Rr (mvS rfl) ?_
 refine ZZ rfl QZ JJ rfl rfl hown5 hl rfl (by simp; omega) omU ?_
 intro v7 w4 x5 hown5
 replace hX := Bel.out hX x5 om2
 refine Rr (QL (v := v7) rfl) (Qc (Qu ⟨_, Qr rfl rfl, ?_⟩))
 rw [List.nil_append] at hown5; exact ⟨hown5.mono (fun g h1 h2 => by omega), hX⟩
