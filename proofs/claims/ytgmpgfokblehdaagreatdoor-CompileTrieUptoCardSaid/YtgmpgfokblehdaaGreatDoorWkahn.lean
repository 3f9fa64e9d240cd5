/- Walks: what functions return. -/
import Derived.Test.YtgmpgfokblehdaaGreatDoorWod
set_option linter.unusedVariables false
set_option linter.unusedSimpArgs false
set_option linter.unnecessarySimpa false
namespace Go.Proofs.YtgmpgfokblehdaaGreatDoor
open Go Go.Lx Go.RowKit Tryz
set_option maxRecDepth 100000
theorem iindexN_ok (a : Option Addr) (c : Nat) (B : Nat → Prop) (l : List Int) (x : Int) (w : World) (hs : Sl encJ 1 B w a c l) (n : Nat) (hn : n = l.length) : Ok Tryz.prog 200 #[.slice a n c, .int .i64 x] w fun v w' => v = .int .i64 (ixOf (fun y => x == y) l) ∧ Ext False w w' := by
 subst hn; exact iindex_ok a c B l x w hs
theorem osort_ok (po : Nat) (ap : Option Addr) (cp : Nat) (ps : List Pr) (va vb : Value) (ρ : Fin 64 → Nat) (w : World) (ho : Box w po 210 [.int .i64 64, .slice ap ps.length cp, va, vb, .slice none 0 0]) (hps : Sl encPr 2 (fun g => g ≠ po) w ap cp ps) (hn : ps.length ≤ 1100000) (hρ : ∀ x ∈ ps, ρ x.1 < ρ x.2) : Ok Tryz.prog 149 #[.pointer (some ⟨po, 0, none⟩)] w fun v w' => v = .bool true ∧ ∃ (srt : List (Fin 64)) (a : Option Addr) (c : Nat), Topo ps srt ∧ srt.length = 64 ∧ Box w' po 210 [.int .i64 64, .slice ap ps.length cp, va, vb, .slice a 64 c] ∧ Sl encJ 1 (Fsh w w') w' a c (srt.map iv) ∧ Bel False (fun g => g = po) w w' := by
 replace hps := hps.mono (F' := fun g => g ≠ po ∧ g < w.heap.size) (fun g h1 h2 => ⟨h2, h1⟩)
 have hol := ho.lt
 obtain ⟨n0, hn0⟩ : ∃ n, n = w.heap.size := ⟨_, rfl⟩
 refine Qv 79 func149 rfl rfl rfl ?_
 have hX : Bel False (fun g => g = po ∨ w.heap.size ≤ g) w w := Bel.refl _ _
 refine Qf (Qb (Rr Qj (Qc (Qf (Qb (Rr (mvP rfl) (Rr (QJ rfl) (Rr (Qy underlying210 rfl sizeOf3 rfl) (Rr (Qm isAgg3 rfl (ho.at.get 0 rfl)) (Z8 (m := 64) (0 : Int) rfl ZH JT rfl rfl rfl (by decide) ?_))))))))))
 intro a13 w1 x2 hown13
 have z3 := x2.size
 replace hX := hX.ex x2
 replace ho := ho.ext x2
 replace hps := hps.ext x2
 obtain ⟨n1, hn1⟩ : ∃ n, n = w1.heap.size := ⟨_, rfl⟩
 rw [rep_lof] at hown13
 replace hown13 := hown13.mono (D' := fun g => n0 ≤ g ∧ g < n1) (fun g h1 h2 => by omega)
 refine Rr (asS rfl) ?_
 refine Qc (Qf (Qf (Qb ?_)))
 refine Rr (mvP rfl) ?_
 refine Rr (QJ rfl) ?_
 refine Rr (Qy underlying210 rfl sizeOf207 rfl) ?_
 refine Rr (Qm isAgg207 rfl (ho.at.get 1 rfl)) ?_
 refine Rr (QC underlying207 rfl) ?_
 refine Rr QP ?_
 refine Qc (Qt ?_)
 refine QU (α := Nat) [(5, 5), (19, 30)] (fun k => [(19, .int .i64 (k : Int))]) (fun k w' => (k ≤ ps.length) ∧ Bel False (fun g => n0 ≤ g) w1 w' ∧ (Own encJ 1 3 (fun g => n0 ≤ g ∧ g < n1) w' (.slice a13 64 64) (lof fun i => (cIn (ps.take k) i : Int)))) (fun k => ps.length - k) 0 ⟨rfl, trivial⟩ ⟨Nat.zero_le _, Bel.refl _ _, hown13⟩ ?_
 rintro k fb6 w5 ⟨hk, hXL4, hown13⟩
 have z7 := Bel.size hXL4
 replace hX := Bel.out hX hXL4 om2
 replace ho := ho.keep hXL4 om1
 replace hps := hps.keep hXL4 om3
 refine Qf (Qb (Rr (QM rfl rfl) (Qc (Qf (Qw rfl (fun hc1 => ?_) (fun hc1 => ?_))))))
 ·replace hc1 := dcT hc1
  refine Qp (Qf (Qt (Qf (Qb (Rr (QW underlying207 sizeOf208 hps rfl rfl omg) (Rr (QY isAgg208 sizeOf208 hps rfl (Ze pz0 (by omega))) (Zk rfl rfl zeroValue208 rfl sizeOf208 (fun _ => rfl) rfl rfl ?_)))))))
  intro b5 w8 x9 hge5 hb5
  replace hXL4 := Bel.ex hXL4 x9
  replace hown13 := hown13.ext x9
  refine Qc (Qb (Rr (mvS rfl) (Rr (ZO (i := 1) underlying208 sizeOf3 rfl rfl (by decide)) (Rr (Qm isAgg3 rfl (hb5.at.get 1 rfl)) (Rr (ZE (i := (ps.getD k pz0).2.val) underlying153 sizeOf3 hown13 rfl rfl (by omega)) (Rr (Zx isAgg3 (hown13.slA ZH) rfl rfl (J7 _ (ps.getD k pz0).2.isLt) rfl) ?_))))))
  refine Rr (QO rfl rfl (by have := c_le (ps.take k) (fun x => x.2.val == (ps.getD k pz0).2.val); rw [List.length_take] at this; unfold cIn I64; omega)) ?_
  refine Rr (ZE (i := (ps.getD k pz0).2.val) underlying153 sizeOf3 hown13 rfl rfl (by omega)) ?_
  refine ZG (u := (cIn (ps.take k) (ps.getD k pz0).2.val : Int) + 1) rfl ZH sizeOf3 rfl rfl rfl hown13 (by rw [Jq]; exact (ps.getD k pz0).2.isLt) ?_
  intro w11 x12 hown13
  replace hXL4 := Bel.out hXL4 x12 om2
  refine Qc (Qb (Rr (QO rfl rfl omg) (Rr (mvI rfl) (Qc ⟨k + 1, ⟨sT, trivial⟩, oT, ⟨?_, hXL4, ?_⟩, ?_⟩))))
  ·show k + 1 ≤ ps.length; omega
  ·rw [cIn_set (by omega)] at hown13
   exact hown13
  ·omega
 replace hc1 := dcF hc1
 refine QN (QI (Qf (Qt ?_)))
 refine QU (α := List (Fin 64) × Value) [(2, 2), (6, 6), (8, 8), (31, 78)] (fun p => []) (fun p w' => (Topo ps p.1 ∧ p.1.length ≤ 64) ∧ Bel False (fun g => g = po ∨ n0 ≤ g) w5 w' ∧ (Box w' po 210 [.int .i64 64, .slice ap ps.length cp, va, vb, p.2] ∧ Own encJ 1 3 (fun g => n1 ≤ g) w' p.2 (p.1.map iv) ∧ Own encJ 1 3 (fun g => n0 ≤ g ∧ g < n1) w' (.slice a13 64 64) (lof (lfA ps p.1)))) (fun p => 64 - p.1.length) ([], .slice none 0 0) trivial ⟨⟨Topo.nil ps, by decide⟩, Bel.refl _ _, ⟨ho, Own.nil _ _, (by rw [show k = ps.length by omega, lfA_start] at hown13; exact hown13)⟩⟩ ?_
 rintro ⟨srt, vs⟩ fb16 w15 ⟨⟨ht, hl64⟩, hXL14, ⟨ho, howns, hown13⟩⟩
 dsimp only at *
 have z17 := Bel.size hXL14
 replace hX := Bel.out hX hXL14 om2
 replace hps := hps.keep hXL14 om3
 obtain ⟨sa, sc, rfl, -⟩ := howns.sl ZH
 have hlm : (srt.map iv).length = srt.length := by simp
 refine Qf (Qf ?_)
 apply Q3 (β := False) [peq _, peq _, peq _, peq _, peq _, peq _, peq _, peq _, peq _, peq _] 10 QV (by kernel_rfl) rfl ⟨Qd _, Qd _, Qd _, Qd _, Qd _, Qd _, Qd _, Qd _, Qd _, Qd _, trivial⟩ ?ob7 ?fin7
 case ob7 =>
  refine Qg (fun _ _ => Qe (Qn rfl (mvP rfl))) (Qg (fun _ _ => Qa (Qe (Qn rfl (QJ rfl)))) (Qg (fun _ _ => Qa (Qe (Qn rfl (Qy underlying210 rfl sizeOf153 rfl)))) (Qg (fun w27 x28 => ?_) ?_)))
  ·have ho := ho.ext x28
   exact Qa (Qe (Qn rfl (Qm isAgg153 rfl (ho.at.get 4 rfl))))
  refine Qg (fun _ _ => Qa (Qe (Qn rfl (QC underlying153 rfl)))) (Qg (fun _ _ => Qe (Qn rfl (mvP rfl))) (Qg (fun _ _ => Qa (Qe (Qn rfl (QJ rfl)))) (Qg (fun _ _ => Qa (Qe (Qn rfl (Qy underlying210 rfl sizeOf3 rfl)))) (Qg (fun w42 x43 => ?_) ?_))))
  ·have ho := ho.ext x43
   exact Qa (Qe (Qn rfl (Qm isAgg3 rfl (ho.at.get 0 rfl))))
  exact Qg (fun _ _ => Qa (Qa (Qe (Qn rfl (QM rfl rfl))))) QR
 case fin7 =>
  intro w48 x49
  have z50 := x49.size
  replace hX := hX.ex x49
  replace hXL14 := Bel.ex hXL14 x49
  replace hps := hps.ext x49
  replace hown13 := hown13.ext x49
  replace ho := ho.ext x49
  replace howns := howns.ext x49
  refine Qa (Qa (Qa (Qa (Qa (Qa (Qa (Qa (Qa (Qa (Qe (Qc (Qw rfl (fun hc2 => ?_) (fun hc2 => ?_)))))))))))))
  ·replace hc2 := dcT hc2
   refine Qp (Qt (Qf (Qb (Rr (mvS rfl) (Qo rfl (QB call200 rfl rfl) (Ok.mono (iindexN_ok _ _ _ _ 0 _ (hown13.slA ZH) 64 (Jq _).symm) ?_))))))
   rintro _ w51 ⟨rfl, x52⟩
   have z53 := x52.size
   replace hX := hX.ex x52
   replace hXL14 := Bel.ex hXL14 x52
   replace hps := hps.ext x52
   replace hown13 := hown13.ext x52
   replace ho := ho.ext x52
   replace howns := howns.ext x52
   obtain ⟨kk, hk1, hk2⟩ := ix_zero (zero_ex (srt := srt) ρ hρ (by omega))
   rw [hk1]
   have hkl := kk.isLt
   refine Rr (asI rfl) (Qc (Qf (Qf (Qb (Rr (mvI rfl) (Rr (QM rfl rfl) (Qc (Qq (cvB (decide_eq_false (by omega))) (Qp (Qf (Qb (Rr (mvS rfl) (Rr (mvI rfl) (Rr (ZE (i := kk.val) underlying153 sizeOf3 hown13 rfl rfl (by omega)) ?_))))))))))))))
   refine ZG (u := -1) rfl ZH sizeOf3 rfl rfl rfl hown13 (by rw [Jq]; exact kk.isLt) ?_
   intro w54 x55 hown13
   have z56 := x55.size
   replace hX := Bel.out hX x55 om2
   replace hXL14 := Bel.out hXL14 x55 om2
   replace hps := hps.keep x55 om3
   replace ho := ho.keep x55 om1
   replace howns := howns.keepD x55 om3
   rw [lfB_start] at hown13
   refine Qc (Qf (Qb (Rr (mvP rfl) (Rr (mvP rfl) (Rr (QJ rfl) (Rr (Qy underlying210 rfl sizeOf153 rfl) (Rr (Qm isAgg153 rfl (ho.at.get 4 rfl)) (Rr (mvI rfl) (ZP (vs := [.int _ _]) ([iv kk]) rfl ZH JT rfl rfl ⟨rfl, trivial⟩ rfl rfl rfl rfl ?_)))))))))
   intro a54 w57 x58 hown54
   have z59 := x58.size
   replace hX := hX.ex x58
   replace hXL14 := Bel.ex hXL14 x58
   replace hps := hps.ext x58
   replace hown13 := hown13.ext x58
   replace ho := ho.ext x58
   replace howns := howns.ext x58
   replace hown54 := hown54.mono (D' := fun g => w.heap.size ≤ g) (fun g h1 h2 => by omega)
   refine ZZ rfl ZH JT rfl rfl howns (hown54.slA ZH) rfl (by simp; omega) omU ?_
   intro v55 w60 x61 howns
   have z62 := x61.size
   replace hX := Bel.out hX x61 om2
   replace hXL14 := Bel.out hXL14 x61 om2
   replace hps := hps.keep x61 om3
   replace hown13 := hown13.keepD x61 om3
   replace ho := ho.keep x61 om1
   obtain ⟨sa2, sc2, hv55, -⟩ := howns.sl ZH
   subst hv55
   refine Rr (QJ rfl) (Rr (Qy underlying210 rfl sizeOf153 rfl) (Q6 (v := .slice _ _ _) rfl sizeOf153 rfl rfl ho rfl rfl rfl ?_))
   intro w63 c64 ho
   have z65 := Bel.size c64
   replace hX := Bel.out hX c64 om2
   replace hXL14 := Bel.out hXL14 c64 om2
   replace hps := hps.keep c64 om3
   replace hown13 := hown13.keepD c64 om3
   replace howns := howns.keepD c64 om3
   refine Qc (Qf (Qb (Rr (mvP rfl) (Rr (QJ rfl) (Rr (Qy underlying210 rfl sizeOf207 rfl) (Rr (Qm isAgg207 rfl (ho.at.get 1 rfl)) (Rr (QC underlying207 rfl) (Rr QP (Qc (Qt (QU (α := Nat) [(8, 8), (63, 78)] (fun k => [(63, .int .i64 (k : Int))]) (fun k w' => (k ≤ ps.length) ∧ Bel False (fun g => n0 ≤ g ∧ g < n1) w63 w' ∧ (Own encJ 1 3 (fun g => n0 ≤ g ∧ g < n1) w' (.slice a13 64 64) (lof (lfB ps srt kk k)))) (fun k => ps.length - k) 0 ⟨rfl, trivial⟩ ⟨Nat.zero_le _, Bel.refl _ _, hown13⟩ ?_)))))))))))
   rintro k fb68 w67 ⟨hk, hXL66, hown13⟩
   replace hX := Bel.out hX hXL66 om2
   replace hXL14 := Bel.out hXL14 hXL66 om2
   replace hps := hps.keep hXL66 om3
   replace ho := ho.keep hXL66 om1
   replace howns := howns.keepD hXL66 om3
   refine Qf (Qb (Rr (QM rfl rfl) (Qc (Qf (Qw rfl (fun hc4 => ?_) (fun hc4 => ?_))))))
   ·replace hc4 := dcT hc4
    refine Qp (Qf (Qt (Qf (Qb (Rr (QW underlying207 sizeOf208 hps rfl rfl omg) (Rr (QY isAgg208 sizeOf208 hps rfl (Ze pz0 (by omega))) (Zk rfl rfl zeroValue208 rfl sizeOf208 (fun _ => rfl) rfl rfl ?_)))))))
    intro b8 w70 x71 hge8 hb8
    replace hXL66 := Bel.ex hXL66 x71
    replace hown13 := hown13.ext x71
    refine Qc (Qf (Qb (Rr (ZO (i := 0) underlying208 sizeOf3 rfl rfl (by decide)) (Rr (Qm isAgg3 rfl (hb8.at.get 0 rfl)) (Rr (mvI rfl) (Rr (Zu rfl rfl) (Qc (Qw rfl (fun hc5 => ?_) (fun hc5 => ?_)))))))))
    ·have hx1 : (ps.getD k pz0).1 = kk := iv_inj.1 (by simpa [iv] using hc5)
     refine Qb (Rr (mvS rfl) (Rr (ZO (i := 1) underlying208 sizeOf3 rfl rfl (by decide)) (Rr (Qm isAgg3 rfl (hb8.at.get 1 rfl)) (Rr (ZE (i := (ps.getD k pz0).2.val) underlying153 sizeOf3 hown13 rfl rfl (by omega)) (Rr (Zx isAgg3 (hown13.slA ZH) rfl rfl (J7 _ (ps.getD k pz0).2.isLt) rfl) ?_)))))
     refine Rr (Yh rfl rfl (by have := lfB_rng ps srt kk k (ps.getD k pz0).2.val; unfold I64; omega)) ?_
     refine Rr (ZE (i := (ps.getD k pz0).2.val) underlying153 sizeOf3 hown13 rfl rfl (by omega)) ?_
     refine ZG (u := lfB ps srt kk k (ps.getD k pz0).2.val - 1) rfl ZH sizeOf3 rfl rfl rfl hown13 (by rw [Jq]; exact (ps.getD k pz0).2.isLt) ?_
     intro w73 x74 hown13
     replace hXL66 := Bel.out hXL66 x74 om2
     refine Qc (Qb (Rr (QO rfl rfl omg) (Rr (mvI rfl) (Qc ⟨k + 1, ⟨sT, trivial⟩, oT, ⟨?_, hXL66, ?_⟩, ?_⟩))))
     ·show k + 1 ≤ ps.length; omega
     ·rw [lfB_yes ht hk2 (by omega) hx1] at hown13; exact hown13
     ·omega
    have hx1 : (ps.getD k pz0).1 ≠ kk := fun e => by rw [e] at hc5; simp [iv] at hc5
    refine Qp (Qb (Rr (QO rfl rfl omg) (Rr (mvI rfl) (Qc ⟨k + 1, ⟨sT, trivial⟩, oT, ⟨?_, hXL66, ?_⟩, ?_⟩))))
    ·show k + 1 ≤ ps.length; omega
    ·rw [lfB_no (by omega) hx1]; exact hown13
    ·omega
   replace hc4 := dcF hc4
   refine QN (QI ⟨(srt ++ [kk], .slice sa2 (srt.map iv ++ [iv kk]).length sc2), trivial, oT, ⟨?_, hXL14, ?_⟩, ?_⟩)
   ·exact ⟨ht.snoc hk2, by simp; omega⟩
   ·rw [show k = ps.length by omega, lfB_end ps srt kk (zero_of hk2).1] at hown13
    exact ⟨ho, by rw [List.map_append]; exact howns, hown13⟩
   ·simp; omega
  replace hc2 := dcF hc2
  refine QN (QI (Qf (Qb (Rr Qj (Qc (Qu ⟨_, Qr rfl rfl, ?_⟩))))))
  have hl : (srt.map iv).length = 64 := by omega
  rw [hl] at ho
  exact ⟨rfl, srt, sa, sc, ht, by omega, ho, (howns.slA ZH).mono (fun g h1 h2 => ⟨by omega, by omega⟩), hX.mono (fun g h1 h2 => by omega)⟩
