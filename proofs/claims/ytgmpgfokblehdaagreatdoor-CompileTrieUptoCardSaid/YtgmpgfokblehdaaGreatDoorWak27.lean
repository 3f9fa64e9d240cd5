/- Walks: what functions return. -/
import Derived.Test.YtgmpgfokblehdaaGreatDoorWtb4
set_option linter.unusedVariables false
set_option linter.unusedSimpArgs false
set_option linter.unnecessarySimpa false
namespace Go.Proofs.YtgmpgfokblehdaaGreatDoor
open Go Go.Lx Go.RowKit Tryz
set_option maxRecDepth 100000
theorem snewZ_ok (w : World) (hT : Tb w) : Ok Tryz.prog 6 #[] w fun v w' => (∃ b us rs aa ca lk mb gr ar cr ac cc ss, v = pB b ∧ At w' b 0 (ptC ⟨0, us, rs, aa, ca, lk, mb, gr, ar, cr, ac, cc, ss⟩) ∧ PsIs w' ⟨0, us, rs, aa, ca, lk, mb, gr, ar, cr, ac, cc, ss⟩ ⟨[], [], [], [], [], []⟩) ∧ Ext False w w' := by
 refine (snewG_ok w hT).mono ?_
 rintro _ w' ⟨⟨b, ⟨day, us, rs, aa, ca, lk, mb, gr, ar, cr, ac, cc, ss⟩, rfl, h1, h2, h3⟩, x⟩
 simp only at h3
 subst h3
 exact ⟨⟨b, us, rs, aa, ca, lk, mb, gr, ar, cr, ac, cc, ss, rfl, h1, h2⟩, x⟩
theorem Vq (v0 : Value) (l : List Str) (s : Str) (hs : s.length ≤ 1100000) (most : Int) (w : World) (ht : NtM w v0 l) (hv : nmS s = true) (hn : s ∉ l) (hm : (l.length : Int) < most) (hm2 : l.length < 256) : Ok Tryz.prog 8 #[v0, str s, .int .i64 most] w fun v w' => (∃ b n, v = .tuple #[pB b, .int .i64 n, .int .i64 0] ∧ NtM w' (pB b) (l ++ [s])) ∧ Ext False w w' := by
 refine (nadd_ok v0 l s hs most w ht hv hn hm hm2).mono ?_
 rintro _ w' ⟨⟨p, n, rfl, h⟩, x⟩
 obtain ⟨b, rfl, h⟩ := h.blk
 exact ⟨⟨b, n, rfl, h⟩, x⟩
theorem ggrantB_ok (v0 : Value) (m : List Ent) (w : World) (h : GbIs w v0 m) (hm : OkG m) (e : Ent) (he : e.p.ok) {m' : List Ent} (hg : grantR m e = (m', 0)) : Ok Tryz.prog 11 #[v0, .int .i64 e.r, .agg (encP e.p).toArray] w fun v w' => (∃ b, v = .tuple #[pB b, .int .i64 0] ∧ GbIs w' (pB b) m') ∧ Ext False w w' := by
 refine (ggrant_ok v0 m w h hm e he).mono ?_
 rintro _ w' ⟨⟨p, rfl, hp⟩, x⟩
 rw [hg] at hp ⊢
 obtain ⟨b, rfl, h⟩ := (hp.1 rfl).blk
 exact ⟨⟨b, rfl, h⟩, x⟩
theorem eqItems_z (d : Nat) (e : TypeId) (xs : Array Value) (w : World) (ha : ∀ w, (isAgg e).run Tryz.prog w = .ok false w) (h0 : ∀ w, (Op.equalIn d e (.int .i64 0) (.int .i64 0)).run Tryz.prog w = .ok true w) : ∀ l : List Nat, (∀ i ∈ l, xs[i]? = some (.int .i64 0)) → (Op.eqItems d e 1 xs xs l).run Tryz.prog w = .ok true w
 | [], _ => rfl
 | i :: l, h => by
  have hi := h i List.mem_cons_self
  have hl := eqItems_z d e xs w ha h0 l (fun j hj => h j (List.mem_cons_of_mem _ hj))
  simp only [Op.eqItems, Sem.run_bind, part, ha, Result.andThen_ok, Bool.false_eq_true, if_false, Nat.mul_one, hi, Sem.run_pure, h0, Bool.not_true, hl]
theorem eq_z8 : EqT Tryz.prog 63 (fun _ : Unit => z8) := ⟨by kernel_rfl, fun w x y => by
 rw [run_equalIn_array w 9999 _ _ underlying63 (show Tryz.prog.info? 43 = some Tryz.t43 by kernel_rfl)]
 rw [show Tryz.prog.cellsOf 43 = 1 by kernel_rfl]
 exact eqItems_z 9999 43 _ w isAgg43 (eqI_k 9998 0 0 underlying43) _ (fun i hi => match i, List.mem_range.1 hi with | 0, _ => rfl | 1, _ => rfl | 2, _ => rfl | 3, _ => rfl | 4, _ => rfl | 5, _ => rfl | 6, _ => rfl | 7, _ => rfl)⟩
theorem naddU_ok (v0 : Value) (w : World) (ht : NtM w v0 []) : Ok Tryz.prog 8 #[v0, str [117, 49], .int .i64 9] w fun v w' => (∃ b n, v = .tuple #[pB b, .int .i64 n, .int .i64 0] ∧ NtM w' (pB b) usA) ∧ Ext False w w' :=
 Vq v0 [] [117, 49] (by decide) 9 w ht (by decide) (by simp) (by decide) (by decide)
theorem naddR_ok (v0 : Value) (k : Nat) (hk : k < 2) (w : World) (ht : NtM w v0 (rsA.take k)) : Ok Tryz.prog 8 #[v0, str (rsA.getD k []), .int .i64 9] w fun v w' => (∃ b n, v = .tuple #[pB b, .int .i64 n, .int .i64 0] ∧ NtM w' (pB b) (rsA.take (k + 1))) ∧ Ext False w w' := by
 match k, hk with
 | 0, _ => exact Vq v0 [] [114, 49] (by decide) 9 w ht (by decide) (by simp) (by decide) (by decide)
 | 1, _ => exact Vq v0 [[114, 49]] [114, 50] (by decide) 9 w ht (by decide) (by decide) (by decide) (by decide)
theorem hlinkA_ok (v0 : Value) (w : World) (hh : HyIs w v0 []) (hT : Tb w) : Ok Tryz.prog 18 #[v0, .int .i64 1, .int .i64 2] w fun v w' => (∃ b, v = .tuple #[pB b, .int .i64 0] ∧ HyIs w' (pB b) lkA) ∧ Ext False w w' := by
 refine Ok.mono (hlink_ok v0 [] (fun c => c.val) 1 2 w hh hT (by simp) (by simp) (by decide) (by simp) (by decide) (by decide)) ?_
 rintro _ w' ⟨⟨p, rfl, h⟩, x⟩
 obtain ⟨b, rfl, h⟩ := h.blk
 exact ⟨⟨b, rfl, h⟩, x⟩
theorem massignA_ok (v0 : Value) (w : World) (h : MbIs w v0 []) : Ok Tryz.prog 19 #[v0, .int .i64 1, .int .i64 1, .int .i64 5] w fun v w' => (∃ b, v = .tuple #[pB b, .int .i64 0] ∧ MbIs w' (pB b) mbA) ∧ Ext False w w' := by
 refine Ok.mono (massign_ok v0 [] w h mbN_ok 1 1 5 (by decide) (by decide) (by decide) rfl) ?_
 rintro _ w' ⟨⟨p, rfl, h⟩, x⟩
 obtain ⟨b, rfl, h2⟩ := h.is.blk
 exact ⟨⟨b, rfl, h2⟩, x⟩
theorem mrevokeA_ok (v0 : Value) (w : World) (h : MbIs w v0 mbA) : Ok Tryz.prog 22 #[v0, .int .i64 1, .int .i64 1] w fun v w' => (∃ b, v = .tuple #[pB b, .int .i64 0] ∧ MbIs w' (pB b) []) ∧ Ext False w w' := by
 refine Ok.mono (mrevoke_ok v0 mbA w h mbA_ok 1 1 (by decide) (by decide) (by decide)) ?_
 rintro _ w' ⟨⟨p, rfl, h⟩, x⟩
 obtain ⟨b, rfl, h⟩ := h.blk
 exact ⟨⟨b, rfl, h⟩, x⟩
theorem sopenA_ok (v0 : Value) (w : World) (h : BkIs w v0 []) : Ok Tryz.prog 20 #[v0, .int .i64 1] w fun v w' => (∃ b, v = .tuple #[pB b, .int .i64 1, .int .i64 0] ∧ BkIs w' (pB b) [⟨1, 1, 0⟩]) ∧ Ext False w w' := by
 refine (sopen_ok v0 [] w h OkM.nil 1).mono ?_
 rintro _ w' ⟨⟨p, rfl, hp⟩, x⟩
 rw [op_A] at hp ⊢
 obtain ⟨b, rfl, h⟩ := (hp.1 rfl).blk
 exact ⟨⟨b, rfl, h⟩, x⟩
theorem sactA_ok (v0 : Value) (w : World) (h : BkIs w v0 [⟨1, 1, 0⟩]) : Ok Tryz.prog 21 #[v0, .int .i64 1, .int .i64 1] w fun v w' => (∃ b, v = .tuple #[pB b, .int .i64 0] ∧ BkIs w' (pB b) ssA) ∧ Ext False w w' := by
 refine (sact_ok v0 [⟨1, 1, 0⟩] w h ssO_ok 1 1 (by decide) (by unfold I64; decide)).mono ?_
 rintro _ w' ⟨⟨p, rfl, hp⟩, x⟩
 rw [ac_A] at hp ⊢
 obtain ⟨b, rfl, h⟩ := (hp.1 rfl).blk
 exact ⟨⟨b, rfl, h⟩, x⟩
theorem bofA6_ok (w : World) (vl : Value) (hl : Rd encJ 1 (Lt w.heap.size) w vl [1, 2]) : Ok Tryz.prog 25 #[vl] w fun v w' => (∃ a c, v = .agg (encSV ⟨a, c, 6⟩).toArray ∧ Sl encU 1 (Lt w'.heap.size) w' a c (wl 6)) ∧ Ext False w w' := by
 have q := bof_ok w vl [1, 2] hl (by decide) (by decide)
 rw [of_12] at q
 refine q.mono ?_
 rintro v w' ⟨a, c, h1, h2, x⟩
 exact ⟨⟨a, c, h1, h2.top⟩, x⟩
theorem bofA4_ok (w : World) (vl : Value) (hl : Rd encJ 1 (Lt w.heap.size) w vl [2]) : Ok Tryz.prog 25 #[vl] w fun v w' => (∃ a c, v = .agg (encSV ⟨a, c, 4⟩).toArray ∧ Sl encU 1 (Lt w'.heap.size) w' a c (wl 4)) ∧ Ext False w w' := by
 have q := bof_ok w vl [2] hl (by decide) (by decide)
 rw [of_2] at q
 refine q.mono ?_
 rintro v w' ⟨a, c, h1, h2, x⟩
 exact ⟨⟨a, c, h1, h2.top⟩, x⟩
set_option maxHeartbeats 8000000 in
theorem awake27_ok (w : World) (hT : Tb w) : Ok Tryz.prog 4 #[] w fun v w' => v = .bool true ∧ Ext False w w' := by
 refine Qv 187 func4 rfl rfl rfl ?_
 have hX := xRf w
 refine Qf (Qb (Rr Qj (Qc (Qf (Qb (Qo rfl (Z1 call6) (Ok.mono (snewZ_ok _ hT) ?_)))))))
 rintro _ w1 ⟨⟨b14, us, rs, aa, ca, lk, mb, gr, ar, cr, ac, cc, ss, rfl, hst14, hpt14⟩, x2⟩
 have z3 := x2.size
 replace hX := hX.ex x2
 replace hT := hT.ext x2
 refine Qo rfl (QD call7 rfl) (Ok.mono (JD b14 _ _ hst14 hpt14.orl) ?_)
 rintro _ w4 ⟨⟨a15, rfl⟩, x5⟩
 have z6 := x5.size
 replace hX := hX.ex x5
 replace hT := hT.ext x5
 replace hpt14 := hpt14.ext x5
 have hE1 : Bel False NoB w4 w4 := Bel.refl _ _
 refine Zk rfl rfl zeroValue39 rfl sizeOf39 (fun _ => rfl) rfl rfl ?_
 intro b1 w7 x8 hge1 hb1
 have hlt1 := hb1.lt
 have z9 := x8.size
 replace hX := hX.ex x8
 replace hE1 := Bel.ex hE1 x8
 refine Qc (Qf (Qb ?_))
 change Box _ _ _ [.int .i64 0, pB us, pB rs, .slice aa 0 ca, pB lk, pB mb, pB gr, .slice a15 0 0, .slice none 0 0, pB ss] at hb1
 refine QH rfl (Q4 zeroValue63) ?_
 intro b2 w10 x11 hge2 hb2
 have hlt2 := hb2.lt
 have z12 := x11.size
 replace hX := hX.ex x11
 replace hE1 := Bel.ex hE1 x11
 replace hb1 := hb1.ext x11
 refine Qc (Qf (Qf (Qb ?_)))
 change Box _ _ _ [.int .i64 0, .int .i64 0, .int .i64 0, .int .i64 0, .int .i64 0, .int .i64 0, .int .i64 0, .int .i64 0] at hb2
 have hne12 : b1 ≠ b2 := by omega
 refine Rr (Qy underlying39 rfl sizeOf29 rfl) (Rr (Qm isAgg29 rfl (hb1.at.get 1 rfl)) (Qo rfl (Zg call8 rfl rfl rfl) (Ok.mono (naddU_ok _ _ (hpt14.us.ext hE1)) ?_)))
 rintro _ w13 ⟨⟨b19, n19, rfl, hnt19⟩, x14⟩
 have z15 := x14.size
 replace hX := hX.ex x14
 replace hE1 := Bel.ex hE1 x14
 replace hb1 := hb1.ext x14
 replace hb2 := hb2.ext x14
 have hnu := hnt19.bx2 (bxP hb1) (bxE hb2)
 refine Rr (QG (v := .tuple _) rfl) (Rr (QE rfl rfl) (Rr (QE rfl rfl) (Rr (QE rfl rfl) (Rr (Qy underlying39 rfl sizeOf29 rfl) (Q6 (v := .pointer _) rfl sizeOf29 rfl rfl hb1 rfl rfl rfl ?_)))))
 intro w16 c17 hb1
 have z18 := Bel.size c17
 replace hX := Bel.out hX c17 om2
 replace hE1 := Bel.out hE1 c17 om2
 replace hb2 := hb2.keep c17 om1
 replace hnu := hnu.keepD c17 om3
 refine Rr (ZO (i := 0) underlying63 sizeOf43 rfl rfl (by decide)) (Q6 (v := .int _ _) rfl sizeOf43 rfl rfl hb2 rfl rfl rfl ?_)
 intro w19 c20 hb2
 have z21 := Bel.size c20
 replace hX := Bel.out hX c20 om2
 replace hE1 := Bel.out hE1 c20 om2
 replace hb1 := hb1.keep c20 om1
 replace hnu := hnu.keepD c20 om3
 refine Qc (Qf (Qb (Rr (ZO (i := 0) underlying63 sizeOf43 rfl rfl (by decide)) (Rr (Qm isAgg43 rfl (hb2.at.get 0 rfl)) (Rr (Zv rfl rfl) (Qc (Qq rfl (Qp (Qf (Qf (Qb (ZP (vs := [str _, str _]) (rsA) rfl Q5 ZC rfl rfl ⟨rfl, ⟨rfl, trivial⟩⟩ rfl rfl rfl rfl ?_))))))))))))
 intro a28 w22 x23 hown28
 have z24 := x23.size
 replace hX := hX.ex x23
 replace hE1 := Bel.ex hE1 x23
 replace hb1 := hb1.ext x23
 replace hb2 := hb2.ext x23
 replace hnu := hnu.ext x23
 refine Rr (QC underlying23 rfl) ?_
 have hnr0 := (hpt14.rs.ext hE1).bx2 (bxP hb1) (bxE hb2)
 refine Rr QP (Qc (Qt (QU (α := Nat × Nat) [(0, 0), (3, 4), (30, 50)] (fun q => [(30, .int .i64 (q.1 : Int))]) (fun q w' => (q.1 ≤ 2) ∧ Bel False (fun g => g = b1 ∨ g = b2) w22 w' ∧ (Box w' b1 39 [.int .i64 0, pB b19, pB q.2, .slice aa 0 ca, pB lk, pB mb, pB gr, .slice a15 0 0, .slice none 0 0, pB ss] ∧ Box w' b2 63 [.int .i64 0, .int .i64 0, .int .i64 0, .int .i64 0, .int .i64 0, .int .i64 0, .int .i64 0, .int .i64 0] ∧ NtF (fun g => g ≠ b1 ∧ g ≠ b2) w' (pB q.2) (rsA.take q.1))) (fun q => 2 - q.1) (0, rs) ⟨rfl, trivial⟩ ⟨Nat.zero_le _, Bel.refl _ _, ⟨hb1, hb2, hnr0⟩⟩ ?_)))
 rintro ⟨k, rb⟩ fb27 w26 ⟨hk, hXL25, ⟨hb1, hb2, hnr⟩⟩
 dsimp only at *
 have z28 := Bel.size hXL25
 replace hX := Bel.out hX hXL25 om2
 replace hE1 := Bel.out hE1 hXL25 om2
 replace hnu := hnu.keepD hXL25 om3
 replace hown28 := hown28.keepD hXL25 om3
 refine Qf (Qb (Rr (QM rfl rfl) (Qc (Qf (Qw rfl (fun hc2 => ?_) (fun hc2 => ?_))))))
 ·have hk2 : k < 2 := by have h := dcT hc2; have h2 : rsA.length = 2 := rfl; omega
  have hk3 : k < rsA.length := hk2
  refine Qp (Qf (Qt (Qf (Qb (Rr (mvI rfl) (Rr (QW underlying23 sizeOf9 (hown28.slA Q5) rfl rfl omg) (Rr (Zx isAgg9 (hown28.slA Q5) rfl rfl (Ze [] hk2) rfl) (Rr (asI rfl) (Rr (asT rfl) (Qc (Qf (Qb ((Decidable.em (k = 0)).elim (fun hk0 => ?_) (fun hk0 => ?_))))))))))))))
  ·have hke : k = 0 := hk0
   refine Rr (mvI rfl) (Rr (Qy underlying39 rfl sizeOf29 rfl) (Rr (Qm isAgg29 rfl (hb1.at.get 2 rfl)) (Rr (mvT rfl) (Qo rfl (Zg call8 rfl rfl rfl) (Ok.mono (naddR_ok _ k hk2 _ hnr.is) ?_)))))
   rintro _ w29 ⟨⟨b40, n40, rfl, hnt40⟩, x30⟩
   have z31 := x30.size
   replace hXL25 := Bel.ex hXL25 x30
   replace hE1 := Bel.ex hE1 x30
   replace hb1 := hb1.ext x30
   replace hb2 := hb2.ext x30
   replace hnr := hnr.ext x30
   replace hnr := hnt40.bx2 (bxP hb1) (bxE hb2)
   refine Rr (QG (v := .tuple _) rfl) (Rr (QE rfl rfl) (Rr (QE rfl rfl) (Rr (QE rfl rfl) (Rr (Qy underlying39 rfl sizeOf29 rfl) (Q6 (v := .pointer _) rfl sizeOf29 rfl rfl hb1 rfl rfl rfl ?_)))))
   intro w32 c33 hb1
   have z34 := Bel.size c33
   replace hXL25 := Bel.out hXL25 c33 om2
   replace hE1 := Bel.out hE1 c33 om2
   replace hb2 := hb2.keep c33 om1
   replace hnr := hnr.keepD c33 om3
   refine Rr (ZO (i := 0) underlying63 sizeOf43 rfl (congrArg (fun z : Nat => Value.int .i64 (z : Int)) hke) (by decide)) (Q6 (v := .int _ _) rfl sizeOf43 rfl rfl hb2 rfl rfl rfl ?_)
   intro w35 c36 hb2
   have z37 := Bel.size c36
   replace hXL25 := Bel.out hXL25 c36 om2
   replace hE1 := Bel.out hE1 c36 om2
   replace hb1 := hb1.keep c36 om1
   replace hnr := hnr.keepD c36 om3
   refine Qc (Qf (Qb (Rr (mvI rfl) (Rr (ZO (i := 0) underlying63 sizeOf43 rfl (congrArg (fun z : Nat => Value.int .i64 (z : Int)) hke) (by decide)) (Rr (Qm isAgg43 rfl (hb2.at.get 0 rfl)) (Rr (Zv rfl rfl) (Qc (Qq rfl (Qp (Qb (Rr (QO rfl rfl omg) ?_)))))))))))
   have hnr0 := (hpt14.rs.ext hE1).bx2 (bxP hb1) (bxE hb2)
   refine Rr (mvI rfl) (Qc ⟨(k + 1, b40), ⟨sT, trivial⟩, oT, ⟨?_, hXL25, ?_⟩, ?_⟩)
   ·show k + 1 ≤ 2; omega
   ·exact ⟨hb1, hb2, hnr⟩
   ·show 2 - (k + 1) < 2 - k; omega
  have hke : k = 1 := by omega
  refine Rr (mvI rfl) (Rr (Qy underlying39 rfl sizeOf29 rfl) (Rr (Qm isAgg29 rfl (hb1.at.get 2 rfl)) (Rr (mvT rfl) (Qo rfl (Zg call8 rfl rfl rfl) (Ok.mono (naddR_ok _ k hk2 _ hnr.is) ?_)))))
  rintro _ w38 ⟨⟨b40, n40, rfl, hnt40⟩, x39⟩
  have z40 := x39.size
  replace hXL25 := Bel.ex hXL25 x39
  replace hE1 := Bel.ex hE1 x39
  replace hb1 := hb1.ext x39
  replace hb2 := hb2.ext x39
  replace hnr := hnr.ext x39
  replace hnr := hnt40.bx2 (bxP hb1) (bxE hb2)
  refine Rr (QG (v := .tuple _) rfl) (Rr (QE rfl rfl) (Rr (QE rfl rfl) (Rr (QE rfl rfl) (Rr (Qy underlying39 rfl sizeOf29 rfl) (Q6 (v := .pointer _) rfl sizeOf29 rfl rfl hb1 rfl rfl rfl ?_)))))
  intro w41 c42 hb1
  have z43 := Bel.size c42
  replace hXL25 := Bel.out hXL25 c42 om2
  replace hE1 := Bel.out hE1 c42 om2
  replace hb2 := hb2.keep c42 om1
  replace hnr := hnr.keepD c42 om3
  refine Rr (ZO (i := 1) underlying63 sizeOf43 rfl (congrArg (fun z : Nat => Value.int .i64 (z : Int)) hke) (by decide)) (Q6 (v := .int _ _) rfl sizeOf43 rfl rfl hb2 rfl rfl rfl ?_)
  intro w44 c45 hb2
  have z46 := Bel.size c45
  replace hXL25 := Bel.out hXL25 c45 om2
  replace hE1 := Bel.out hE1 c45 om2
  replace hb1 := hb1.keep c45 om1
  replace hnr := hnr.keepD c45 om3
  refine Qc (Qf (Qb (Rr (mvI rfl) (Rr (ZO (i := 1) underlying63 sizeOf43 rfl (congrArg (fun z : Nat => Value.int .i64 (z : Int)) hke) (by decide)) (Rr (Qm isAgg43 rfl (hb2.at.get 1 rfl)) (Rr (Zv rfl rfl) (Qc (Qq rfl (Qp (Qb (Rr (QO rfl rfl omg) ?_)))))))))))
  have hnr0 := (hpt14.rs.ext hE1).bx2 (bxP hb1) (bxE hb2)
  refine Rr (mvI rfl) (Qc ⟨(k + 1, b40), ⟨sT, trivial⟩, oT, ⟨?_, hXL25, ?_⟩, ?_⟩)
  ·show k + 1 ≤ 2; omega
  ·exact ⟨hb1, hb2, hnr⟩
  ·show 2 - (k + 1) < 2 - k; omega
 have hk2 : ¬ k < 2 := by have h := dcF hc2; have h2 : rsA.length = 2 := rfl; omega
 refine QN (QI (Qf (Qb ?_)))
 rw [List.take_of_length_le (show rsA.length ≤ k by have : rsA.length = 2 := rfl; omega)] at hnr
 refine Rr (Qy underlying39 rfl sizeOf33 rfl) (Rr (Qm isAgg33 rfl (hb1.at.get 4 rfl)) (Qo rfl (Zg call18 rfl rfl rfl) (Ok.mono (hlinkA_ok _ _ (hpt14.lk.ext hE1) (hT.ext hE1)) ?_)))
 rintro _ w47 ⟨⟨b54, rfl, hhy54⟩, x48⟩
 have z49 := x48.size
 replace hX := hX.ex x48
 replace hE1 := Bel.ex hE1 x48
 replace hnu := hnu.ext x48
 replace hb1 := hb1.ext x48
 replace hb2 := hb2.ext x48
 replace hnr := hnr.ext x48
 have hhy := hhy54.bx2 (bxP hb1) (bxE hb2) (by decide)
 refine Rr (QG (v := .tuple _) rfl) (Rr (QE rfl rfl) (Rr (QE rfl rfl) (Rr (Qy underlying39 rfl sizeOf33 rfl) (Q6 (v := .pointer _) rfl sizeOf33 rfl rfl hb1 rfl rfl rfl ?_))))
 intro w50 c51 hb1
 have z52 := Bel.size c51
 replace hX := Bel.out hX c51 om2
 replace hE1 := Bel.out hE1 c51 om2
 replace hnu := hnu.keepD c51 om3
 replace hb2 := hb2.keep c51 om1
 replace hnr := hnr.keepD c51 om3
 replace hhy := hhy.keepD c51 om3
 refine Rr (ZO (i := 0) underlying63 sizeOf43 rfl rfl (by decide)) (Q6 (v := .int _ _) rfl sizeOf43 rfl rfl hb2 rfl rfl rfl ?_)
 intro w53 c54 hb2
 have z55 := Bel.size c54
 replace hX := Bel.out hX c54 om2
 replace hE1 := Bel.out hE1 c54 om2
 replace hnu := hnu.keepD c54 om3
 replace hb1 := hb1.keep c54 om1
 replace hnr := hnr.keepD c54 om3
 replace hhy := hhy.keepD c54 om3
 refine Qc (Qf (Qb (Rr (Qy underlying39 rfl sizeOf34 rfl) (Rr (Qm isAgg34 rfl (hb1.at.get 5 rfl)) (Qo rfl (o_call4 call19 rfl rfl rfl rfl) (Ok.mono (massignA_ok _ _ (hpt14.mb.ext hE1)) ?_))))))
 rintro _ w56 ⟨⟨b62, rfl, hmb62⟩, x57⟩
 have z58 := x57.size
 replace hX := hX.ex x57
 replace hE1 := Bel.ex hE1 x57
 replace hnu := hnu.ext x57
 replace hb1 := hb1.ext x57
 replace hb2 := hb2.ext x57
 replace hnr := hnr.ext x57
 replace hhy := hhy.ext x57
 have hmb := hmb62.bx2 (bxP hb1) (bxE hb2) (by decide)
 refine Rr (QG (v := .tuple _) rfl) (Rr (QE rfl rfl) (Rr (QE rfl rfl) (Rr (Qy underlying39 rfl sizeOf34 rfl) (Q6 (v := .pointer _) rfl sizeOf34 rfl rfl hb1 rfl rfl rfl ?_))))
 intro w59 c60 hb1
 have z61 := Bel.size c60
 replace hX := Bel.out hX c60 om2
 replace hE1 := Bel.out hE1 c60 om2
 replace hnu := hnu.keepD c60 om3
 replace hb2 := hb2.keep c60 om1
 replace hnr := hnr.keepD c60 om3
 replace hhy := hhy.keepD c60 om3
 replace hmb := hmb.keepD c60 om3
 refine Rr (ZO (i := 1) underlying63 sizeOf43 rfl rfl (by decide)) (Q6 (v := .int _ _) rfl sizeOf43 rfl rfl hb2 rfl rfl rfl ?_)
 intro w62 c63 hb2
 have z64 := Bel.size c63
 replace hX := Bel.out hX c63 om2
 replace hE1 := Bel.out hE1 c63 om2
 replace hnu := hnu.keepD c63 om3
 replace hb1 := hb1.keep c63 om1
 replace hnr := hnr.keepD c63 om3
 replace hhy := hhy.keepD c63 om3
 replace hmb := hmb.keepD c63 om3
 refine Qc (Qf (Qb (Rr (Qy underlying39 rfl sizeOf25 rfl) (Rr (Qm isAgg25 rfl (hb1.at.get 6 rfl)) (Rr (Q2 (cells := encP geA.p) (vs := [(0, str _), (1, str _), (2, .bool _)]) rfl (by kernel_rfl)) (Qo rfl (Zg call11 rfl rfl rfl) (Ok.mono (ggrantB_ok _ [] _ (hpt14.gr.ext hE1) OkG.nil geA geA_ok gr_A) ?_)))))))
 rintro _ w65 ⟨⟨b71, rfl, hgb71⟩, x66⟩
 have z67 := x66.size
 replace hX := hX.ex x66
 replace hE1 := Bel.ex hE1 x66
 replace hnu := hnu.ext x66
 replace hb1 := hb1.ext x66
 replace hb2 := hb2.ext x66
 replace hnr := hnr.ext x66
 replace hhy := hhy.ext x66
 replace hmb := hmb.ext x66
 have hgb := hgb71.bx2 (bxP hb1) (bxE hb2) grA_ok
 refine Rr (QG (v := .tuple _) rfl) (Rr (QE rfl rfl) (Rr (QE rfl rfl) (Rr (Qy underlying39 rfl sizeOf25 rfl) (Q6 (v := .pointer _) rfl sizeOf25 rfl rfl hb1 rfl rfl rfl ?_))))
 intro w68 c69 hb1
 have z70 := Bel.size c69
 replace hX := Bel.out hX c69 om2
 replace hE1 := Bel.out hE1 c69 om2
 replace hnu := hnu.keepD c69 om3
 replace hb2 := hb2.keep c69 om1
 replace hnr := hnr.keepD c69 om3
 replace hhy := hhy.keepD c69 om3
 replace hmb := hmb.keepD c69 om3
 replace hgb := hgb.keep c69 om3
 refine Rr (ZO (i := 2) underlying63 sizeOf43 rfl rfl (by decide)) (Q6 (v := .int _ _) rfl sizeOf43 rfl rfl hb2 rfl rfl rfl ?_)
 intro w71 c72 hb2
 have z73 := Bel.size c72
 replace hX := Bel.out hX c72 om2
 replace hE1 := Bel.out hE1 c72 om2
 replace hnu := hnu.keepD c72 om3
 replace hb1 := hb1.keep c72 om1
 replace hnr := hnr.keepD c72 om3
 replace hhy := hhy.keepD c72 om3
 replace hmb := hmb.keepD c72 om3
 replace hgb := hgb.keep c72 om3
 refine Qc (Qf (Qb (Rr (Qy underlying39 rfl sizeOf37 rfl) (Rr (Qm isAgg37 rfl (hb1.at.get 9 rfl)) (Qo rfl (QB call20 rfl rfl) (Ok.mono (sopenA_ok _ _ (hpt14.ss.ext hE1)) ?_))))))
 rintro _ w74 ⟨⟨b79, rfl, hbk79⟩, x75⟩
 have z76 := x75.size
 replace hX := hX.ex x75
 replace hE1 := Bel.ex hE1 x75
 replace hnu := hnu.ext x75
 replace hb1 := hb1.ext x75
 replace hb2 := hb2.ext x75
 replace hnr := hnr.ext x75
 replace hhy := hhy.ext x75
 replace hmb := hmb.ext x75
 replace hgb := hgb.ext x75
 have hbk := hbk79.bx2 (bxP hb1) (bxE hb2) (by decide)
 refine Rr (QG (v := .tuple _) rfl) (Rr (QE rfl rfl) (Rr (QE rfl rfl) (Rr (QE rfl rfl) (Rr (Qy underlying39 rfl sizeOf37 rfl) (Q6 (v := .pointer _) rfl sizeOf37 rfl rfl hb1 rfl rfl rfl ?_)))))
 intro w77 c78 hb1
 have z79 := Bel.size c78
 replace hX := Bel.out hX c78 om2
 replace hE1 := Bel.out hE1 c78 om2
 replace hnu := hnu.keepD c78 om3
 replace hb2 := hb2.keep c78 om1
 replace hnr := hnr.keepD c78 om3
 replace hhy := hhy.keepD c78 om3
 replace hmb := hmb.keepD c78 om3
 replace hgb := hgb.keep c78 om3
 replace hbk := hbk.keepD c78 om3
 refine Rr (ZO (i := 3) underlying63 sizeOf43 rfl rfl (by decide)) (Q6 (v := .int _ _) rfl sizeOf43 rfl rfl hb2 rfl rfl rfl ?_)
 intro w80 c81 hb2
 have z82 := Bel.size c81
 replace hX := Bel.out hX c81 om2
 replace hE1 := Bel.out hE1 c81 om2
 replace hnu := hnu.keepD c81 om3
 replace hb1 := hb1.keep c81 om1
 replace hnr := hnr.keepD c81 om3
 replace hhy := hhy.keepD c81 om3
 replace hmb := hmb.keepD c81 om3
 replace hgb := hgb.keep c81 om3
 replace hbk := hbk.keepD c81 om3
 refine Qc (Qf (Qb (Rr (Qy underlying39 rfl sizeOf37 rfl) (Rr (Qm isAgg37 rfl (hb1.at.get 9 rfl)) (Qo rfl (Zg call21 rfl rfl rfl) (Ok.mono (sactA_ok _ _ hbk.is) ?_))))))
 rintro _ w83 ⟨⟨b88, rfl, hbk88⟩, x84⟩
 have z85 := x84.size
 replace hX := hX.ex x84
 replace hE1 := Bel.ex hE1 x84
 replace hnu := hnu.ext x84
 replace hb1 := hb1.ext x84
 replace hb2 := hb2.ext x84
 replace hnr := hnr.ext x84
 replace hhy := hhy.ext x84
 replace hmb := hmb.ext x84
 replace hgb := hgb.ext x84
 replace hbk := hbk.ext x84
 replace hbk := hbk88.bx2 (bxP hb1) (bxE hb2) (by decide)
 refine Rr (QG (v := .tuple _) rfl) (Rr (QE rfl rfl) (Rr (QE rfl rfl) (Rr (Qy underlying39 rfl sizeOf37 rfl) (Q6 (v := .pointer _) rfl sizeOf37 rfl rfl hb1 rfl rfl rfl ?_))))
 intro w86 c87 hb1
 have z88 := Bel.size c87
 replace hX := Bel.out hX c87 om2
 replace hE1 := Bel.out hE1 c87 om2
 replace hnu := hnu.keepD c87 om3
 replace hb2 := hb2.keep c87 om1
 replace hnr := hnr.keepD c87 om3
 replace hhy := hhy.keepD c87 om3
 replace hmb := hmb.keepD c87 om3
 replace hgb := hgb.keep c87 om3
 replace hbk := hbk.keepD c87 om3
 refine Rr (ZO (i := 4) underlying63 sizeOf43 rfl rfl (by decide)) (Q6 (v := .int _ _) rfl sizeOf43 rfl rfl hb2 rfl rfl rfl ?_)
 intro w89 c90 hb2
 have z91 := Bel.size c90
 replace hX := Bel.out hX c90 om2
 replace hE1 := Bel.out hE1 c90 om2
 replace hnu := hnu.keepD c90 om3
 replace hb1 := hb1.keep c90 om1
 replace hnr := hnr.keepD c90 om3
 replace hhy := hhy.keepD c90 om3
 replace hmb := hmb.keepD c90 om3
 replace hgb := hgb.keep c90 om3
 replace hbk := hbk.keepD c90 om3
 refine Qc (Qf (Qb ?_))
 have hps1 : PsIs w89 (⟨0, b19, rb, aa, ca, b54, b62, b71, a15, 0, none, 0, b88⟩ : PtV) (stM mbA) := ⟨hnu.is, hnr.is, hhy.is, hmb.is, hgb.is, hbk.is, hpt14.oa, ⟨Nat.zero_le _, fun _ => rfl⟩⟩
 refine Rr (QF isAgg39 sizeOf39 rfl hb1.at rfl) (Qo rfl (QD call12 rfl) (Ok.mono (sofG_ok (⟨0, b19, rb, aa, ca, b54, b62, b71, a15, 0, none, 0, b88⟩ : PtV) (stM mbA) _ hps1 stA_ok (show (0 : Int) ≤ 0 ∧ (0 : Int) ≤ 30000 by decide)) ?_))
 rintro _ w92 ⟨⟨b95, a95, rfl, hgs95, hst95, hpt95⟩, x93⟩
 have z94 := x93.size
 replace hX := hX.ex x93
 replace hE1 := Bel.ex hE1 x93
 replace hnu := hnu.ext x93
 replace hb1 := hb1.ext x93
 replace hb2 := hb2.ext x93
 replace hnr := hnr.ext x93
 replace hhy := hhy.ext x93
 replace hmb := hmb.ext x93
 replace hgb := hgb.ext x93
 replace hbk := hbk.ext x93
 refine Rr (QG (v := .tuple _) rfl) (Rr (QE rfl rfl) (Rr (QE rfl rfl) (Rr (asP rfl) (Rr (asI rfl) (Qc (Qf (Qb (Rr (Qy underlying39 rfl sizeOf34 rfl) (Rr (Qm isAgg34 rfl (hb1.at.get 5 rfl)) (Qo rfl (Zg call22 rfl rfl rfl) (Ok.mono (mrevokeA_ok _ _ hmb.is) ?_)))))))))))
 rintro _ w95 ⟨⟨b101, rfl, hmr101⟩, x96⟩
 have z97 := x96.size
 replace hX := hX.ex x96
 replace hE1 := Bel.ex hE1 x96
 replace hnu := hnu.ext x96
 replace hb1 := hb1.ext x96
 replace hb2 := hb2.ext x96
 replace hnr := hnr.ext x96
 replace hhy := hhy.ext x96
 replace hmb := hmb.ext x96
 replace hgb := hgb.ext x96
 replace hbk := hbk.ext x96
 replace hst95 := hst95.ext x96
 have hmr := hmr101.bx2 (bxP hb1) (bxE hb2) (by simp)
 refine Rr (QG (v := .tuple _) rfl) (Rr (QE rfl rfl) (Rr (QE rfl rfl) (Rr (Qy underlying39 rfl sizeOf34 rfl) (Q6 (v := .pointer _) rfl sizeOf34 rfl rfl hb1 rfl rfl rfl ?_))))
 intro w98 c99 hb1
 have z100 := Bel.size c99
 replace hX := Bel.out hX c99 om2
 replace hE1 := Bel.out hE1 c99 om2
 replace hnu := hnu.keepD c99 om3
 replace hb2 := hb2.keep c99 om1
 replace hnr := hnr.keepD c99 om3
 replace hhy := hhy.keepD c99 om3
 replace hmb := hmb.keepD c99 om3
 replace hgb := hgb.keep c99 om3
 replace hbk := hbk.keepD c99 om3
 replace hst95 := hst95.keep c99 om1
 replace hmr := hmr.keepD c99 om3
 refine Rr (ZO (i := 5) underlying63 sizeOf43 rfl rfl (by decide)) (Q6 (v := .int _ _) rfl sizeOf43 rfl rfl hb2 rfl rfl rfl ?_)
 intro w101 c102 hb2
 have z103 := Bel.size c102
 replace hX := Bel.out hX c102 om2
 replace hE1 := Bel.out hE1 c102 om2
 replace hnu := hnu.keepD c102 om3
 replace hb1 := hb1.keep c102 om1
 replace hnr := hnr.keepD c102 om3
 replace hhy := hhy.keepD c102 om3
 replace hmb := hmb.keepD c102 om3
 replace hgb := hgb.keep c102 om3
 replace hbk := hbk.keepD c102 om3
 replace hst95 := hst95.keep c102 om1
 replace hmr := hmr.keepD c102 om3
 refine Qc (Qf (Qb ?_))
 have hps2 : PsIs w101 (⟨0, b19, rb, aa, ca, b54, b101, b71, a15, 0, none, 0, b88⟩ : PtV) (stM []) := ⟨hnu.is, hnr.is, hhy.is, hmr.is, hgb.is, hbk.is, hpt14.oa, ⟨Nat.zero_le _, fun _ => rfl⟩⟩
 refine Rr (QF isAgg39 sizeOf39 rfl hb1.at rfl) (Qo rfl (QD call12 rfl) (Ok.mono (sofG_ok (⟨0, b19, rb, aa, ca, b54, b101, b71, a15, 0, none, 0, b88⟩ : PtV) (stM []) _ hps2 stB_ok (show (0 : Int) ≤ 0 ∧ (0 : Int) ≤ 30000 by decide)) ?_))
 rintro _ w104 ⟨⟨b108, a108, rfl, hgs108, hst108, hpt108⟩, x105⟩
 replace hX := hX.ex x105
 replace hE1 := Bel.ex hE1 x105
 replace hnu := hnu.ext x105
 replace hb2 := hb2.ext x105
 replace hnr := hnr.ext x105
 replace hhy := hhy.ext x105
 replace hmb := hmb.ext x105
 replace hgb := hgb.ext x105
 replace hbk := hbk.ext x105
 replace hst95 := hst95.ext x105
 refine Rr (QG (v := .tuple _) rfl) (Rr (QE rfl rfl) (Rr (QE rfl rfl) (Rr (asP rfl) (Rr (asI rfl) (Qc (Qf (Qf (Qb ?_))))))))
 change Box _ _ _ [.int .i64 0, .int .i64 0, .int .i64 0, .int .i64 0, .int .i64 0, .int .i64 0, .int .i64 0, .int .i64 0] at hb2
 have hps3 : PsIs w104 (ptL (⟨0, b19, rb, aa, ca, b54, b62, b71, a15, 0, none, 0, b88⟩ : PtV) a95) (stM mbA) := PsIs.lists ⟨hnu.is, hnr.is, hhy.is, hmb.is, hgb.is, hbk.is, hpt14.oa, ⟨Nat.zero_le _, fun _ => rfl⟩⟩
 have hT2 := hT.ext hE1
 obtain ⟨ph, po, od, hph, hha, ho, hok⟩ := hhy.is
 cases hph
 refine Rr (QF isAgg63 sizeOf63 rfl hb2.at rfl) (Rr (Q2 (cells := [.int .i64 0, .int .i64 0, .int .i64 0, .int .i64 0, .int .i64 0, .int .i64 0, .int .i64 0, .int .i64 0]) (vs := []) rfl (by kernel_rfl)) (Rr (JV (a := ()) (b := ()) eq_z8 rfl rfl) (Rr (mvB rfl) (QA 3 114 rfl rfl (Rr (mvI rfl) (QA 3 114 rfl rfl (Rr (Zv rfl rfl) (Rr (Q0 (v := .bool _) rfl rfl) (Rr (mvB rfl) (QA 7 118 rfl rfl (Rr (mvI rfl) (QA 7 118 rfl rfl (Rr (Zv rfl rfl) (Rr (Q0 (v := .bool _) rfl rfl) (Qc (Qq rfl (Qp (Qf (Qb (Rr (mvP rfl) (Qo rfl (QD call13 rfl) (Ok.mono (cnew_ok b95 po (ptL (⟨0, b19, rb, aa, ca, b54, b62, b71, a15, 0, none, 0, b88⟩ : PtV) a95) (stM mbA) od _ hst95 hps3 stA_ok hha ho hT2 (by decide) (by decide)) ?_))))))))))))))))))))))
 rintro _ w107 ⟨⟨bt123, rfl, t123, q123, htb123, hto123, htd123, htm123, htj123, hte123, htmm123, l123, htl123, htos123⟩, x108⟩
 replace hX := hX.ex x108
 replace hst95 := hst95.ext x108
 replace hst108 := hst108.ext x108
 replace hpt108 := hpt108.ext x108
 replace hps3 := hps3.ext x108
 replace hT2 := hT2.ext x108
 refine Rr (asP rfl) (Qc (Qf (Qb ?_)))
 have hA := tbA_of hok htj123 hte123 htmm123 htl123 htos123
 refine Rr (mvP rfl) (Rr (mvP rfl) ?_)
 refine Qo rfl (QB call23 rfl rfl) (Ok.mono (tupd_ok bt123 b108 b95 (ptL (⟨0, b19, rb, aa, ca, b54, b101, b71, a15, 0, none, 0, b88⟩ : PtV) a108) (ptL (⟨0, b19, rb, aa, ca, b54, b62, b71, a15, 0, none, 0, b88⟩ : PtV) a95) (stM []) (stM mbA) t123 q123 _ htb123 hto123 hst95 hps3 hst108 hpt108 stB_ok rfl rfl rfl rfl hT2 rfl (by decide) rfl hA.jl hA.el (by rw [hA.e0]; exact (by decide : ((2 : W64) == onW [] ((0 + 1 : Nat) : Int) 0) = false)) htm123 (by decide) (by decide)) ?_)
 rintro _ w110 ⟨⟨bt127, n127, rfl, t127, q127, htb127, hto127, htd127, htm127, htj127, hte127, htmm127, l127, htl127, htos127⟩, x111⟩
 replace hX := hX.ex x111
 replace hst108 := hst108.ext x111
 replace hpt108 := hpt108.ext x111
 replace htb123 := TbIs.ext htb123 x111
 refine Rr (QG (v := .tuple _) rfl) (Rr (QE rfl rfl) (Rr (QE rfl rfl) (Rr (asP rfl) (Rr (asI rfl) (Qc (Qf (Qb ?_)))))))
 have hB := tbB_of (by rw [htj127]; exact hA.j) hte127 htmm127 htl127 htos127
 refine Rr (mvP rfl) (Rr (mvP rfl) (Qo rfl (QB call23 rfl rfl) (Ok.mono (tupd0_ok bt127 b108 b108 (ptL (⟨0, b19, rb, aa, ca, b54, b101, b71, a15, 0, none, 0, b88⟩ : PtV) a108) (ptL (⟨0, b19, rb, aa, ca, b54, b101, b71, a15, 0, none, 0, b88⟩ : PtV) a108) (stM []) (stM []) t127 q127 _ htb127 hto127 hst108 hpt108 hst108 hpt108 stB_ok rfl rfl rfl rfl rfl rfl rfl rfl (by decide)) ?_)))
 rintro _ w113 ⟨rfl, x114⟩
 replace hX := hX.ex x114
 replace htb123 := TbIs.ext htb123 x114
 replace htb127 := TbIs.ext htb127 x114
 refine Rr (QG (v := .tuple _) rfl) (Rr (QE rfl rfl) (Rr (QE rfl rfl) (Rr (asP rfl) (Rr (asI rfl) (Qc (Qf (Qb (Rr (mvP rfl) ?_))))))))
 refine Qo rfl (QB call24 rfl rfl) (Ok.mono (JO bt123 _ _ nilS _ _ _ _ _ q123.am q123.cm _ t123.M 1 (by unfold I64; decide) _ htb123.at' htb123.m) ?_)
 rintro _ w116 ⟨rfl, x117⟩
 replace hX := hX.ex x117
 replace htb123 := TbIs.ext htb123 x117
 replace htb127 := TbIs.ext htb127 x117
 refine ZP (vs := [.int _ _, .int _ _]) (([1, 2] : List Int)) rfl ZH JT rfl rfl ⟨rfl, ⟨rfl, trivial⟩⟩ rfl rfl rfl rfl ?_
 intro a138 w119 x120 hown138
 replace hX := hX.ex x120
 replace htb123 := TbIs.ext htb123 x120
 replace htb127 := TbIs.ext htb127 x120
 refine Qo rfl (QD call25 rfl) (Ok.mono (bofA6_ok _ _ (hown138.trd ZH)) ?_)
 rintro _ w122 ⟨⟨a139, c139, rfl, hq139⟩, x123⟩
 replace hX := hX.ex x123
 replace htb123 := TbIs.ext htb123 x123
 replace htb127 := TbIs.ext htb127 x123
 refine Qo rfl (QB call16 rfl rfl) (Ok.mono (Z5 _ (getV t123.M (1 - 1)) _ (Jx htb123.mw _) ⟨a139, c139, 6⟩ _ hq139) ?_)
 rintro _ w125 ⟨rfl, x126⟩
 replace hX := hX.ex x126
 replace htb123 := TbIs.ext htb123 x126
 replace htb127 := TbIs.ext htb127 x126
 refine Rr (mvB rfl) (QA 5 141 rfl (cvB (beq_iff_eq.2 hA.m0)) (Rr (mvP rfl) (QA 5 141 rfl (cvB (beq_iff_eq.2 hA.m0)) (Qo rfl (QB call26 rfl rfl) (Ok.mono (teff_ok bt123 q123.mo _ _ _ _ (.bool true) _ _ _ t123.O 1 _ htb123.at' htb123.o.1) ?_)))))
 rintro _ w128 ⟨rfl, x129⟩
 replace hX := hX.ex x129
 replace htb123 := TbIs.ext htb123 x129
 replace htb127 := TbIs.ext htb127 x129
 refine QA 5 141 rfl (cvB (beq_iff_eq.2 hA.m0)) (ZP (vs := [.int _ _, .int _ _]) (([1, 2] : List Int)) rfl ZH JT rfl rfl ⟨rfl, ⟨rfl, trivial⟩⟩ rfl rfl rfl rfl ?_)
 intro a144 w131 x132 hown144
 replace hX := hX.ex x132
 replace htb123 := TbIs.ext htb123 x132
 replace htb127 := TbIs.ext htb127 x132
 refine QA 5 141 rfl (cvB (beq_iff_eq.2 hA.m0)) (Qo rfl (QD call25 rfl) (Ok.mono (bofA6_ok _ _ (hown144.trd ZH)) ?_))
 rintro _ w134 ⟨⟨a145, c145, rfl, hq145⟩, x135⟩
 replace hX := hX.ex x135
 replace htb123 := TbIs.ext htb123 x135
 replace htb127 := TbIs.ext htb127 x135
 refine QA 5 141 rfl (cvB (beq_iff_eq.2 hA.m0)) (Qo rfl (QB call16 rfl rfl) (Ok.mono (Z5 _ ((getM t123.O 1).getD rwz0).s _ (htb123.o.get 1) ⟨a145, c145, 6⟩ _ hq145) ?_))
 rintro _ w137 ⟨rfl, x138⟩
 replace hX := hX.ex x138
 replace htb123 := TbIs.ext htb123 x138
 replace htb127 := TbIs.ext htb127 x138
 refine Rr (Q7 (v := .bool _) (cvB (beq_iff_eq.2 hA.m0)) rfl) (Rr (mvB rfl) (QA 12 148 rfl (cvB (beq_iff_eq.2 hA.o1)) (Rr (mvP rfl) (QA 12 148 rfl (cvB (beq_iff_eq.2 hA.o1)) ?_))))
 refine Qo rfl (Zg call14 rfl rfl rfl) (Ok.mono (tcov_ok bt123 q123.tr _ _ _ _ _ _ _ _ t123.m (by rw [htm123]; exact grA_ok) [114, 101, 97, 100] [47, 97, 47, 98] (by decide) (by decide) _ htb123.at' htb123.tr) ?_)
 rintro _ w140 ⟨a150, c150, rfl, hq150, x141⟩
 replace hX := hX.ex x141
 replace htb123 := TbIs.ext htb123 x141
 replace htb127 := TbIs.ext htb127 x141
 refine QA 12 148 rfl (cvB (beq_iff_eq.2 hA.o1)) (ZP (vs := [.int _ _]) (([2] : List Int)) rfl ZH JT rfl rfl ⟨rfl, trivial⟩ rfl rfl rfl rfl ?_)
 intro a151 w143 x144 hown151
 replace hX := hX.ex x144
 replace htb123 := TbIs.ext htb123 x144
 replace htb127 := TbIs.ext htb127 x144
 replace hq150 := hq150.ext x144
 refine QA 12 148 rfl (cvB (beq_iff_eq.2 hA.o1)) (Qo rfl (QD call25 rfl) (Ok.mono (bofA4_ok _ _ (hown151.trd ZH)) ?_))
 rintro _ w146 ⟨⟨a152, c152, rfl, hq152⟩, x147⟩
 replace hX := hX.ex x147
 replace htb123 := TbIs.ext htb123 x147
 replace htb127 := TbIs.ext htb127 x147
 replace hq150 := hq150.ext x147
 refine QA 12 148 rfl (cvB (beq_iff_eq.2 hA.o1)) (Qo rfl (QB call16 rfl rfl) (Ok.mono (Z5 _ ⟨a150, c150, covW t123.m [114, 101, 97, 100] [47, 97, 47, 98]⟩ _ hq150 ⟨a152, c152, 4⟩ _ hq152) ?_))
 rintro _ w149 ⟨rfl, x150⟩
 replace hX := hX.ex x150
 replace htb123 := TbIs.ext htb123 x150
 replace htb127 := TbIs.ext htb127 x150
 refine Rr (Q7 (v := .bool _) (cvB (beq_iff_eq.2 hA.o1)) rfl) (Rr (mvB rfl) ?_)
 refine QA 19 155 rfl (cvB (beq_iff_eq.2 (by rw [htm123]; exact cov_A))) ?_
 refine Rr (mvP rfl) ?_
 refine QA 19 155 rfl (cvB (beq_iff_eq.2 (by rw [htm123]; exact cov_A))) ?_
 refine Qo rfl (QB call24 rfl rfl) (Ok.mono (JO bt127 _ _ nilS _ _ _ _ _ q127.am q127.cm _ t127.M 1 (by unfold I64; decide) _ htb127.at' htb127.m) ?_)
 rintro _ w152 ⟨rfl, x153⟩
 replace hX := hX.ex x153
 replace htb123 := TbIs.ext htb123 x153
 replace htb127 := TbIs.ext htb127 x153
 refine QA 19 155 rfl (cvB (beq_iff_eq.2 (by rw [htm123]; exact cov_A))) ?_
 refine Qo rfl (QD call27 rfl) (Ok.mono (bempty_ok _ (getV t127.M (1 - 1)) _ (Jx htb127.mw _)) ?_)
 rintro _ w155 ⟨rfl, x156⟩
 replace hX := hX.ex x156
 replace htb123 := TbIs.ext htb123 x156
 replace htb127 := TbIs.ext htb127 x156
 refine Rr (Q7 (v := .bool _) (cvB (beq_iff_eq.2 (by rw [htm123]; exact cov_A))) rfl) ?_
 refine Rr (mvB rfl) (QA 24 160 rfl (cvB (beq_iff_eq.2 hB.m0)) (Rr (mvP rfl) (QA 24 160 rfl (cvB (beq_iff_eq.2 hB.m0)) (Qo rfl (QB call26 rfl rfl) (Ok.mono (teff_ok bt127 q127.mo _ _ _ _ (.bool true) _ _ _ t127.O 1 _ htb127.at' htb127.o.1) ?_)))))
 rintro _ w158 ⟨rfl, x159⟩
 replace hX := hX.ex x159
 replace htb123 := TbIs.ext htb123 x159
 replace htb127 := TbIs.ext htb127 x159
 refine QA 24 160 rfl (cvB (beq_iff_eq.2 hB.m0)) (Qo rfl (QD call27 rfl) (Ok.mono (bempty_ok _ ((getM t127.O 1).getD rwz0).s _ (htb127.o.get 1)) ?_))
 rintro _ w161 ⟨rfl, x162⟩
 replace hX := hX.ex x162
 replace htb123 := TbIs.ext htb123 x162
 replace htb127 := TbIs.ext htb127 x162
 refine Rr (Q7 (v := .bool _) (cvB (beq_iff_eq.2 hB.m0)) rfl) (Rr (mvB rfl) (QA 29 165 rfl (cvB (beq_iff_eq.2 hB.o1)) (Rr (mvP rfl) (QA 29 165 rfl (cvB (beq_iff_eq.2 hB.o1)) ?_))))
 refine Qo rfl (Zg call14 rfl rfl rfl) (Ok.mono (tcov_ok bt127 q127.tr _ _ _ _ _ _ _ _ t127.m (by rw [htm127]; exact grA_ok) [114, 101, 97, 100] [47, 97, 47, 98] (by decide) (by decide) _ htb127.at' htb127.tr) ?_)
 rintro _ w164 ⟨a167, c167, rfl, hq167, x165⟩
 replace hX := hX.ex x165
 replace htb123 := TbIs.ext htb123 x165
 replace htb127 := TbIs.ext htb127 x165
 refine QA 29 165 rfl (cvB (beq_iff_eq.2 hB.o1)) (ZP (vs := [.int _ _]) (([2] : List Int)) rfl ZH JT rfl rfl ⟨rfl, trivial⟩ rfl rfl rfl rfl ?_)
 intro a168 w167 x168 hown168
 replace hX := hX.ex x168
 replace htb123 := TbIs.ext htb123 x168
 replace htb127 := TbIs.ext htb127 x168
 replace hq167 := hq167.ext x168
 refine QA 29 165 rfl (cvB (beq_iff_eq.2 hB.o1)) (Qo rfl (QD call25 rfl) (Ok.mono (bofA4_ok _ _ (hown168.trd ZH)) ?_))
 rintro _ w170 ⟨⟨a169, c169, rfl, hq169⟩, x171⟩
 replace hX := hX.ex x171
 replace htb123 := TbIs.ext htb123 x171
 replace htb127 := TbIs.ext htb127 x171
 replace hq167 := hq167.ext x171
 refine QA 29 165 rfl (cvB (beq_iff_eq.2 hB.o1)) (Qo rfl (QB call16 rfl rfl) (Ok.mono (Z5 _ ⟨a167, c167, covW t127.m [114, 101, 97, 100] [47, 97, 47, 98]⟩ _ hq167 ⟨a169, c169, 4⟩ _ hq169) ?_))
 rintro _ w173 ⟨rfl, x174⟩
 replace hX := hX.ex x174
 replace htb123 := TbIs.ext htb123 x174
 replace htb127 := TbIs.ext htb127 x174
 refine Rr (Q7 (v := .bool _) (cvB (beq_iff_eq.2 hB.o1)) rfl) (Rr (mvB rfl) ?_)
 refine QA 36 172 rfl (cvB (beq_iff_eq.2 (by rw [htm127]; exact cov_A))) ?_
 refine Rr (mvI rfl) ?_
 refine QA 36 172 rfl (cvB (beq_iff_eq.2 (by rw [htm127]; exact cov_A))) ?_
 refine Rr (Zu rfl rfl) ?_
 refine Rr (Q7 (v := .bool _) (cvB (beq_iff_eq.2 (by rw [htm127]; exact cov_A))) rfl) ?_
 refine Rr (mvB rfl) (QA 40 176 rfl rfl (Rr (mvP rfl) (QA 40 176 rfl rfl (Rr (mvP rfl) (QA 40 176 rfl rfl (Qo rfl (QB call28 rfl rfl) (Ok.mono (tbeq_ok bt127 t127 q127 _ htb127) ?_)))))))
 rintro _ w176 ⟨rfl, x177⟩
 replace hX := hX.ex x177
 replace htb123 := TbIs.ext htb123 x177
 replace htb127 := TbIs.ext htb127 x177
 refine Rr (Q7 (v := .bool _) rfl rfl) (Rr (mvB rfl) (QA 45 181 rfl rfl (Rr (mvP rfl) (QA 45 181 rfl rfl (Rr (mvP rfl) (QA 45 181 rfl rfl ?_))))))
 refine Qo rfl (QB call28 rfl rfl) (Ok.mono (tbne_ok bt127 bt123 t127 t123 q127 q123 _ htb127 htb123 hB.ml hA.ml (by rw [show (getV t127.M 0).x = 0 from hB.m0, show (getV t123.M 0).x = 6 from hA.m0]; decide)) ?_)
 rintro _ w179 ⟨rfl, x180⟩
 replace hX := hX.ex x180
 exact QA 45 181 rfl rfl (Rr (Zp rfl) (Rr (Q7 (v := .bool _) rfl rfl) (Rr (asB rfl) (Qc (Qu ⟨_, Qr rfl rfl, ⟨rfl, hX⟩⟩)))))
