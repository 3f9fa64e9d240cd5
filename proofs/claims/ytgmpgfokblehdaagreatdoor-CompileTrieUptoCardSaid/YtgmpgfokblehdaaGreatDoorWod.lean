/- Walks: what functions return. -/
import Derived.Test.YtgmpgfokblehdaaGreatDoorWpr
set_option linter.unusedVariables false
set_option linter.unusedSimpArgs false
set_option linter.unnecessarySimpa false
namespace Go.Proofs.YtgmpgfokblehdaaGreatDoor
open Go Go.Lx Go.RowKit Tryz
set_option maxRecDepth 100000
theorem Ji : ElT Tryz.prog 114 32 1 24 (.agg #[.slice none 0 0]) := ⟨underlying114, ⟨Tryz.t32, by kernel_rfl, rfl, rfl, rfl⟩, rfl, by decide, by decide⟩
theorem oin_ok (w : World) (po : Nat) (o : OV) (Fo : Nat → Prop) (ho : OdAt Fo w po o) (a : Int) : Ok Tryz.prog 122 #[.pointer (some ⟨po, 0, none⟩), .int .i64 a] w fun v w' => v = .bool (decide (0 ≤ a) && decide (a < (o.n : Int))) ∧ Ext False w w' := by
 replace ho := ho.mono (F' := fun g => Fo g ∧ g < w.heap.size) (fun g h1 h2 => ⟨h2, h1⟩)
 have hoa := ho.at'
 have hol := ho.lt
 refine Qv 19 func122 rfl rfl rfl ?_
 have hX := xRf w
 refine Qf (Qb (Rr Qj (Qc (Qf (Qb (Rr (mvP rfl) (Rr (o_pne underlying128 rfl rfl) (Rr (mvB rfl) (QA 2 7 rfl rfl (Rr (mvI rfl) (QA 2 7 rfl rfl (Rr (ZU rfl rfl) (Rr (Q7 (v := .bool _) rfl rfl) (Rr (mvB rfl) (Qs 6 11 rfl rfl rfl (fun hg => mvI rfl) (Qs 6 11 rfl rfl rfl (fun hg => mvP rfl) (Qs 6 11 rfl rfl rfl (fun hg => QJ (QK (u := undef) hg)) (Qs 6 11 rfl rfl rfl (fun hg => Qy underlying210 rfl sizeOf3 (QK (u := undef) hg)) (Qs 6 11 rfl rfl rfl (fun hg => Qm isAgg3 (QK (u := undef) hg) (hoa.get 0 rfl)) (Qs 6 11 rfl rfl rfl (fun hg => QM (QK (u := undef) hg) (QK (u := undef) hg)) (Rr (Zt (u := undef) rfl rfl) (Rr (asB rfl) (Qc (Qu ⟨_, Qr rfl rfl, ⟨cvB ?_, hX⟩⟩))))))))))))))))))))))))
 all_goals (rfl)
theorem obelow_ok (w : World) (po : Nat) (o : OV) (Fo : Nat → Prop) (ho : OdAt Fo w po o) (a : Int) (hr : I64 a) : Ok Tryz.prog 169 #[.pointer (some ⟨po, 0, none⟩), .int .i64 a] w fun v w' => ∃ x c, v = .agg (encSV ⟨x, c, belO o a⟩).toArray ∧ Sl encU 1 Fo w' x c (wl (belO o a)) ∧ Ext False w w' := by
 replace ho := ho.mono (F' := fun g => Fo g ∧ g < w.heap.size) (fun g h1 h2 => ⟨h2, h1⟩)
 have hoa := ho.at'
 have hol := ho.lt
 refine Qv 17 func169 rfl rfl rfl ?_
 have hX := xRf w
 refine Qf (Qb (QH rfl (Q4 zeroValue32) ?_))
 intro b4 w1 x2 hge4 hb4
 replace hX := hX.ex x2
 replace hoa := hoa.ext x2
 replace ho := ho.ext x2
 refine Qc (Qf (Qf (Qb (Rr (mvP rfl) (Rr (mvI rfl) (Qo rfl (QB call122 rfl rfl) (Ok.mono (oin_ok _ _ _ _ ho _) ?_)))))))
 rintro _ w4 ⟨rfl, x5⟩
 replace hX := hX.ex x5
 replace hoa := hoa.ext x5
 replace ho := ho.ext x5
 replace hb4 := hb4.ext x5
 refine Rr (Zp rfl) (Qc (Qw rfl (fun hc1 => ?_) (fun hc1 => ?_)))
 ·have hb1 : belO o a = 0 := by unfold belO; rw [if_neg (by simp at hc1; omega)]
  refine Qf (Qb (Rr (Q2 (cells := encSV ⟨none, 0, 0⟩) (vs := []) rfl (by kernel_rfl)) (QS (v := .agg _) rfl sizeOf32 rfl rfl hb4 rfl rfl rfl ?_)))
  intro w7 c8 hb4
  replace hX := Bel.out hX c8 om2
  refine Qc (Qu ⟨_, ZN (v := .agg _) rfl (Zb isAgg32 sizeOf32 rfl hb4.at rfl), ?_⟩)
  rw [hb1]; exact ⟨_, _, rfl, Sl.none, hX⟩
 have hin : 0 ≤ a ∧ a < (o.n : Int) := by simpa using hc1
 obtain ⟨an, rfl⟩ : ∃ n : Nat, a = n := ⟨a.toNat, by omega⟩
 have hln := ho.lb
 refine Qp (Qf (Qb (Rr (mvP rfl) (Rr (QJ rfl) (Rr (Qy underlying210 rfl sizeOf114 rfl) (Rr (Qm isAgg114 rfl (hoa.get 3 rfl)) (Rr (mvI rfl) (Rr (QW underlying114 sizeOf32 ho.be rfl rfl omg) (Rr (QY isAgg32 sizeOf32 ho.be rfl (Ze sz (by omega))) (QS (v := .agg _) rfl sizeOf32 rfl rfl hb4 rfl rfl rfl ?_))))))))))
 intro w10 c11 hb4
 replace hX := Bel.out hX c11 om2
 replace ho := ho.keep c11 om3
 refine Qc (Qu ⟨_, ZN (v := .agg _) rfl (Zb isAgg32 sizeOf32 rfl hb4.at rfl), ?_⟩)
 have e1 : belO o (an : Int) = (o.below.getD an sz).x := by unfold belO; rw [if_pos hin]; rfl
 rw [e1]; exact ⟨_, _, rfl, (ho.wb _ (gm (by omega))).mono (fun g h1 h2 => h2.1), hX⟩
theorem hrole_ok (w : World) (r : Int) : Ok Tryz.prog 56 #[.int .i64 r] w fun v w' => v = .bool (decide (1 ≤ r) && decide (r ≤ 63)) ∧ Ext False w w' := by
 refine Qv 9 func56 rfl rfl rfl ?_
 have hX := xRf w
 refine Qf (Qb (Rr Qj (Qc (Qf (Qb (Rr (mvI rfl) (Rr (ZU rfl rfl) (Rr (mvB rfl) (Qs 2 5 rfl rfl rfl (fun hg => mvI rfl) (Qs 2 5 rfl rfl rfl (fun hg => Jk (QK (u := undef) hg) rfl) (Rr (Zt (u := undef) rfl rfl) (Rr (asB rfl) (Qc (Qu ⟨_, Qr rfl rfl, ⟨cvB ?_, hX⟩⟩))))))))))))))
 all_goals (rfl)
theorem hjun_some (ph po : Nat) (h : OV) (Fh : Nat → Prop) (r : Int) (w : World) (hha : At w ph 0 [.pointer (some ⟨po, 0, none⟩)]) (ho : OdAt Fh w po h) (hr : I64 r) : Ok Tryz.prog 108 #[.pointer (some ⟨ph, 0, none⟩), .int .i64 r] w fun v w' => ∃ x c, v = .agg (encSV ⟨x, c, junO h r⟩).toArray ∧ Sl encU 1 (fun g => Fh g ∨ Fsh w w' g) w' x c (wl (junO h r)) ∧ Ext False w w' := by
 replace ho := ho.mono (F' := fun g => Fh g ∧ g < w.heap.size) (fun g h1 h2 => ⟨h2, h1⟩)
 have hl1 := hha.lt; have hl2 := ho.lt
 refine Qv 21 func108 rfl rfl rfl ?_
 have hX := xRf w
 refine Qf (Qb (QH rfl (Q4 zeroValue32) ?_))
 intro b4 w1 x2 hge4 hb4
 have hlt4 := hb4.lt
 have z3 := x2.size
 replace hX := hX.ex x2
 replace hha := hha.ext x2
 replace ho := ho.ext x2
 refine Qc (Qf (Qf (Qb (Rr (mvP rfl) (Rr (Zi underlying33 rfl rfl) (Rr (mvB rfl) (QA 2 7 rfl rfl (Rr (mvI rfl) (QA 2 7 rfl rfl (Qo rfl (QD call56 rfl) (Ok.mono (hrole_ok _ _) ?_)))))))))))
 rintro _ w4 ⟨rfl, x5⟩
 have z6 := x5.size
 replace hX := hX.ex x5
 replace hha := hha.ext x5
 replace ho := ho.ext x5
 replace hb4 := hb4.ext x5
 refine QA 2 7 rfl rfl (Rr (Zp rfl) (Rr (Q0 (v := .bool _) rfl rfl) (Qc (Qw rfl (fun hc1 => ?_) (fun hc1 => ?_)))))
 ·have hj : junO h r = 0 := by unfold junO; rw [if_neg (by simp at hc1; omega)]
  refine Qf (Qb (Rr (Q2 (cells := encSV ⟨none, 0, 0⟩) (vs := []) rfl (by kernel_rfl)) (QS (v := .agg _) rfl sizeOf32 rfl rfl hb4 rfl rfl rfl ?_)))
  intro w7 c8 hb4
  replace hX := Bel.out hX c8 om2
  refine Qc (Qu ⟨_, ZN (v := .agg _) rfl (Zb isAgg32 sizeOf32 rfl hb4.at rfl), ?_⟩)
  rw [hj]; exact ⟨_, _, rfl, Sl.none, hX⟩
 have hin : 1 ≤ r ∧ r ≤ 63 := by simpa using hc1
 obtain ⟨rn, rfl⟩ : ∃ n : Nat, r = n := ⟨r.toNat, by omega⟩
 have hj : junO h (rn : Int) = belO h (rn : Int) ||| oneW rn := by unfold junO; rw [if_pos hin]; rfl
 refine Qp (Qf (Qb (Rr (mvP rfl) (Rr (QJ rfl) (Rr (Qy underlying131 rfl sizeOf128 rfl) (Rr (Qm isAgg128 rfl (hha.get 0 rfl)) (Rr (mvI rfl) (Qo rfl (QB call169 rfl rfl) (Ok.mono (obelow_ok _ _ _ _ ho _ hr) ?_)))))))))
 rintro _ w10 ⟨a18, c18, rfl, hq18, x11⟩
 have z12 := x11.size
 replace hX := hX.ex x11
 replace hb4 := hb4.ext x11
 refine Rr (mvI rfl) (Qo rfl (QB call55 rfl rfl) (Ok.mono (JX _ ⟨_, _, _⟩ _ hq18 _ (by omega)) ?_))
 rintro _ w13 ⟨a20, c20, rfl, hq20, x14⟩
 have z15 := x14.size
 replace hX := hX.ex x14
 replace hb4 := hb4.ext x14
 refine QS (v := .agg _) rfl sizeOf32 rfl rfl hb4 rfl rfl rfl ?_
 intro w16 c17 hb4
 have z18 := Bel.size c17
 replace hX := Bel.out hX c17 om2
 replace hq20 := hq20.keep c17 om3
 refine Qc (Qu ⟨_, ZN (v := .agg _) rfl (Zb isAgg32 sizeOf32 rfl hb4.at rfl), ?_⟩)
 rw [hj]; exact ⟨_, _, rfl, hq20.mono (fun g h1 h2 => h2.elim (fun h2 => Or.inl h2.1) (fun h2 => Or.inr ⟨by omega, by omega⟩)), hX⟩
theorem opairs_ok (w : World) (po : Nat) (o : OV) (Fo : Nat → Prop) (ho : OdAt Fo w po o) (hn : o.pairs.length ≤ 1100000) : Ok Tryz.prog 124 #[.pointer (some ⟨po, 0, none⟩)] w fun v w' => Own encPr 2 208 (Fsh w w') w' v o.pairs ∧ Ext False w w' := by
 replace ho := ho.mono (F' := fun g => Fo g ∧ g < w.heap.size) (fun g h1 h2 => ⟨h2, h1⟩)
 have hoa := ho.at'
 have hol := ho.lt
 refine Qv 10 func124 rfl rfl rfl ?_
 have hX := xRf w
 refine Qf (Qb (Rr Qj (Qc (Qf (Qf (Qb (Rr (mvP rfl) (Rr (Zi underlying128 rfl rfl) (Qc (Qq rfl (Qp (Qf (Qb (Rr (mvP rfl) (Rr (QJ rfl) (Rr (Qy underlying210 rfl sizeOf207 rfl) (Rr (Qm isAgg207 rfl (hoa.get 1 rfl)) (Qo rfl (QD call184 rfl) (Ok.mono (pclone_ok _ _ _ (ho.pr.trd.top) hn) ?_)))))))))))))))))))
 rintro v9 w1 ⟨hown9, x2⟩
 replace hX := hX.ex x2
 replace hown9 := hown9.mono (D' := fun g => w.heap.size ≤ g) (fun g h1 h2 => by omega)
 exact Rr (QL (v := v9) rfl) (Qc (Qu ⟨_, Qr rfl rfl, ⟨hown9.mono (fun g h1 h2 => ⟨by omega, by omega⟩), hX⟩⟩))
