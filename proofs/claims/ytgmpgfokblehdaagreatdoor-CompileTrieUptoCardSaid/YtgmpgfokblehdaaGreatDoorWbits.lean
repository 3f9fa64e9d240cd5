/- Walks: what functions return. -/
import Derived.Test.YtgmpgfokblehdaaGreatDoorSort
import Derived.Test.YtgmpgfokblehdaaGreatDoorPure11
set_option linter.unusedVariables false
set_option linter.unusedSimpArgs false
set_option linter.unnecessarySimpa false
namespace Go.Proofs.YtgmpgfokblehdaaGreatDoor
open Go Go.Lx Go.RowKit Tryz
set_option maxRecDepth 100000
theorem Jh : ElT Tryz.prog 30 126 1 8 (.int .u64 0) := ⟨underlying30, ⟨Tryz.t126, by kernel_rfl, rfl, rfl, rfl⟩, rfl, by decide, by decide⟩
theorem JT : ElT Tryz.prog 153 3 1 8 (.int .i64 0) := ⟨underlying153, ⟨Tryz.t3, by kernel_rfl, rfl, rfl, rfl⟩, rfl, by decide, by decide⟩
theorem JW (w : World) (s : SV) (Gs : Nat → Prop) (hs : Sl encU 1 Gs w s.a s.c (wl s.x)) (k : Nat) : Ok Tryz.prog 120 #[.agg (encSV s).toArray, .int .i64 (k : Int)] w fun v w' => v = u64 ((wl s.x).getD k 0) ∧ Ext False w w' := by
 replace hs := hs.mono (F' := fun g => Gs g ∧ g < w.heap.size) (fun g h1 h2 => ⟨h2, h1⟩)
 refine Qv 15 func120 rfl rfl rfl ?_
 have hX := xRf w
 refine Qf (Qb (QH rfl (QX (v := .agg _) rfl) ?_))
 intro b2 w1 x2 hge2 hb2
 replace hX := hX.ex x2
 replace hs := hs.ext x2
 refine Rr Qj (Qc (Qf (Qf (Qb (Rr (mvI rfl) (Rr (Qy underlying32 rfl sizeOf30 rfl) (Rr (Qm isAgg30 rfl (hb2.at.get 0 rfl)) (Rr (QC underlying30 rfl) (Rr (QM rfl rfl) (Qc (Qw rfl (fun hc1 => ?_) (fun hc1 => ?_))))))))))))
 ·replace hc1 := dcT hc1
  exact Qf (Qb (Rr (Qy underlying32 rfl sizeOf30 rfl) (Rr (Qm isAgg30 rfl (hb2.at.get 0 rfl)) (Rr (mvI rfl) (Rr (QW underlying30 sizeOf126 hs rfl rfl omg) (Rr (Zx isAgg126 hs rfl rfl (Ze 0 (by omega)) rfl) (Rr (asI rfl) (Qc (Qu ⟨_, Qr rfl rfl, ⟨rfl, hX⟩⟩)))))))))
 replace hc1 := dcF hc1
 refine Qp (Qf (Qb (Rr Qj (Qc (Qu ⟨_, Qr rfl rfl, ?_⟩)))))
 exact ⟨by rw [getD_out _ (by omega)]; rfl, hX⟩
theorem Jr (w : World) (s : SV) (Gs : Nat → Prop) (hs : Sl encU 1 Gs w s.a s.c (wl s.x)) (i : Int) (hr : I64 i) : Ok Tryz.prog 65 #[.agg (encSV s).toArray, .int .i64 i] w fun v w' => v = .bool (hasW s.x i) ∧ Ext False w w' := by
 replace hs := hs.mono (F' := fun g => Gs g ∧ g < w.heap.size) (fun g h1 h2 => ⟨h2, h1⟩)
 refine Qv 22 func65 rfl rfl rfl ?_
 have hX := xRf w
 refine Qf (Qb (QH rfl (QX (v := .agg _) rfl) ?_))
 intro b2 w1 x2 hge2 hb2
 replace hX := hX.ex x2
 replace hs := hs.ext x2
 refine Rr Qj (Qc (Qf (Qb (Rr (mvI rfl) (Rr (ZU rfl rfl) (Rr (mvB rfl) (Qs 2 7 rfl rfl rfl (fun hg => mvI rfl) (Qs 2 7 rfl rfl rfl (fun hg => Jk (QK (u := undef) hg) rfl) (Rr (Zt (u := undef) rfl rfl) (Rr (mvB rfl) (Qs 6 11 rfl rfl rfl (fun hg => QF isAgg32 sizeOf32 rfl hb2.at rfl) (Qs 6 11 rfl rfl rfl (fun hg => mvI rfl) ?_))))))))))))
 refine Qs 6 11 rfl rfl rfl (fun hg => o_quoT (b := 64) (QK (u := undef) hg) rfl (by simp at hg; omega) (by decide) hr) ?_
 refine Zy 6 11 rfl rfl rfl (fun hg => ⟨(QB call120 (QK (u := undef) hg) (QK (u := undef) hg)), JW _ ⟨_, _, _⟩ _ hs _⟩) ?_
 intro w4 x5
 replace hX := hX.ex x5
 refine Qs 6 11 rfl rfl rfl (fun hg => mvI rfl) ?_
 refine Qs 6 11 rfl rfl rfl (fun hg => Yq (b := 64) (QK (u := undef) hg) rfl (by simp at hg; omega) (by decide) hr) ?_
 refine Qs 6 11 rfl rfl rfl (fun hg => o_shrU (QK (u := undef) hg) (QK (u := undef) hg) (Nat.mod_lt _ (by decide))) (Qs 6 11 rfl rfl rfl (fun hg => o_band (b := BitVec.ofNat 64 1) (QK (u := undef) hg) rfl) (Qs 6 11 rfl rfl rfl (fun hg => o_eqU (b := BitVec.ofNat 64 1) (QK (u := undef) hg) rfl) (Rr (Zt (u := undef) rfl rfl) (Rr (asB rfl) (Qc (Qu ⟨_, Qr rfl rfl, ⟨cvB ?_, hX⟩⟩))))))
 all_goals (exact has_eq s.x i)
theorem Yk (a : Option Addr) (c : Nat) (G : Nat → Prop) (ws : List W64) (w : World) (hs : Sl encU 1 G w a c ws) (hw : ws.length ≤ 1) : Ok Tryz.prog 71 #[.slice a ws.length c] w fun v w' => v = .agg (encSV ⟨a, c, ws.getD 0 0⟩).toArray ∧ Ext False w w' := by
 replace hs := hs.top
 refine Qv 22 func71 rfl rfl rfl ?_
 have hX := xRf w
 refine Qf (Qb (QH rfl (Q4 zeroValue32) ?_))
 intro b2 w1 x2 hge2 hb2
 replace hX := hX.ex x2
 replace hs := hs.ext x2
 refine Qc (Qf (Qt ?_))
 refine QU (α := Nat) [(0, 0), (3, 19)] (fun n => [(0, .slice a (ws.take n).length c)]) (fun n w' => (n ≤ ws.length ∧ ∀ i, n ≤ i → ws.getD i 0 = 0) ∧ Ext False w1 w') (fun n => n) ws.length ⟨(by show Value.slice a ws.length c = _; rw [List.take_length]), trivial⟩ ⟨⟨Nat.le_refl _, fun i hi => getD_out _ hi⟩, Bel.refl _ _⟩ ?_
 rintro n fb6 w5 ⟨⟨hn, hz⟩, hXL4⟩
 replace hX := hX.ex hXL4
 replace hs := hs.ext hXL4
 replace hb2 := hb2.ext hXL4
 have hl1 := take_n hn
 refine Qf (Qf (Qb (Rr (mvS rfl) (Rr (QC underlying30 rfl) (Rr (ZM rfl rfl) (Rr (mvB rfl) (Qs 3 6 rfl rfl rfl (fun hg => mvS rfl) (Qs 3 6 rfl rfl rfl (fun hg => mvS rfl) (Qs 3 6 rfl rfl rfl (fun hg => QC underlying30 (QK (u := undef) hg)) ?_)))))))))
 refine Qs 3 6 rfl rfl rfl (fun hg => Ya (b := 1) (QK (u := undef) hg) rfl (by have := dcT (eq_of_beq hg); omega) (by omega)) ?_
 refine Qs 3 6 rfl rfl rfl (fun hg => QW (i := (ws.take n).length - 1) underlying30 sizeOf126 (hs.take n) (QK (u := undef) hg) (QK (u := undef) hg) (by have := dcT (eq_of_beq hg); omega)) ?_
 refine Qs 3 6 rfl rfl rfl (fun hg => Zx isAgg126 (hs.take n) rfl (QK (u := undef) hg) (Ze 0 (by have := dcT (eq_of_beq hg); omega)) rfl) ?_
 refine Qs 3 6 rfl rfl rfl (fun hg => o_eqU (b := BitVec.ofNat 64 0) (QK (u := undef) hg) rfl) (Rr (Zt (u := undef) rfl rfl) (Qc (Qw rfl (fun hc1 => ?_) (fun hc1 => ?_))))
 ·have hy := trim_yes hn hc1
  refine Qp (Qt (Qb (Rr (mvS rfl) (Rr (mvS rfl) (Rr (QC underlying30 rfl) ?_)))))
  refine Rr (Ya (b := 1) rfl rfl (by have := hy.1; omega) (by omega)) ?_
  refine Rr (Jm (j := (ws.take (n - 1)).length) underlying30 sizeOf126 rfl (congrArg (Value.int .i64) (by have e1 := take_n (ws := ws) (n := n - 1) (by omega); omega)) (by have := hs.le; rw [take_n (by omega)]; omega)) ?_
  refine Rr (asS rfl) (Qc ⟨n - 1, ⟨sT, trivial⟩, oT, ⟨?_, hXL4⟩, ?_⟩)
  ·exact ⟨by omega, trim_next hy.1 hy.2 hz⟩
  ·have := hy.1; omega
 refine QN (QI (Qf (Qb ?_)))
 rw [(trim_len hw hn hz (trim_no hn hc1)).2]
 refine Rr (mvS rfl) (Rr (Q2 (cells := encSV ⟨a, c, ws.getD 0 0⟩) (vs := [(0, .slice _ _ _)]) rfl (by kernel_rfl)) (QS (v := .agg _) rfl sizeOf32 rfl rfl hb2 rfl rfl rfl ?_))
 intro w8 c9 hb2
 replace hX := Bel.out hX c9 om2
 exact Qc (Qu ⟨_, ZN (v := .agg _) rfl (Zb isAgg32 sizeOf32 rfl hb2.at rfl), ⟨rfl, hX⟩⟩)
theorem bof_ok (w : World) (vl : Value) (l : List Int) (hl : Rd encJ 1 (Lt w.heap.size) w vl l) (nl : l.length ≤ 1100000) (ol : ∀ p ∈ l, (fun p => 0 ≤ p ∧ p < 64) p) : Ok Tryz.prog 25 #[vl] w fun v w' => ∃ a c, v = .agg (encSV ⟨a, c, ofW l⟩).toArray ∧ Sl encU 1 (Fsh w w') w' a c (wl (ofW l)) ∧ Ext False w w' := by
 obtain ⟨al, cl, rfl, hl⟩ := hl; have ml := hl.len
 refine Qv 54 func25 rfl rfl rfl ?_
 have hX := xRf w
 refine Qf (Qb (QH rfl (Q4 zeroValue32) ?_))
 intro b2 w1 x2 hge2 hb2
 have hlt2 := hb2.lt
 have z3 := x2.size
 replace hX := hX.ex x2
 replace hl := hl.ext x2
 refine Qc (Qf (Qb (Rr Qj (Qc (Qf (Qf (Qb (Rr (mvS rfl) (Rr (QC underlying153 rfl) (Rr QP (Qc (Qt (QU (α := Nat × Int) [(3, 3), (5, 5), (11, 20)] (fun p => [(11, .int .i64 (p.1 : Int)), (3, .int .i64 p.2)]) (fun p w' => (TopI l p.1 p.2) ∧ Ext False w1 w') (fun p => l.length - p.1) (0, -1) ⟨rfl, rfl, trivial⟩ ⟨TopI.start l, Bel.refl _ _⟩ ?_)))))))))))))
 rintro ⟨k, t⟩ fb6 w5 ⟨ht, hXL4⟩
 dsimp only at *
 have z7 := Bel.size hXL4
 replace hX := hX.ex hXL4
 replace hl := hl.ext hXL4
 replace hb2 := hb2.ext hXL4
 have hk := ht.le
 refine Qf (Qb (Rr (QM rfl rfl) (Qc (Qf (Qw rfl (fun hc1 => ?_) (fun hc1 => ?_))))))
 ·replace hc1 := dcT hc1
  refine Qp (Qf (Qt (Qf (Qb (Rr (QW underlying153 sizeOf3 hl rfl rfl omg) (Rr (Zx isAgg3 hl rfl rfl (Ze 0 (by omega)) rfl) (Rr (asI rfl) (Qc (Qf (Qb (Rr (mvI rfl) (Rr (Jk rfl rfl) (Qc ?_)))))))))))))
  refine Za (cvB (decide_eq_true (by have h2 : l.getD k 0 < 64 := (ol _ (gm (z := (0 : Int)) (show k < l.length by omega))).2; omega))) ?_
  refine Qb (Rr (mvI rfl) (Rr (mvI rfl) (Rr (o_maxI rfl rfl) (Rr (asI rfl) (Qc (Qb ?_))))))
  refine Rr (QO rfl rfl (by unfold I64; omega)) ?_
  refine Rr (mvI rfl) (Qc ⟨(k + 1, if t < l.getD k 0 then l.getD k 0 else t), ⟨sT, sT, trivial⟩, oT, ⟨(ht.next (by omega) (ol _ (gm (by omega))).2), hXL4⟩, ?_⟩)
  ·show l.length - (k + 1) < l.length - k; omega
 replace hc1 := dcF hc1
 have htl : TopI l l.length t := by
  have e : k = l.length := by omega
  rw [← e]; exact ht
 refine QN (QI (Qf (Qf (Qb (Rr (mvI rfl) (Rr (QM rfl rfl) (Qc (Qw rfl (fun hc3 => ?_) (fun hc3 => ?_)))))))))
 ·replace hc3 := dcT hc3
  refine Qf (Qb (Rr (Q2 (cells := encSV ⟨none, 0, 0⟩) (vs := []) rfl (by kernel_rfl)) (QS (v := .agg _) rfl sizeOf32 rfl rfl hb2 rfl rfl rfl ?_)))
  intro w8 c9 hb2
  replace hX := Bel.out hX c9 om2
  refine Qc (Qu ⟨_, ZN (v := .agg _) rfl (Zb isAgg32 sizeOf32 rfl hb2.at rfl), ?_⟩)
  obtain rfl := ofW_none htl (by omega) (fun i hi => (ol i hi).1)
  exact ⟨_, _, rfl, Sl.none, hX⟩
 replace hc3 := dcF hc3
 refine Qp (Qf (Qb ?_))
 obtain ⟨n0, hn0⟩ : ∃ n, n = w5.heap.size := ⟨_, rfl⟩
 refine Rr (mvI rfl) ?_
 refine Rr (o_quoZ (b := 64) rfl rfl (by omega) (by have := ht.hi; omega) (by have := ht.hi; unfold I64; omega)) ?_
 refine Rr (QO rfl rfl omg) (Z8 (m := 1) (0 : W64) rfl Zh Jh rfl rfl rfl (by decide) ?_)
 intro a27 w11 x12 hown27
 have z13 := x12.size
 replace hX := hX.ex x12
 replace hl := hl.ext x12
 replace hb2 := hb2.ext x12
 replace hown27 := hown27.mono (D' := fun g => n0 ≤ g) (fun g h1 h2 => by omega)
 refine Rr (asS rfl) (Qc (Qf (Qf (Qb (Rr (mvS rfl) (Rr (QC underlying153 rfl) (Rr QP (Qc (Qt (QU (α := Nat) [(8, 8), (30, 51)] (fun k => [(30, .int .i64 (k : Int))]) (fun k w' => (k ≤ l.length) ∧ Bel False (fun g => n0 ≤ g) w11 w' ∧ (Own encU 1 126 (fun g => n0 ≤ g) w' (.slice a27 1 1) [ofW (l.take k)])) (fun k => l.length - k) 0 ⟨rfl, trivial⟩ ⟨Nat.zero_le _, Bel.refl _ _, (show Own _ _ _ _ _ _ [ofW (l.take 0)] from hown27)⟩ ?_))))))))))
 rintro k fb16 w15 ⟨hk2, hXL14, hown27⟩
 have z17 := Bel.size hXL14
 replace hX := Bel.out hX hXL14 om2
 replace hl := hl.keep hXL14 om3
 replace hb2 := hb2.keep hXL14 om1
 refine Qf (Qb (Rr (QM rfl rfl) (Qc (Qf (Qw rfl (fun hc4 => ?_) (fun hc4 => ?_))))))
 ·replace hc4 := dcT hc4
  refine Qp (Qf (Qt (Qf (Qb (Rr (QW underlying153 sizeOf3 hl rfl rfl omg) (Rr (Zx isAgg3 hl rfl rfl (Ze 0 (by omega)) rfl) (Rr (asI rfl) (Qc (Qf (Qb ?_))))))))))
  have hxm := ol _ (gm (z := (0 : Int)) (show k < l.length by omega))
  have hx0 := hxm.1
  have hx64 := hxm.2
  have hxt := htl.ge k (by omega)
  refine Rr (mvI rfl) (Rr (ZU rfl rfl) (Rr (mvB rfl) (Qs 2 36 rfl rfl rfl (fun hg => mvI rfl) (Qs 2 36 rfl rfl rfl (fun hg => mvI rfl) (Qs 2 36 rfl rfl rfl (fun hg => Jk (QK (u := undef) hg) (QK (u := undef) hg)) (Rr (Zt (u := undef) rfl rfl) (Qc ?_)))))))
  refine Za (cvB (by rw [decide_eq_true hx0, decide_eq_true hxt]; rfl)) ?_
  apply Q3 (β := False) [peq _, peq _, peq _, peq _, peq _, peq _, peq _, peq _, peq _, peq _] 10 QV (by kernel_rfl) rfl ⟨Qd _, Qd _, Qd _, Qd _, Qd _, Qd _, Qd _, Qd _, Qd _, Qd _, trivial⟩ ?ob15 ?fin15
  case ob15 =>
   refine Qg (fun _ _ => Qe (Qn rfl (mvS rfl))) (Qg (fun _ _ => Qe (Qn rfl (mvI rfl))) (Qg (fun w24 x25 => ?_) ?_))
   ·refine Qa (Qe ?_)
    exact Qn rfl (o_quoZ (b := 64) rfl rfl hx0 hx64 (by unfold I64; omega))
   refine Qg (fun w27 x28 => ?_) ?_
   ·have hown27 := hown27.ext x28
    exact Qa (Qa (Qe (Qn rfl (ZE (i := 0) underlying30 sizeOf126 hown27 rfl rfl (by decide)))))
   refine Qg (fun w30 x31 => ?_) ?_
   ·have hown27 := hown27.ext x31
    exact Qa (Qe (Qn rfl (Zx isAgg126 (hown27.slA Zh) rfl rfl (i := 0) rfl rfl)))
   refine Qg (fun _ _ => Qe (Qn rfl (mvI rfl))) (Qg (fun w36 x37 => ?_) ?_)
   ·refine Qa (Qe ?_)
    exact Qn rfl (Yq (b := 64) rfl rfl hx0 (by decide) (by unfold I64; omega))
   refine Qg (fun w39 x40 => Qa (Qe (Qn rfl (o_shlU (a := BitVec.ofNat 64 1) rfl rfl (Nat.mod_lt _ (by decide)))))) (Qg (fun _ _ => Qa (Qa (Qe (Qn rfl (o_bor rfl rfl))))) (Qg (fun w45 x46 => ?_) ?_))
   ·have hown27 := hown27.ext x46
    exact Qa (Qa (Qa (Qa (Qa (Qa (Qa (Qa (Qa (Qa (Qa (Qe (Qn rfl (ZE (i := 0) underlying30 sizeOf126 hown27 rfl rfl (by decide))))))))))))))
   exact QR
  case fin15 =>
   intro w48 x49
   replace hXL14 := Bel.ex hXL14 x49
   replace hown27 := hown27.ext x49
   refine Qa (Qa (Qa (Qa (Qa (Qa (Qa (Qa (Qa (Qa (Qe (ZG (u := ofW (l.take k) ||| (1#64 <<< ((l.getD k 0).toNat % 64))) rfl Zh sizeOf126 rfl rfl rfl hown27 (by simp) ?_)))))))))))
   intro w51 x52 hown27
   replace hXL14 := Bel.out hXL14 x52 om2
   refine Qc (Qb (Rr (QO rfl rfl omg) (Rr (mvI rfl) (Qc ⟨k + 1, ⟨sT, trivial⟩, oT, ⟨?_, hXL14, ?_⟩, ?_⟩))))
   ·show k + 1 ≤ l.length; omega
   ·rw [ofW_succ (by omega)]; rw [show (l.getD k 0).toNat % 64 = (l.getD k 0).toNat by omega] at hown27; exact hown27
   ·omega
 replace hc4 := dcF hc4
 refine QN (QI (Qf (Qb (Rr (mvS rfl) (Qo rfl (QD call71 rfl) (Ok.mono (Yk _ _ _ [ofW (l.take k)] _ (hown27.slA Zh) (by simp)) ?_))))))
 rintro _ w54 ⟨rfl, x55⟩
 have z56 := x55.size
 replace hX := hX.ex x55
 replace hb2 := hb2.ext x55
 replace hown27 := hown27.ext x55
 refine QS (v := .agg _) rfl sizeOf32 rfl rfl hb2 rfl rfl rfl ?_
 intro w57 c58 hb2
 have z59 := Bel.size c58
 replace hX := Bel.out hX c58 om2
 replace hown27 := hown27.keepD c58 om3
 refine Qc (Qu ⟨_, ZN (v := .agg _) rfl (Zb isAgg32 sizeOf32 rfl hb2.at rfl), ?_⟩)
 rw [List.take_of_length_le (by omega)] at hown27 ⊢
 exact ⟨_, _, rfl, (Vh (hown27.slA Zh) (by simp)).mono (fun g h1 h2 => ⟨by omega, by omega⟩), hX⟩
theorem JX (w : World) (s : SV) (Gs : Nat → Prop) (hs : Sl encU 1 Gs w s.a s.c (wl s.x)) (i : Nat) (hi : i < 64) : Ok Tryz.prog 55 #[.agg (encSV s).toArray, .int .i64 (i : Int)] w fun v w' => ∃ a c, v = .agg (encSV ⟨a, c, s.x ||| oneW i⟩).toArray ∧ Sl encU 1 (fun g => Gs g ∨ Fsh w w' g) w' a c (wl (s.x ||| oneW i)) ∧ Ext False w w' := by
 replace hs := hs.mono (F' := fun g => Gs g ∧ g < w.heap.size) (fun g h1 h2 => ⟨h2, h1⟩)
 refine Qv 42 func55 rfl rfl rfl ?_
 have hX := xRf w
 refine Qf (Qb (QH rfl (QX (v := .agg _) rfl) ?_))
 intro b2 w1 x2 hge2 hb2
 have hlt2 := hb2.lt
 have z3 := x2.size
 replace hX := hX.ex x2
 replace hs := hs.ext x2
 refine QH rfl (Q4 zeroValue32) ?_
 intro b4 w4 x5 hge4 hb4
 have hlt4 := hb4.lt
 have z6 := x5.size
 replace hX := hX.ex x5
 replace hs := hs.ext x5
 replace hb2 := hb2.ext x5
 refine Qc (Qf (Qf (Qb (Rr (mvI rfl) (Rr (QM rfl rfl) (Rr (mvB rfl) (Qs 2 8 rfl rfl rfl (fun hg => mvI rfl) (Qs 2 8 rfl rfl rfl (fun hg => ZM (QK (u := undef) hg) rfl) (Rr (ZS (u := undef) rfl rfl) (Rr (mvB rfl) (Qs 6 12 rfl rfl rfl (fun hg => QF isAgg32 sizeOf32 rfl hb2.at rfl) (Qs 6 12 rfl rfl rfl (fun hg => mvI rfl) ?_))))))))))))
 refine Zy 6 12 rfl rfl rfl (fun hg => ⟨(QB call65 (QK (u := undef) hg) (QK (u := undef) hg)), Jr _ ⟨_, _, _⟩ _ hs _ (by unfold I64; omega)⟩) ?_
 intro w7 x8
 have z9 := x8.size
 replace hX := hX.ex x8
 replace hs := hs.ext x8
 replace hb2 := hb2.ext x8
 replace hb4 := hb4.ext x8
 refine Rr (ZS (u := undef) rfl rfl) (Qc (Qw rfl (fun hc1 => ?_) (fun hc1 => ?_)))
 ·have hb := with_yes hi hc1
  refine Qf (Qb (Rr (QF isAgg32 sizeOf32 rfl hb2.at rfl) (QS (v := .agg _) rfl sizeOf32 rfl rfl hb4 rfl rfl rfl ?_)))
  intro w10 c11 hb4
  have z12 := Bel.size c11
  replace hX := Bel.out hX c11 om2
  replace hs := hs.keep c11 om3
  refine Qc (Qu ⟨_, ZN (v := .agg _) rfl (Zb isAgg32 sizeOf32 rfl hb4.at rfl), ?_⟩)
  rw [with_has hi hb]; exact ⟨_, _, rfl, hs.mono (fun g h1 h2 => Or.inl h2.1), hX⟩
 refine Qp (Qf (Qb ?_))
 obtain ⟨n0, hn0⟩ : ∃ n, n = w7.heap.size := ⟨_, rfl⟩
 have hm1 := with_len (x := s.x) hi
 refine Rr (Qy underlying32 rfl sizeOf30 rfl) (Rr (Qm isAgg30 rfl (hb2.at.get 0 rfl)) (Rr (QC underlying30 rfl) (Rr (mvI rfl) ?_)))
 refine Rr (o_quoZ (b := 64) rfl rfl (by omega) (by omega) (by unfold I64; omega)) ?_
 refine Rr (QO rfl rfl (by unfold I64; omega)) ?_
 refine Rr (o_maxTo (b := 1) rfl rfl (with_max hi)) (Z8 (m := (wl (s.x ||| oneW i)).length) (0 : W64) rfl Zh Jh rfl rfl rfl (by omega) ?_)
 intro a25 w13 x14 hown25
 have z15 := x14.size
 replace hX := hX.ex x14
 replace hs := hs.ext x14
 replace hb2 := hb2.ext x14
 replace hb4 := hb4.ext x14
 replace hown25 := hown25.mono (D' := fun g => n0 ≤ g) (fun g h1 h2 => by omega)
 have e1 : List.replicate (wl (s.x ||| oneW i)).length (0 : W64) = [0] := by rw [hm1]; rfl
 rw [e1] at hown25
 refine Rr (asS rfl) (Qc (Qf (Qb (Rr (mvS rfl) (Rr (Qy underlying32 rfl sizeOf30 rfl) (Rr (Qm isAgg30 rfl (hb2.at.get 0 rfl)) ?_))))))
 refine Rg_copy rfl Zh Jh rfl rfl hown25 hs (by have := Ja s.x; simp; omega) ?_
 intro w16 x17 hown25
 have z18 := x17.size
 replace hX := Bel.out hX x17 om2
 replace hb4 := hb4.keep x17 om1
 refine Qc (Qf ?_)
 rw [wl_pad] at hown25
 apply Q3 (β := False) [peq _, peq _, peq _, peq _, peq _, peq _, peq _, peq _, peq _, peq _] 10 QV (by kernel_rfl) rfl ⟨Qd _, Qd _, Qd _, Qd _, Qd _, Qd _, Qd _, Qd _, Qd _, Qd _, trivial⟩ ?ob5 ?fin5
 case ob5 =>
  refine Qg (fun _ _ => Qe (Qn rfl (mvS rfl))) (Qg (fun _ _ => Qe (Qn rfl (mvI rfl))) (Qg (fun w25 x26 => ?_) ?_))
  ·refine Qa (Qe ?_)
   exact Qn rfl (o_quoZ (b := 64) rfl rfl (by omega) (by omega) (by unfold I64; omega))
  refine Qg (fun w28 x29 => ?_) ?_
  ·have hown25 := hown25.ext x29
   exact Qa (Qa (Qe (Qn rfl (ZE (i := 0) underlying30 sizeOf126 hown25 rfl rfl (by omega)))))
  refine Qg (fun w31 x32 => ?_) ?_
  ·have hown25 := hown25.ext x32
   exact Qa (Qe (Qn rfl (Zx isAgg126 (hown25.slA Zh) rfl rfl (i := 0) rfl rfl)))
  refine Qg (fun _ _ => Qe (Qn rfl (mvI rfl))) (Qg (fun w37 x38 => ?_) ?_)
  ·refine Qa (Qe ?_)
   exact Qn rfl (Yq (b := 64) rfl rfl (by omega) (by decide) (by unfold I64; omega))
  refine Qg (fun w40 x41 => Qa (Qe (Qn rfl (o_shlU (a := BitVec.ofNat 64 1) rfl rfl (Nat.mod_lt _ (by decide)))))) (Qg (fun _ _ => Qa (Qa (Qe (Qn rfl (o_bor rfl rfl))))) (Qg (fun w46 x47 => ?_) ?_))
  ·have hown25 := hown25.ext x47
   exact Qa (Qa (Qa (Qa (Qa (Qa (Qa (Qa (Qa (Qa (Qa (Qe (Qn rfl (ZE (i := 0) underlying30 sizeOf126 hown25 rfl rfl (by omega))))))))))))))
  exact QR
 case fin5 =>
  intro w49 x50
  have z51 := x50.size
  replace hX := hX.ex x50
  replace hb4 := hb4.ext x50
  replace hown25 := hown25.ext x50
  refine Qa (Qa (Qa (Qa (Qa (Qa (Qa (Qa (Qa (Qa (Qe (ZG (u := s.x ||| (1#64 <<< ((i : Int).toNat % 64))) rfl Zh sizeOf126 rfl rfl rfl hown25 (by simp) ?_)))))))))))
  intro w52 x53 hown25
  have z54 := x53.size
  replace hX := Bel.out hX x53 om2
  replace hb4 := hb4.keep x53 om1
  refine Qc (Qf (Qb (Rr (mvS rfl) (Rr (Q2 (cells := encSV ⟨a25, (wl (s.x ||| oneW i)).length, (s.x ||| oneW i)⟩) (vs := [(0, .slice _ _ _)]) rfl (by kernel_rfl)) (QS (v := .agg _) rfl sizeOf32 rfl rfl hb4 rfl rfl rfl ?_)))))
  intro w55 c56 hb4
  have z57 := Bel.size c56
  replace hX := Bel.out hX c56 om2
  replace hown25 := hown25.keepD c56 om3
  refine Qc (Qu ⟨_, ZN (v := .agg _) rfl (Zb isAgg32 sizeOf32 rfl hb4.at rfl), ?_⟩)
  have e2 : (i : Int).toNat % 64 = i := by omega
  rw [e2] at hown25
  have h := (hown25.slA Zh).mono (F' := fun g => Gs g ∨ Fsh w w55 g) (fun g h1 h2 => Or.inr ⟨by omega, by omega⟩)
  have e3 : ([s.x] : List W64).set 0 (s.x ||| 1#64 <<< i) = wl (s.x ||| oneW i) := by rw [JN (with_ne hi)]; rfl
  rw [e3] at h
  exact ⟨_, _, rfl, h, hX⟩
theorem bmeets_ok (w : World) (s : SV) (Gs : Nat → Prop) (hs : Sl encU 1 Gs w s.a s.c (wl s.x)) (o : SV) (Go : Nat → Prop) (ho : Sl encU 1 Go w o.a o.c (wl o.x)) : Ok Tryz.prog 161 #[.agg (encSV s).toArray, .agg (encSV o).toArray] w fun v w' => v = .bool ((s.x &&& o.x) != 0) ∧ Ext False w w' := by
 replace hs := hs.mono (F' := fun g => Gs g ∧ g < w.heap.size) (fun g h1 h2 => ⟨h2, h1⟩)
 replace ho := ho.mono (F' := fun g => Go g ∧ g < w.heap.size) (fun g h1 h2 => ⟨h2, h1⟩)
 refine Qv 29 func161 rfl rfl rfl ?_
 have hX := xRf w
 refine Qf (Qb (QH rfl (QX (v := .agg _) rfl) ?_))
 intro b2 w1 x2 hge2 hb2
 replace hX := hX.ex x2
 replace hs := hs.ext x2
 replace ho := ho.ext x2
 refine QH rfl (QX (v := .agg _) rfl) ?_
 intro b3 w4 x5 hge3 hb3
 replace hX := hX.ex x5
 replace hs := hs.ext x5
 replace ho := ho.ext x5
 replace hb2 := hb2.ext x5
 refine Rr Qj (Qc (Qf (Qf (Qb (Rr (Qy underlying32 rfl sizeOf30 rfl) (Rr (Qm isAgg30 rfl (hb2.at.get 0 rfl)) (Rr (QC underlying30 rfl) (Rr (Qy underlying32 rfl sizeOf30 rfl) (Rr (Qm isAgg30 rfl (hb3.at.get 0 rfl)) (Rr (QC underlying30 rfl) (Rr (o_minN rfl rfl) (Rr QP (Qc (Qt ?_))))))))))))))
 refine QU (α := Nat) [(4, 5), (13, 28)] (fun k => [(13, .int .i64 (k : Int))]) (fun k w' => (k ≤ min (wl s.x).length (wl o.x).length ∧ (1 ≤ k → s.x &&& o.x = 0)) ∧ Ext False w4 w') (fun k => (wl s.x).length - k) 0 ⟨rfl, trivial⟩ ⟨⟨Nat.zero_le _, fun h => by omega⟩, Bel.refl _ _⟩ ?_
 rintro k fb9 w8 ⟨⟨hk, hz⟩, hXL7⟩
 replace hX := hX.ex hXL7
 replace hs := hs.ext hXL7
 replace ho := ho.ext hXL7
 replace hb2 := hb2.ext hXL7
 replace hb3 := hb3.ext hXL7
 refine Qf (Qb (Rr (QM rfl rfl) (Qc (Qf (Qw rfl (fun hc1 => ?_) (fun hc1 => ?_))))))
 ·replace hc1 := dcT hc1; have hkm : k < min (wl s.x).length (wl o.x).length := by omega
  refine Qp (Qf (Qt (Qf (Qb (Rr (mvI rfl) (Rr (asI rfl) (Qc (Qf ?_))))))))
  apply Q3 (β := False) [peq _, peq _, peq _, peq _, peq _, peq _, peq _, peq _, peq _, peq _, peq _, peq _] 12 QV (by kernel_rfl) rfl ⟨Qd _, Qd _, Qd _, Qd _, Qd _, Qd _, Qd _, Qd _, Qd _, Qd _, Qd _, Qd _, trivial⟩ ?ob4 ?fin4
  case ob4 =>
   refine Qg (fun _ _ => Qe (Qn rfl (Qy underlying32 rfl sizeOf30 rfl))) (Qg (fun w14 x15 => ?_) ?_)
   ·have hb2 := hb2.ext x15
    exact Qa (Qe (Qn rfl (Qm isAgg30 rfl (hb2.at.get 0 rfl))))
   refine Qg (fun _ _ => Qe (Qn rfl (mvI rfl))) (Qg (fun w20 x21 => ?_) ?_)
   ·have hs := hs.ext x21
    exact Qa (Qa (Qe (Qn rfl (QW underlying30 sizeOf126 hs rfl rfl omg))))
   refine Qg (fun w23 x24 => ?_) ?_
   ·have hs := hs.ext x24
    exact Qa (Qe (Qn rfl (Zx isAgg126 hs rfl rfl (Ze 0 (by omega)) rfl)))
   refine Qg (fun _ _ => Qe (Qn rfl (Qy underlying32 rfl sizeOf30 rfl))) (Qg (fun w29 x30 => ?_) ?_)
   ·have hb3 := hb3.ext x30
    exact Qa (Qe (Qn rfl (Qm isAgg30 rfl (hb3.at.get 0 rfl))))
   refine Qg (fun _ _ => Qe (Qn rfl (mvI rfl))) (Qg (fun w35 x36 => ?_) ?_)
   ·have ho := ho.ext x36
    exact Qa (Qa (Qe (Qn rfl (QW underlying30 sizeOf126 ho rfl rfl omg))))
   refine Qg (fun w38 x39 => ?_) ?_
   ·have ho := ho.ext x39
    exact Qa (Qe (Qn rfl (Zx isAgg126 ho rfl rfl (Ze 0 (by omega)) rfl)))
   exact Qg (fun _ _ => Qa (Qa (Qe (Qn rfl (o_band rfl rfl))))) (Qg (fun _ _ => Qa (Qe (Qn rfl (o_neU (b := BitVec.ofNat 64 0) rfl rfl)))) QR)
  case fin4 =>
   intro w47 x48
   replace hX := hX.ex x48
   replace hXL7 := Bel.ex hXL7 x48
   refine Qa (Qa (Qa (Qa (Qa (Qa (Qa (Qa (Qa (Qa (Qa (Qa (Qe (Qc (Qw rfl (fun hc2 => ?_) (fun hc2 => ?_)))))))))))))))
   ·refine Qf (Qb (Rr Qj (Qc (Qu ⟨_, Qr rfl rfl, ⟨cvB ?_, hX⟩⟩))))
    all_goals (rw [meets_yes hkm] at hc2; exact hc2.symm)
   refine Qp (Qb ?_)
   refine Rr (QO rfl rfl (by have := Ja s.x; unfold I64; omega)) ?_
   refine Rr (mvI rfl) (Qc ⟨k + 1, ⟨sT, trivial⟩, oT, ⟨?_, hXL7⟩, ?_⟩)
   ·exact ⟨by omega, fun _ => by rw [← meets_yes hkm]; simpa using hc2⟩
   ·omega
 replace hc1 := dcF hc1
 refine QN (QI (Qf (Qb (Rr Qj (Qc (Qu ⟨_, Qr rfl rfl, ⟨cvB ?_, hX⟩⟩))))))
 all_goals (rw [meets_end hk hc1 hz]; rfl)
theorem bwithin_ok (w : World) (s : SV) (Gs : Nat → Prop) (hs : Sl encU 1 Gs w s.a s.c (wl s.x)) (o : SV) (Go : Nat → Prop) (ho : Sl encU 1 Go w o.a o.c (wl o.x)) : Ok Tryz.prog 100 #[.agg (encSV s).toArray, .agg (encSV o).toArray] w fun v w' => v = .bool (subW s.x o.x) ∧ Ext False w w' := by
 replace hs := hs.mono (F' := fun g => Gs g ∧ g < w.heap.size) (fun g h1 h2 => ⟨h2, h1⟩)
 replace ho := ho.mono (F' := fun g => Go g ∧ g < w.heap.size) (fun g h1 h2 => ⟨h2, h1⟩)
 refine Qv 22 func100 rfl rfl rfl ?_
 have hX := xRf w
 refine Qf (Qb (QH rfl (QX (v := .agg _) rfl) ?_))
 intro b2 w1 x2 hge2 hb2
 replace hX := hX.ex x2
 replace hs := hs.ext x2
 replace ho := ho.ext x2
 refine QH rfl (QX (v := .agg _) rfl) ?_
 intro b3 w4 x5 hge3 hb3
 replace hX := hX.ex x5
 replace hs := hs.ext x5
 replace ho := ho.ext x5
 replace hb2 := hb2.ext x5
 refine Rr Qj (Qc (Qf (Qf (Qb (Rr (Qy underlying32 rfl sizeOf30 rfl) (Rr (Qm isAgg30 rfl (hb2.at.get 0 rfl)) (Rr (QC underlying30 rfl) (Rr QP (Qc (Qt ?_))))))))))
 refine QU (α := Nat) [(4, 6), (10, 21)] (fun k => [(10, .int .i64 (k : Int))]) (fun k w' => (k ≤ (wl s.x).length ∧ (1 ≤ k → s.x &&& ~~~o.x = 0)) ∧ Ext False w4 w') (fun k => (wl s.x).length - k) 0 ⟨rfl, trivial⟩ ⟨⟨Nat.zero_le _, fun h => by omega⟩, Bel.refl _ _⟩ ?_
 rintro k fb9 w8 ⟨⟨hk, hz⟩, hXL7⟩
 replace hX := hX.ex hXL7
 replace hs := hs.ext hXL7
 replace ho := ho.ext hXL7
 replace hb3 := hb3.ext hXL7
 refine Qf (Qb (Rr (QM rfl rfl) (Qc (Qf (Qw rfl (fun hc1 => ?_) (fun hc1 => ?_))))))
 ·replace hc1 := dcT hc1; have hkm : k < (wl s.x).length := by omega
  refine Qp (Qf (Qt (Qf (Qb (Rr (mvI rfl) (Rr (QW underlying30 sizeOf126 hs rfl rfl omg) (Rr (Zx isAgg126 hs rfl rfl (Ze 0 (by omega)) rfl) (Rr (asI rfl) (Rr (asI rfl) (Qc (Qf (Qb (Rr (mvI rfl) (Rr (QF isAgg32 sizeOf32 rfl hb3.at rfl) (Rr (mvI rfl) (Qo rfl (QB call120 rfl rfl) (Ok.mono (JW _ ⟨_, _, _⟩ _ ho _) ?_)))))))))))))))))
  rintro _ w11 ⟨rfl, x12⟩
  replace hX := hX.ex x12
  replace hXL7 := Bel.ex hXL7 x12
  refine Rr (o_bandn rfl rfl) (Rr (o_neU (b := BitVec.ofNat 64 0) rfl rfl) (Qc (Qw rfl (fun hc2 => ?_) (fun hc2 => ?_))))
  ·refine Qf (Qb (Rr Qj (Qc (Qu ⟨_, Qr rfl rfl, ⟨cvB ?_, hX⟩⟩))))
   all_goals (rw [sub_yes hkm] at hc2; unfold subW; symm; simpa using hc2)
  refine Qp (Qb ?_)
  refine Rr (QO rfl rfl (by have := Ja s.x; unfold I64; omega)) ?_
  refine Rr (mvI rfl) (Qc ⟨k + 1, ⟨sT, trivial⟩, oT, ⟨?_, hXL7⟩, ?_⟩)
  ·exact ⟨by omega, fun _ => by rw [← sub_yes hkm]; simpa using hc2⟩
  ·omega
 replace hc1 := dcF hc1
 refine QN (QI (Qf (Qb (Rr Qj (Qc (Qu ⟨_, Qr rfl rfl, ⟨cvB ?_, hX⟩⟩))))))
 all_goals (exact (sub_end hc1 hz).symm)
theorem bor_ok (w : World) (s : SV) (Gs : Nat → Prop) (hs : Sl encU 1 Gs w s.a s.c (wl s.x)) (o : SV) (Go : Nat → Prop) (ho : Sl encU 1 Go w o.a o.c (wl o.x)) : Ok Tryz.prog 53 #[.agg (encSV s).toArray, .agg (encSV o).toArray] w fun v w' => ∃ a c, v = .agg (encSV ⟨a, c, s.x ||| o.x⟩).toArray ∧ Sl encU 1 (Fsh w w') w' a c (wl (s.x ||| o.x)) ∧ Ext False w w' := by
 replace hs := hs.mono (F' := fun g => Gs g ∧ g < w.heap.size) (fun g h1 h2 => ⟨h2, h1⟩)
 replace ho := ho.mono (F' := fun g => Go g ∧ g < w.heap.size) (fun g h1 h2 => ⟨h2, h1⟩)
 refine Qv 33 func53 rfl rfl rfl ?_
 have hX := xRf w
 refine Qf (Qb (QH rfl (QX (v := .agg _) rfl) ?_))
 intro b2 w1 x2 hge2 hb2
 have hlt2 := hb2.lt
 have z3 := x2.size
 replace hX := hX.ex x2
 replace hs := hs.ext x2
 replace ho := ho.ext x2
 refine QH rfl (QX (v := .agg _) rfl) ?_
 intro b3 w4 x5 hge3 hb3
 have hlt3 := hb3.lt
 have z6 := x5.size
 replace hX := hX.ex x5
 replace hs := hs.ext x5
 replace ho := ho.ext x5
 replace hb2 := hb2.ext x5
 refine QH rfl (Q4 zeroValue32) ?_
 intro b4 w7 x8 hge4 hb4
 have hlt4 := hb4.lt
 have z9 := x8.size
 replace hX := hX.ex x8
 replace hs := hs.ext x8
 replace ho := ho.ext x8
 replace hb2 := hb2.ext x8
 replace hb3 := hb3.ext x8
 refine Qc (Qf (Qb ?_))
 obtain ⟨n0, hn0⟩ : ∃ n, n = w7.heap.size := ⟨_, rfl⟩
 refine Rr (Qy underlying32 rfl sizeOf30 rfl) (Rr (Qm isAgg30 rfl (hb2.at.get 0 rfl)) (Rr (QC underlying30 rfl) (Rr (Qy underlying32 rfl sizeOf30 rfl) (Rr (Qm isAgg30 rfl (hb3.at.get 0 rfl)) (Rr (QC underlying30 rfl) (Rr (o_maxTo rfl rfl (or_max s.x o.x)) ?_))))))
 refine Z8 (m := (wl (s.x ||| o.x)).length) (0 : W64) rfl Zh Jh rfl rfl rfl (by have := Ja (s.x ||| o.x); omega) ?_
 intro a14 w10 x11 hown14
 have z12 := x11.size
 replace hX := hX.ex x11
 replace hs := hs.ext x11
 replace ho := ho.ext x11
 replace hb2 := hb2.ext x11
 replace hb3 := hb3.ext x11
 replace hb4 := hb4.ext x11
 replace hown14 := hown14.mono (D' := fun g => n0 ≤ g) (fun g h1 h2 => by omega)
 refine Rr (asS rfl) (Qc (Qf (Qf (Qb (Rr (mvS rfl) (Rr (QC underlying30 rfl) (Rr QP (Qc (Qt (QU (α := Nat) [(6, 6), (17, 30)] (fun k => [(17, .int .i64 (k : Int))]) (fun k w' => (k ≤ (wl (s.x ||| o.x)).length) ∧ Bel False (fun g => n0 ≤ g) w10 w' ∧ (Own encU 1 126 (fun g => n0 ≤ g) w' (.slice a14 (wl (s.x ||| o.x)).length (wl (s.x ||| o.x)).length) (orL s.x o.x k))) (fun k => (wl (s.x ||| o.x)).length - k) 0 ⟨rfl, trivial⟩ ⟨Nat.zero_le _, Bel.refl _ _, (show Own _ _ _ _ _ _ (orL s.x o.x 0) from hown14)⟩ ?_))))))))))
 rintro k fb15 w14 ⟨hk, hXL13, hown14⟩
 have z16 := Bel.size hXL13
 replace hX := Bel.out hX hXL13 om2
 replace hs := hs.keep hXL13 om3
 replace ho := ho.keep hXL13 om3
 replace hb2 := hb2.keep hXL13 om1
 replace hb3 := hb3.keep hXL13 om1
 replace hb4 := hb4.keep hXL13 om1
 have hl1 := Ja (s.x ||| o.x)
 refine Qf (Qb (Rr (QM rfl rfl) (Qc (Qf (Qw rfl (fun hc1 => ?_) (fun hc1 => ?_))))))
 ·replace hc1 := dcT hc1
  have hk0 : k = 0 := by omega
  subst hk0
  have hst := or_start hc1
  rw [hst.1] at hown14
  refine Qp (Qf (Qt (Qf (Qb (Rr (mvI rfl) (Rr (asI rfl) (Qc ?_)))))))
  apply Q3 (β := False) [peq _, peq _, peq _, peq _, peq _, peq _, peq _, peq _, peq _, peq _] 10 QV (by kernel_rfl) rfl ⟨Qd _, Qd _, Qd _, Qd _, Qd _, Qd _, Qd _, Qd _, Qd _, Qd _, trivial⟩ ?ob5 ?fin5
  case ob5 =>
   refine Qg (fun _ _ => Qe (Qn rfl (mvS rfl))) (Qg (fun _ _ => Qe (Qn rfl (mvI rfl))) (Qg (fun w23 x24 => ?_) ?_))
   ·have hb2 := hb2.ext x24
    exact Qe (Qn rfl (QF isAgg32 sizeOf32 rfl hb2.at rfl))
   refine Qg (fun _ _ => Qe (Qn rfl (mvI rfl))) (Qg (fun w29 x30 => ?_) ?_)
   ·have hs := hs.ext x30
    exact Qa (Qa (Qe (Zj rfl (QB call120 rfl rfl) (JW _ ⟨_, _, _⟩ _ hs 0))))
   refine Qg (fun w32 x33 => ?_) ?_
   ·have hb3 := hb3.ext x33
    exact Qe (Qn rfl (QF isAgg32 sizeOf32 rfl hb3.at rfl))
   refine Qg (fun _ _ => Qe (Qn rfl (mvI rfl))) (Qg (fun w38 x39 => ?_) ?_)
   ·have ho := ho.ext x39
    exact Qa (Qa (Qa (Qe (Zj rfl (QB call120 rfl rfl) (JW _ ⟨_, _, _⟩ _ ho 0)))))
   refine Qg (fun _ _ => Qa (Qa (Qe (Qn rfl (o_bor rfl rfl))))) (Qg (fun w44 x45 => ?_) ?_)
   ·have hown14 := hown14.ext x45
    exact Qa (Qa (Qa (Qa (Qa (Qa (Qa (Qa (Qa (Qa (Qa (Qe (Qn rfl (ZE (i := 0) underlying30 sizeOf126 hown14 rfl rfl (by omega))))))))))))))
   exact QR
  case fin5 =>
   intro w47 x48
   replace hXL13 := Bel.ex hXL13 x48
   replace hown14 := hown14.ext x48
   refine Qa (Qa (Qa (Qa (Qa (Qa (Qa (Qa (Qa (Qa (Qe (ZG (u := (wl s.x).getD 0 0 ||| (wl o.x).getD 0 0) rfl Zh sizeOf126 rfl rfl rfl hown14 (by simp) ?_)))))))))))
   intro w50 x51 hown14
   replace hXL13 := Bel.out hXL13 x51 om2
   refine Qc (Qb (Rr (QO rfl rfl omg) (Rr (mvI rfl) (Qc ⟨1, ⟨sT, trivial⟩, oT, ⟨?_, hXL13, ?_⟩, ?_⟩))))
   ·show 1 ≤ (wl (s.x ||| o.x)).length; omega
   ·rw [or_one hst.2]; exact hown14
   ·omega
 replace hc1 := dcF hc1
 refine QN (QI (Qf (Qb (Rr (mvS rfl) (Rr (Q2 (cells := encSV ⟨a14, (wl (s.x ||| o.x)).length, (s.x ||| o.x)⟩) (vs := [(0, .slice _ _ _)]) rfl (by kernel_rfl)) (QS (v := .agg _) rfl sizeOf32 rfl rfl hb4 rfl rfl rfl ?_))))))
 intro w53 c54 hb4
 have z55 := Bel.size c54
 replace hX := Bel.out hX c54 om2
 replace hown14 := hown14.keepD c54 om3
 refine Qc (Qu ⟨_, ZN (v := .agg _) rfl (Zb isAgg32 sizeOf32 rfl hb4.at rfl), ?_⟩)
 rw [or_end hc1] at hown14; exact ⟨_, _, rfl, (hown14.slA Zh).mono (fun g h1 h2 => ⟨by omega, by omega⟩), hX⟩
theorem band_ok (w : World) (s : SV) (Gs : Nat → Prop) (hs : Sl encU 1 Gs w s.a s.c (wl s.x)) (o : SV) (Go : Nat → Prop) (ho : Sl encU 1 Go w o.a o.c (wl o.x)) : Ok Tryz.prog 113 #[.agg (encSV s).toArray, .agg (encSV o).toArray] w fun v w' => ∃ a c, v = .agg (encSV ⟨a, c, s.x &&& o.x⟩).toArray ∧ Sl encU 1 (Fsh w w') w' a c (wl (s.x &&& o.x)) ∧ Ext False w w' := by
 replace hs := hs.mono (F' := fun g => Gs g ∧ g < w.heap.size) (fun g h1 h2 => ⟨h2, h1⟩)
 replace ho := ho.mono (F' := fun g => Go g ∧ g < w.heap.size) (fun g h1 h2 => ⟨h2, h1⟩)
 refine Qv 37 func113 rfl rfl rfl ?_
 have hX := xRf w
 refine Qf (Qb (QH rfl (QX (v := .agg _) rfl) ?_))
 intro b2 w1 x2 hge2 hb2
 have hlt2 := hb2.lt
 have z3 := x2.size
 replace hX := hX.ex x2
 replace hs := hs.ext x2
 replace ho := ho.ext x2
 refine QH rfl (QX (v := .agg _) rfl) ?_
 intro b3 w4 x5 hge3 hb3
 have hlt3 := hb3.lt
 have z6 := x5.size
 replace hX := hX.ex x5
 replace hs := hs.ext x5
 replace ho := ho.ext x5
 replace hb2 := hb2.ext x5
 refine QH rfl (Q4 zeroValue32) ?_
 intro b4 w7 x8 hge4 hb4
 have hlt4 := hb4.lt
 have z9 := x8.size
 replace hX := hX.ex x8
 replace hs := hs.ext x8
 replace ho := ho.ext x8
 replace hb2 := hb2.ext x8
 replace hb3 := hb3.ext x8
 refine Qc (Qf (Qb ?_))
 obtain ⟨n0, hn0⟩ : ∃ n, n = w7.heap.size := ⟨_, rfl⟩
 refine Rr (Qy underlying32 rfl sizeOf30 rfl) (Rr (Qm isAgg30 rfl (hb2.at.get 0 rfl)) (Rr (QC underlying30 rfl) (Rr (Qy underlying32 rfl sizeOf30 rfl) (Rr (Qm isAgg30 rfl (hb3.at.get 0 rfl)) (Rr (QC underlying30 rfl) (Rr ((o_minN rfl rfl).trans (by rw [and_min])) ?_))))))
 refine Z8 (m := (andW s.x o.x).length) (0 : W64) rfl Zh Jh rfl rfl rfl (by have := Vi s.x o.x; omega) ?_
 intro a14 w10 x11 hown14
 have z12 := x11.size
 replace hX := hX.ex x11
 replace hs := hs.ext x11
 replace ho := ho.ext x11
 replace hb2 := hb2.ext x11
 replace hb3 := hb3.ext x11
 replace hb4 := hb4.ext x11
 replace hown14 := hown14.mono (D' := fun g => n0 ≤ g) (fun g h1 h2 => by omega)
 refine Rr (asS rfl) (Qc (Qf (Qf (Qb (Rr (mvS rfl) (Rr (QC underlying30 rfl) (Rr QP (Qc (Qt (QU (α := Nat) [(6, 6), (17, 34)] (fun k => [(17, .int .i64 (k : Int))]) (fun k w' => (k ≤ (andW s.x o.x).length) ∧ Bel False (fun g => n0 ≤ g) w10 w' ∧ (Own encU 1 126 (fun g => n0 ≤ g) w' (.slice a14 (andW s.x o.x).length (andW s.x o.x).length) (andLs s.x o.x k))) (fun k => (andW s.x o.x).length - k) 0 ⟨rfl, trivial⟩ ⟨Nat.zero_le _, Bel.refl _ _, (show Own _ _ _ _ _ _ (andLs s.x o.x 0) from hown14)⟩ ?_))))))))))
 rintro k fb15 w14 ⟨hk, hXL13, hown14⟩
 have z16 := Bel.size hXL13
 replace hX := Bel.out hX hXL13 om2
 replace hs := hs.keep hXL13 om3
 replace ho := ho.keep hXL13 om3
 replace hb2 := hb2.keep hXL13 om1
 replace hb3 := hb3.keep hXL13 om1
 replace hb4 := hb4.keep hXL13 om1
 have hl1 := Vi s.x o.x
 refine Qf (Qb (Rr (QM rfl rfl) (Qc (Qf (Qw rfl (fun hc1 => ?_) (fun hc1 => ?_))))))
 ·replace hc1 := dcT hc1
  have hk0 : k = 0 := by omega
  subst hk0
  have hst := and_start hc1
  rw [hst.1] at hown14
  refine Qp (Qf (Qt (Qf (Qb (Rr (mvI rfl) (Rr (asI rfl) (Qc ?_)))))))
  apply Q3 (β := False) [peq _, peq _, peq _, peq _, peq _, peq _, peq _, peq _, peq _, peq _, peq _, peq _, peq _, peq _] 14 QV (by kernel_rfl) rfl ⟨Qd _, Qd _, Qd _, Qd _, Qd _, Qd _, Qd _, Qd _, Qd _, Qd _, Qd _, Qd _, Qd _, Qd _, trivial⟩ ?ob5 ?fin5
  case ob5 =>
   refine Qg (fun _ _ => Qe (Qn rfl (mvS rfl))) (Qg (fun _ _ => Qe (Qn rfl (mvI rfl))) (Qg (fun _ _ => Qe (Qn rfl (Qy underlying32 rfl sizeOf30 rfl))) (Qg (fun w26 x27 => ?_) ?_)))
   ·have hb2 := hb2.ext x27
    exact Qa (Qe (Qn rfl (Qm isAgg30 rfl (hb2.at.get 0 rfl))))
   refine Qg (fun _ _ => Qe (Qn rfl (mvI rfl))) (Qg (fun w32 x33 => ?_) ?_)
   ·have hs := hs.ext x33
    exact Qa (Qa (Qe (Qn rfl (QW (i := 0) underlying30 sizeOf126 hs rfl rfl hst.2.2.1))))
   refine Qg (fun w35 x36 => ?_) ?_
   ·have hs := hs.ext x36
    exact Qa (Qe (Qn rfl (Zx isAgg126 hs rfl rfl (Ze 0 hst.2.2.1) rfl)))
   refine Qg (fun _ _ => Qe (Qn rfl (Qy underlying32 rfl sizeOf30 rfl))) (Qg (fun w41 x42 => ?_) ?_)
   ·have hb3 := hb3.ext x42
    exact Qa (Qe (Qn rfl (Qm isAgg30 rfl (hb3.at.get 0 rfl))))
   refine Qg (fun _ _ => Qe (Qn rfl (mvI rfl))) (Qg (fun w47 x48 => ?_) ?_)
   ·have ho := ho.ext x48
    exact Qa (Qa (Qe (Qn rfl (QW (i := 0) underlying30 sizeOf126 ho rfl rfl hst.2.2.2))))
   refine Qg (fun w50 x51 => ?_) ?_
   ·have ho := ho.ext x51
    exact Qa (Qe (Qn rfl (Zx isAgg126 ho rfl rfl (Ze 0 hst.2.2.2) rfl)))
   refine Qg (fun _ _ => Qa (Qa (Qe (Qn rfl (o_band rfl rfl))))) (Qg (fun w56 x57 => ?_) ?_)
   ·have hown14 := hown14.ext x57
    exact Qa (Qa (Qa (Qa (Qa (Qa (Qa (Qa (Qa (Qa (Qa (Qa (Qa (Qa (Qa (Qe (Qn rfl (ZE (i := 0) underlying30 sizeOf126 hown14 rfl rfl (by omega))))))))))))))))))
   exact QR
  case fin5 =>
   intro w59 x60
   replace hXL13 := Bel.ex hXL13 x60
   replace hown14 := hown14.ext x60
   refine Qa (Qa (Qa (Qa (Qa (Qa (Qa (Qa (Qa (Qa (Qa (Qa (Qa (Qa (Qe (ZG (u := (wl s.x).getD 0 0 &&& (wl o.x).getD 0 0) rfl Zh sizeOf126 rfl rfl rfl hown14 (by simp) ?_)))))))))))))))
   intro w62 x63 hown14
   replace hXL13 := Bel.out hXL13 x63 om2
   refine Qc (Qb (Rr (QO rfl rfl omg) (Rr (mvI rfl) (Qc ⟨1, ⟨sT, trivial⟩, oT, ⟨?_, hXL13, ?_⟩, ?_⟩))))
   ·show 1 ≤ (andW s.x o.x).length; omega
   ·rw [_root_.Go.Lx.and_one hst.2.1]; exact hown14
   ·omega
 replace hc1 := dcF hc1
 refine QN (QI (Qf (Qb ?_)))
 rw [and_end hc1] at hown14
 refine Rr (mvS rfl) (Qo rfl (QD call71 rfl) (Ok.mono (Yk _ _ _ (andW s.x o.x) _ (hown14.slA Zh) (Vi _ _)) ?_))
 rintro _ w65 ⟨rfl, x66⟩
 have z67 := x66.size
 replace hX := hX.ex x66
 replace hb4 := hb4.ext x66
 replace hown14 := hown14.ext x66
 refine QS (v := .agg _) rfl sizeOf32 rfl rfl hb4 rfl rfl rfl ?_
 intro w68 c69 hb4
 have z70 := Bel.size c69
 replace hX := Bel.out hX c69 om2
 replace hown14 := hown14.keepD c69 om3
 refine Qc (Qu ⟨_, ZN (v := .agg _) rfl (Zb isAgg32 sizeOf32 rfl hb4.at rfl), ?_⟩)
 rw [show (andW s.x o.x).getD 0 0 = s.x &&& o.x from and_get _ _]
 have h := Vh (hown14.slA Zh) (Vi _ _)
 rw [and_get] at h
 exact ⟨_, _, rfl, h.mono (fun g h1 h2 => ⟨by omega, by omega⟩), hX⟩
theorem Z5 (w : World) (s : SV) (Gs : Nat → Prop) (hs : Sl encU 1 Gs w s.a s.c (wl s.x)) (o : SV) (Go : Nat → Prop) (ho : Sl encU 1 Go w o.a o.c (wl o.x)) : Ok Tryz.prog 16 #[.agg (encSV s).toArray, .agg (encSV o).toArray] w fun v w' => v = .bool (s.x == o.x) ∧ Ext False w w' := by
 replace hs := hs.mono (F' := fun g => Gs g ∧ g < w.heap.size) (fun g h1 h2 => ⟨h2, h1⟩)
 replace ho := ho.mono (F' := fun g => Go g ∧ g < w.heap.size) (fun g h1 h2 => ⟨h2, h1⟩)
 refine Qv 30 func16 rfl rfl rfl ?_
 have hX := xRf w
 refine Qf (Qb (QH rfl (QX (v := .agg _) rfl) ?_))
 intro b2 w1 x2 hge2 hb2
 replace hX := hX.ex x2
 replace hs := hs.ext x2
 replace ho := ho.ext x2
 refine QH rfl (QX (v := .agg _) rfl) ?_
 intro b3 w4 x5 hge3 hb3
 replace hX := hX.ex x5
 replace hs := hs.ext x5
 replace ho := ho.ext x5
 replace hb2 := hb2.ext x5
 refine Rr Qj (Qc (Qf (Qf (Qb (Rr (Qy underlying32 rfl sizeOf30 rfl) (Rr (Qm isAgg30 rfl (hb2.at.get 0 rfl)) (Rr (QC underlying30 rfl) (Rr (Qy underlying32 rfl sizeOf30 rfl) (Rr (Qm isAgg30 rfl (hb3.at.get 0 rfl)) (Rr (QC underlying30 rfl) (Rr (Zv rfl rfl) (Qc (Qw rfl (fun hc1 => ?_) (fun hc1 => ?_))))))))))))))
 ·refine Qf (Qb (Rr Qj (Qc (Qu ⟨_, Qr rfl rfl, ⟨cvB ?_, hX⟩⟩))))
  all_goals (exact (eq_len hc1).symm)
 refine Qp (Qf (Qf (Qb (Rr (Qy underlying32 rfl sizeOf30 rfl) (Rr (Qm isAgg30 rfl (hb2.at.get 0 rfl)) (Rr (QC underlying30 rfl) (Rr QP (Qc (Qt ?_)))))))))
 refine QU (α := Nat) [(4, 6), (17, 29)] (fun k => [(17, .int .i64 (k : Int))]) (fun k w' => (k ≤ (wl s.x).length ∧ (1 ≤ k → s.x = o.x)) ∧ Ext False w4 w') (fun k => (wl s.x).length - k) 0 ⟨rfl, trivial⟩ ⟨⟨Nat.zero_le _, fun h => by omega⟩, Bel.refl _ _⟩ ?_
 rintro k fb9 w8 ⟨⟨hk, hz⟩, hXL7⟩
 replace hX := hX.ex hXL7
 replace hs := hs.ext hXL7
 replace ho := ho.ext hXL7
 replace hb3 := hb3.ext hXL7
 refine Qf (Qb (Rr (QM rfl rfl) (Qc (Qf (Qw rfl (fun hc2 => ?_) (fun hc2 => ?_))))))
 ·replace hc2 := dcT hc2; have hkm : k < (wl s.x).length := by omega
  have hlo : (wl s.x).length = (wl o.x).length := by simp at hc1; omega
  refine Qp (Qf (Qt (Qf (Qb (Rr (mvI rfl) (Rr (QW underlying30 sizeOf126 hs rfl rfl omg) (Rr (Zx isAgg126 hs rfl rfl (Ze 0 (by omega)) rfl) (Rr (asI rfl) (Rr (asI rfl) (Qc (Qf (Qb (Rr (mvI rfl) (Rr (Qy underlying32 rfl sizeOf30 rfl) (Rr (Qm isAgg30 rfl (hb3.at.get 0 rfl)) (Rr (mvI rfl) (Rr (QW underlying30 sizeOf126 ho rfl rfl omg) (Rr (Zx isAgg126 ho rfl rfl (Ze 0 (by omega)) rfl) (Rr (o_neU rfl rfl) (Qc (Qw rfl (fun hc3 => ?_) (fun hc3 => ?_))))))))))))))))))))))
  ·refine Qf (Qb (Rr Qj (Qc (Qu ⟨_, Qr rfl rfl, ⟨cvB ?_, hX⟩⟩))))
   all_goals (exact (eq_ne hkm hc3).symm)
  refine Qp (Qb ?_)
  refine Rr (QO rfl rfl (by have := Ja s.x; unfold I64; omega)) ?_
  refine Rr (mvI rfl) (Qc ⟨k + 1, ⟨sT, trivial⟩, oT, ⟨?_, hXL7⟩, ?_⟩)
  ·exact ⟨by omega, fun _ => eq_step hkm hc3⟩
  ·omega
 replace hc2 := dcF hc2
 refine QN (QI (Qf (Qb (Rr Qj (Qc (Qu ⟨_, Qr rfl rfl, ⟨cvB ?_, hX⟩⟩))))))
 all_goals (exact (eq_end hc1 hc2 hz).symm)
theorem bempty_ok (w : World) (s : SV) (Gs : Nat → Prop) (hs : Sl encU 1 Gs w s.a s.c (wl s.x)) : Ok Tryz.prog 27 #[.agg (encSV s).toArray] w fun v w' => v = .bool (s.x == 0) ∧ Ext False w w' := by
 refine Qv 7 func27 rfl rfl rfl ?_
 have hX := xRf w
 refine Qf (Qb (QH rfl (QX (v := .agg _) rfl) ?_))
 intro b1 w1 x2 hge1 hb1
 replace hX := hX.ex x2
 refine Rr Qj (Qc (Qf (Qb (Rr (Qy underlying32 rfl sizeOf30 rfl) (Rr (Qm isAgg30 rfl (hb1.at.get 0 rfl)) (Rr (QC underlying30 rfl) (Rr (Zu rfl rfl) (Rr (asB rfl) (Qc (Qu ⟨_, Qr rfl rfl, ⟨cvB ?_, hX⟩⟩))))))))))
 all_goals (exact empty_eq s.x)
theorem ball_ok (w : World) (s : SV) (Gs : Nat → Prop) (hs : Sl encU 1 Gs w s.a s.c (wl s.x)) : Ok Tryz.prog 171 #[.agg (encSV s).toArray] w fun v w' => ∃ b, v = .func (.func 208) #[] #[.pointer (some ⟨b, 0, none⟩)] ∧ w.heap.size ≤ b ∧ At w' b 0 (encSV s) ∧ Ext False w w' := by
 refine Qv 4 func171 rfl rfl rfl ?_
 have hX := xRf w
 refine Qf (Qb (QH rfl (QX (v := .agg _) rfl) ?_))
 intro b1 w1 x2 hge1 hb1
 replace hX := hX.ex x2
 refine Rr Qj (Qc (Qf (Qb (Rr (o_fn1 rfl) (Rr (QL (v := .func _ _ _) rfl) (Qc (Qu ⟨_, Qr rfl rfl, ?_⟩)))))))
 exact ⟨_, rfl, by omega, hb1.at, hX⟩
theorem ball1_ok (D : Nat → Prop) (l : Nat) (J : Nat → World → Prop) (b : Nat) (s : SV) (G : Nat → Prop) (w : World) (hp : At w b 0 (encSV s)) (hs : Sl encU 1 G w s.a s.c (wl s.x)) (hT : Tb w) (hpD : ¬ D b) (hTD : ¬ D 0) (hsD : ∀ g, g < w.heap.size → G g → ¬ D g)
  (hJs : ∀ i a b, J i a → Ext False a b → J i b) (hY : ∀ i x a, (memW s.x 64)[i]? = some x → J i a → Yl Tryz.prog l #[.int .i64 x] a fun e b => e = .returned (.bool true) ∧ J (i + 1) b ∧ Bel False D a b) (hJ : J 0 w) : Ok Tryz.prog 208 #[.func (.yield l) #[] #[], .pointer (some ⟨b, 0, none⟩)] w fun v w' => J (memW s.x 64).length w' := by
 replace hs := hs.mono (F' := fun g => G g ∧ g < w.heap.size) (fun g h1 h2 => ⟨h2, h1⟩)
 replace hsD : ∀ w1 : World, ∀ g, g < w1.heap.size → (G g ∧ g < w.heap.size) → ¬ D g := fun _ g _ h => hsD g h.2 h.1
 refine Qv 28 func208 rfl rfl rfl ?_
 have hX : Bel False (D) w w := Bel.refl _ _
 refine Qf (Qb (Rr (Qy underlying32 rfl sizeOf30 rfl) (Rr (Qm isAgg30 rfl (hp.get 0 rfl)) (Rr (QC underlying30 rfl) (Rr QP (Qc (Qt (QU (α := Nat) [(3, 4), (8, 27)] (fun k => [(8, .int .i64 (k : Int))]) (fun k w' => (k ≤ (wl s.x).length) ∧ Bel False (D) w w' ∧ (J (if k = 0 then 0 else (memW s.x 64).length) w')) (fun k => (wl s.x).length - k) 0 ⟨rfl, trivial⟩ ⟨Nat.zero_le _, Bel.refl _ _, hJ⟩ ?_))))))))
 rintro k fb3 w2 ⟨hk, hXL1, hJ⟩
 replace hX := Bel.out hX hXL1 om2
 replace hs := hs.keep hXL1 (hsD _)
 replace hT := hT.keep hXL1 hTD
 refine Qf (Qb (Rr (QM rfl rfl) (Qc (Qf (Qw rfl (fun hc1 => ?_) (fun hc1 => ?_))))))
 ·replace hc1 := dcT hc1
  have hk0 : k = 0 := by have := Ja s.x; omega
  subst hk0
  refine Qp (Qf (Qt (Qf (Qb (Rr (mvI rfl) (Rr (QW underlying30 sizeOf126 hs rfl rfl omg) (Rr (Zx isAgg126 hs rfl rfl (Ze 0 (by omega)) rfl) (Rr (asI rfl) (Rr (asI rfl) (Qc (Qt (QU (α := Nat) [(4, 4), (13, 26)] (fun j => [(4, u64 (restW s.x j))]) (fun j w' => (j ≤ (memW s.x 64).length) ∧ Bel False (D) w2 w' ∧ (J j w')) (fun j => (memW s.x 64).length - j) 0 ⟨(congrArg u64 (Jj s.x)), trivial⟩ ⟨Nat.zero_le _, Bel.refl _ _, hJ⟩ ?_))))))))))))
  rintro j fb7 w6 ⟨hj, hXL5, hJ⟩
  replace hX := Bel.out hX hXL5 om2
  replace hXL1 := Bel.out hXL1 hXL5 om2
  replace hT := hT.keep hXL5 hTD
  refine Qf (Qf (Qb (Rr (mvI rfl) (Rr (o_neU (b := BitVec.ofNat 64 0) rfl rfl) (Qc (Qw rfl (fun hc2 => ?_) (fun hc2 => ?_)))))))
  ·have hy := rest_yes hj (by simpa using hc2)
   refine Qp (Qf (Qt (Qf (Qb (Rr (QG (v := .func _ _ _) rfl) (Rr (mvI rfl) (Rr (o_mul rfl rfl omg) (Rr (mvI rfl) (Qo rfl (QD call209 rfl) (Ok.mono (tz_ok _ _ hT) ?_))))))))))
   rintro _ w9 ⟨rfl, x10⟩
   replace hXL5 := Bel.ex hXL5 x10
   replace hJ := hJs _ _ _ hJ x10
   refine Rr (QO rfl rfl (by have := ctz_lt (show restW s.x j ≠ 0 by simpa using hc2); unfold I64; omega)) ?_
   refine Rg_yield rfl rfl rfl (hY _ _ _ (by simpa using hy.2) hJ) ?_
   rintro w12 ⟨hJ, x13⟩
   replace hXL5 := Bel.out hXL5 x13 om2
   refine Rr (Zp rfl) (Qc (Qq rfl (Qp (Qb (Rr (mvI rfl) (Rr (mvI rfl) (Rr (o_subU (b := BitVec.ofNat 64 1) rfl rfl) (Rr (o_band rfl rfl) (Rr (asI rfl) (Qc ⟨j + 1, ⟨sT, trivial⟩, oT, ⟨?_, hXL5, ?_⟩, ?_⟩))))))))))
   ·have := hy.1; omega
   ·exact hJ
   ·have := hy.1; omega
  have hj2 := rest_no hj (by simpa using hc2)
  refine QN (QI (Qb (Rr (QO rfl rfl omg) (Rr (mvI rfl) (Qc ⟨1, ⟨sT, trivial⟩, oT, ⟨?_, hXL1, ?_⟩, ?_⟩)))))
  ·show 1 ≤ _; omega
  ·rw [if_neg (by omega)]; rw [hj2] at hJ; exact hJ
  ·omega
 replace hc1 := dcF hc1
 refine QN (QI ⟨_, YZ rfl, ?_⟩)
 have e1 : (if k = 0 then 0 else (memW s.x 64).length) = (memW s.x 64).length := by
  split
  ·have hz : s.x = 0 := by
    rcases Z2 s.x with h | h
    ·exact h.1
    ·rw [h.2] at hc1; simp at hc1; omega
   rw [hz, mem_zero]; rfl
  ·rfl
 rw [e1] at hJ; exact hJ
theorem ball_iter (D : Nat → Prop) (b : Nat) (s : SV) (G : Nat → Prop) (w : World) (hp : At w b 0 (encSV s)) (hs : Sl encU 1 G w s.a s.c (wl s.x)) (hT : Tb w) (hpD : ¬ D b) (hTD : ¬ D 0) (hsD : ∀ g, g < w.heap.size → G g → ¬ D g) :
  Iter Tryz.prog 208 #[.pointer (some ⟨b, 0, none⟩)] D w (memW s.x 64) (fun i => .int .i64 i) := fun l J u x hJs hY hJ =>
 ball1_ok D l J b s (fun g => G g ∧ g < w.heap.size) u (hp.ext x) ((hs.mono (fun g h1 h2 => ⟨h2, h1⟩)).ext x) (hT.ext x) hpD hTD (fun g _ h => hsD g h.2 h.1) hJs hY hJ
