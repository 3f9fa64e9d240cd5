/- Walks: what functions return. -/
import Derived.Test.YtdnkjdmfnmdpdaaGreatDoorWref50
import Derived.Test.YtdnkjdmfnmdpdaaGreatDoorWpr
set_option linter.unusedVariables false
set_option linter.unusedSimpArgs false
set_option linter.unnecessarySimpa false
namespace Go.Proofs.YtdnkjdmfnmdpdaaGreatDoor
open Go Go.Lx Go.RowKit Tryz
set_option maxRecDepth 100000
theorem things_walk (v0 : Value) (G0 : Nat → Prop) (w : World) (U R : Value) (ad : W64) (X Y Z : Value) (aL : Option Addr) (cL : Nat) (L : List Pr) (aM : Option Addr) (cM : Nat) (M : List E12) (aG : Option Addr) (cG : Nat) (G : List Ent) (hL : Sl encPr 2 G0 w aL cL L) (hM : Sl encA12 3 G0 w aM cM M) (hG : Sl encE 4 G0 w aG cG G) (hl1 : L.length ≤ 10000) (hl2 : M.length ≤ 10000) (hl3 : G.length ≤ 1000) : Ok Tryz.prog 37 #[.agg (stC 10 U R ad (.slice aL L.length cL) (.slice aM M.length cM) (.slice aG G.length cG) X Y Z).toArray] w fun v w' => Own encRo 8 44 (Fsh w w') w' v (thingsO M G L) ∧ Ext False w w' := by
 replace hL := hL.mono (F' := fun g => g < w.heap.size) (fun g h1 h2 => h1)
 replace hM := hM.mono (F' := fun g => g < w.heap.size) (fun g h1 h2 => h1)
 replace hG := hG.mono (F' := fun g => g < w.heap.size) (fun g h1 h2 => h1)
 refine ZQ 61 func37 rfl rfl rfl ?_
 have hX := xRf w
 refine QH (Qc ?_)
 refine Z2 rfl (JB (v := .agg _) rfl) ?_
 intro b1 w1 x2 hge1 hb1
 have hlt1 := hb1.lt
 change Box _ _ _ (stC _ _ _ _ _ _ _ _ _ _) at hb1
 have z3 := x2.size
 replace hX := hX.ex x2
 replace hL := hL.ext x2
 replace hM := hM.ext x2
 replace hG := hG.ext x2
 refine Rr Zi ?_
 refine Qg (QH (Qc ?_))
 refine Rr Zi ?_
 refine Qg (QH (QH (Qc ?_)))
 refine Rr (ZN underlying38 rfl sizeOf32 rfl) ?_
 refine Rr (ZB isAgg32 rfl (hb1.at.get 5 rfl)) ?_
 refine Rr (Z0 underlying32 rfl) ?_
 refine Rr Jj ?_
 refine Qg (ZM ?_)
 obtain ⟨n0, hn0⟩ : ∃ n, n = w1.heap.size := ⟨_, rfl⟩
 refine Jk (α := Nat × Value) [(3, 3), (5, 5), (13, 27)] (fun q => [(13, .int .i64 (q.1 : Int)), (3, q.2)]) (fun q w' => (q.1 ≤ M.length) ∧ Bel False (fun g => n0 ≤ g) w1 w' ∧ (Own encRo 8 44 (fun g => n0 ≤ g) w' q.2 ((M.take q.1).map addA))) (fun q => M.length - q.1) (0, .slice none 0 0) ⟨rfl, rfl, trivial⟩ ⟨Nat.zero_le _, Bel.refl _ _, Own.nil _ _⟩ ?_
 rintro ⟨k, t⟩ fb6 w5 ⟨hk, hXL4, hown⟩
 dsimp only at *
 have z7 := Bel.size hXL4
 replace hX := Bel.out hX hXL4 om2
 replace hL := hL.keep hXL4 om3
 replace hM := hM.keep hXL4 om3
 replace hG := hG.keep hXL4 om3
 replace hb1 := hb1.keep hXL4 om1
 refine QH (Qc ?_)
 refine Rr (Z5 rfl rfl) ?_
 refine Qg (QH ?_)
 refine ZG rfl (fun hc1 => ?_) (fun hc1 => ?_)
 ·replace hc1 := dcT hc1
  refine ZH (QH (ZM (QH (Qc ?_))))
  refine Rr (Js underlying32 sizeOf110 hM rfl rfl omg) ?_
  refine Rr (Jx isAgg110 sizeOf110 hM rfl (Jw az (by omega))) ?_
  refine Z8 rfl rfl zeroValue110 rfl sizeOf110 (fun _ => rfl) rfl rfl ?_
  intro b5 w8 x9 hge5 hb5
  have hlt5 := hb5.lt
  change Box _ _ _ (encA12 _) at hb5
  have z10 := x9.size
  replace hX := hX.ex x9
  replace hXL4 := Bel.ex hXL4 x9
  replace hown := hown.ext x9
  refine Qg (Qc ?_)
  refine Rr (Zt (v := t) rfl) ?_
  refine Rr (ZN underlying110 rfl sizeOf3 rfl) ?_
  refine Rr (ZB isAgg3 rfl (hb5.at.get 0 rfl)) ?_
  refine Rr (ZN underlying110 rfl sizeOf3 rfl) ?_
  refine Rr (ZB isAgg3 rfl (hb5.at.get 1 rfl)) ?_
  refine Rr (ZN underlying110 rfl sizeOf3 rfl) ?_
  refine Rr (ZB isAgg3 rfl (hb5.at.get 2 rfl)) ?_
  refine Rr (Z7 (cells := encRo (addA (M.getD k az))) (vs := [(0, .bool _), (1, .int _ _), (2, .int _ _), (3, .int _ _), (4, .int _ _)]) rfl (by kernel_rfl)) ?_
  refine Jh (vs := [.agg _]) ([addA (M.getD k az)]) rfl ZV JW rfl rfl ⟨rfl, trivial⟩ rfl rfl rfl rfl ?_
  intro a25 w11 x12 hown25
  have z13 := x12.size
  replace hX := hX.ex x12
  replace hXL4 := Bel.ex hXL4 x12
  replace hown := hown.ext x12
  replace hown25 := hown25.mono (D' := fun g => n0 ≤ g) (fun g h1 h2 => by omega)
  refine Jd rfl ZV JW rfl rfl hown (hown25.slA ZV) rfl (by simp; omega) omU ?_
  intro v26 w14 x15 hown
  have z16 := x15.size
  replace hX := Bel.out hX x15 om2
  replace hXL4 := Bel.out hXL4 x15 om2
  refine Rr (ZD (v := v26) rfl) ?_
  refine Qg (Qc ?_)
  refine Rr (Z1 rfl rfl omg) ?_
  refine Rr (mvI rfl) ?_
  refine Qg ?_
  refine ⟨(k + 1, v26), ⟨sT, sT, trivial⟩, oT, ⟨?_, hXL4, ?_⟩, ?_⟩
  ·show k + 1 ≤ M.length; omega
  ·show Own _ _ _ _ _ _ ((M.take (k + 1)).map addA)
   rw [mapT (z := az) (by omega)]; exact hown.mono (fun g h1 h2 => by omega)
  ·show M.length - (k + 1) < M.length - k; omega
 replace hc1 := dcF hc1
 refine Z4 (ZX (QH (QH (Qc ?_))))
 rw [List.take_of_length_le (by omega)] at hown
 refine Rr (ZN underlying38 rfl sizeOf33 rfl) ?_
 refine Rr (ZB isAgg33 rfl (hb1.at.get 6 rfl)) ?_
 refine Rr (Z0 underlying33 rfl) ?_
 refine Rr Jj ?_
 refine Qg (ZM ?_)
 refine Jk (α := Nat × Value) [(3, 3), (7, 7), (31, 43)] (fun q => [(31, .int .i64 (q.1 : Int)), (3, q.2)]) (fun q w' => (q.1 ≤ G.length) ∧ Bel False (fun g => n0 ≤ g) w5 w' ∧ (Own encRo 8 44 (fun g => n0 ≤ g) w' q.2 (M.map addA ++ (G.take q.1).map addG))) (fun q => G.length - q.1) (0, t) ⟨rfl, rfl, trivial⟩ ⟨Nat.zero_le _, Bel.refl _ _, (by simpa using hown)⟩ ?_
 rintro ⟨k, t⟩ fb19 w18 ⟨hk, hXL17, hown⟩
 dsimp only at *
 have z20 := Bel.size hXL17
 replace hX := Bel.out hX hXL17 om2
 replace hL := hL.keep hXL17 om3
 replace hG := hG.keep hXL17 om3
 replace hb1 := hb1.keep hXL17 om1
 refine QH (Qc ?_)
 refine Rr (Z5 rfl rfl) ?_
 refine Qg (QH ?_)
 refine ZG rfl (fun hc2 => ?_) (fun hc2 => ?_)
 ·replace hc2 := dcT hc2
  refine ZH (QH (ZM (QH (Qc ?_))))
  refine Rr (Js underlying33 sizeOf114 hG rfl rfl omg) ?_
  refine Rr (Jx isAgg114 sizeOf114 hG rfl (Jw ez (by omega))) ?_
  refine Z8 rfl rfl zeroValue114 rfl sizeOf114 (fun _ => rfl) rfl rfl ?_
  intro b7 w21 x22 hge7 hb7
  have hlt7 := hb7.lt
  change Box _ _ _ (encE _) at hb7
  have z23 := x22.size
  replace hX := hX.ex x22
  replace hXL17 := Bel.ex hXL17 x22
  replace hown := hown.ext x22
  refine Qg (Qc ?_)
  refine Rr (Zt (v := t) rfl) ?_
  refine Rr (ZN underlying114 rfl sizeOf3 rfl) ?_
  refine Rr (ZB isAgg3 rfl (hb7.at.get 0 rfl)) ?_
  refine Rr (ZN underlying114 rfl sizeOf42 rfl) ?_
  refine Rr (ZO isAgg42 sizeOf42 rfl (hb7.at.sub 1 3) rfl) ?_
  refine Rr (Z7 (cells := encRo (addG (G.getD k ez))) (vs := [(0, .bool _), (1, .int _ _), (2, .int _ _), (5, .agg _)]) rfl (by kernel_rfl)) ?_
  refine Jh (vs := [.agg _]) ([addG (G.getD k ez)]) rfl ZV JW rfl rfl ⟨rfl, trivial⟩ rfl rfl rfl rfl ?_
  intro a41 w24 x25 hown41
  have z26 := x25.size
  replace hX := hX.ex x25
  replace hXL17 := Bel.ex hXL17 x25
  replace hown := hown.ext x25
  replace hown41 := hown41.mono (D' := fun g => n0 ≤ g) (fun g h1 h2 => by omega)
  refine Jd rfl ZV JW rfl rfl hown (hown41.slA ZV) rfl (by simp; omega) omU ?_
  intro v42 w27 x28 hown
  have z29 := x28.size
  replace hX := Bel.out hX x28 om2
  replace hXL17 := Bel.out hXL17 x28 om2
  refine Rr (ZD (v := v42) rfl) ?_
  refine Qg (Qc ?_)
  refine Rr (Z1 rfl rfl omg) ?_
  refine Rr (mvI rfl) ?_
  refine Qg ?_
  refine ⟨(k + 1, v42), ⟨sT, sT, trivial⟩, oT, ⟨?_, hXL17, ?_⟩, ?_⟩
  ·show k + 1 ≤ G.length; omega
  ·show Own _ _ _ _ _ _ (M.map addA ++ (G.take (k + 1)).map addG)
   rw [mapT (z := ez) (by omega), ← List.append_assoc]; exact hown.mono (fun g h1 h2 => by omega)
  ·show G.length - (k + 1) < G.length - k; omega
 replace hc2 := dcF hc2
 refine Z4 (ZX (QH (QH (Qc ?_))))
 rw [List.take_of_length_le (by omega)] at hown
 refine Rr (ZN underlying38 rfl sizeOf31 rfl) ?_
 refine Rr (ZB isAgg31 rfl (hb1.at.get 4 rfl)) ?_
 refine Rr (Z0 underlying31 rfl) ?_
 refine Rr Jj ?_
 refine Qg (ZM ?_)
 refine Jk (α := Nat × Value) [(3, 3), (9, 9), (47, 59)] (fun q => [(47, .int .i64 (q.1 : Int)), (3, q.2)]) (fun q w' => (q.1 ≤ L.length) ∧ Bel False (fun g => n0 ≤ g) w18 w' ∧ (Own encRo 8 44 (fun g => n0 ≤ g) w' q.2 (M.map addA ++ G.map addG ++ (L.take q.1).map addL))) (fun q => L.length - q.1) (0, t) ⟨rfl, rfl, trivial⟩ ⟨Nat.zero_le _, Bel.refl _ _, (by simpa using hown)⟩ ?_
 rintro ⟨k, t⟩ fb32 w31 ⟨hk, hXL30, hown⟩
 dsimp only at *
 have z33 := Bel.size hXL30
 replace hX := Bel.out hX hXL30 om2
 replace hL := hL.keep hXL30 om3
 refine QH (Qc ?_)
 refine Rr (Z5 rfl rfl) ?_
 refine Qg (QH ?_)
 refine ZG rfl (fun hc3 => ?_) (fun hc3 => ?_)
 ·replace hc3 := dcT hc3
  refine ZH (QH (ZM (QH (Qc ?_))))
  refine Rr (Js underlying31 sizeOf103 hL rfl rfl omg) ?_
  refine Rr (Jx isAgg103 sizeOf103 hL rfl (Jw pz0 (by omega))) ?_
  refine Z8 rfl rfl zeroValue103 rfl sizeOf103 (fun _ => rfl) rfl rfl ?_
  intro b9 w34 x35 hge9 hb9
  have hlt9 := hb9.lt
  change Box _ _ _ (encPr _) at hb9
  have z36 := x35.size
  replace hX := hX.ex x35
  replace hXL30 := Bel.ex hXL30 x35
  replace hown := hown.ext x35
  refine Qg (Qc ?_)
  refine Rr (Zt (v := t) rfl) ?_
  refine Rr (o_iaA (i := 0) underlying103 sizeOf3 rfl rfl (by decide)) ?_
  refine Rr (ZB isAgg3 rfl (hb9.at.get 0 rfl)) ?_
  refine Rr (o_iaA (i := 1) underlying103 sizeOf3 rfl rfl (by decide)) ?_
  refine Rr (ZB isAgg3 rfl (hb9.at.get 1 rfl)) ?_
  refine Rr (Z7 (cells := encRo (addL (L.getD k pz0))) (vs := [(0, .bool _), (1, .int _ _), (2, .int _ _), (3, .int _ _)]) rfl (by kernel_rfl)) ?_
  refine Jh (vs := [.agg _]) ([addL (L.getD k pz0)]) rfl ZV JW rfl rfl ⟨rfl, trivial⟩ rfl rfl rfl rfl ?_
  intro a57 w37 x38 hown57
  have z39 := x38.size
  replace hX := hX.ex x38
  replace hXL30 := Bel.ex hXL30 x38
  replace hown := hown.ext x38
  replace hown57 := hown57.mono (D' := fun g => n0 ≤ g) (fun g h1 h2 => by omega)
  refine Jd rfl ZV JW rfl rfl hown (hown57.slA ZV) rfl (by simp; omega) omU ?_
  intro v58 w40 x41 hown
  have z42 := x41.size
  replace hX := Bel.out hX x41 om2
  replace hXL30 := Bel.out hXL30 x41 om2
  refine Rr (ZD (v := v58) rfl) ?_
  refine Qg (Qc ?_)
  refine Rr (Z1 rfl rfl omg) ?_
  refine Rr (mvI rfl) ?_
  refine Qg ?_
  refine ⟨(k + 1, v58), ⟨sT, sT, trivial⟩, oT, ⟨?_, hXL30, ?_⟩, ?_⟩
  ·show k + 1 ≤ L.length; omega
  ·show Own _ _ _ _ _ _ (M.map addA ++ G.map addG ++ (L.take (k + 1)).map addL)
   rw [mapT (z := pz0) (by omega), ← List.append_assoc]; exact hown.mono (fun g h1 h2 => by omega)
  ·show L.length - (k + 1) < L.length - k; omega
 replace hc3 := dcF hc3
 refine Z4 (ZX (QH (Qc ?_)))
 rw [List.take_of_length_le (by omega)] at hown
 refine Rr (Zt (v := t) rfl) ?_
 refine Rr (ZD (v := t) rfl) ?_
 refine Qg (ZJ ?_)
 refine ⟨_, ZF rfl rfl, ?_⟩
 exact ⟨hown.mono (fun g h1 h2 => by omega), hX⟩

