/- Walks: what functions return. -/
import Derived.Test.YtdnkjdmfnmdpdaaGreatDoorWmk24
import Derived.Test.YtdnkjdmfnmdpdaaGreatDoorSu
set_option linter.unusedVariables false
set_option linter.unusedSimpArgs false
set_option linter.unnecessarySimpa false
namespace Go.Proofs.YtdnkjdmfnmdpdaaGreatDoor
open Go Go.Lx Go.RowKit Tryz
set_option maxRecDepth 100000
theorem number_step (b : Nat) (F : Nat → Prop) (N : Nat) (w : World) (hs : Byt F w b 174 N) (hF : ∀ g, F g → g < b) (d : Nat) (kd : Int) (hd : 1 ≤ d) (hd2 : d ≤ 20) (hN : N + 4 ^ d ≤ 100000) (ih : 1 < d → ∀ (w' : World) (N' : Nat), Byt F w' b 174 N' → N' + 4 ^ (d - 1) ≤ 100000 → Ok Tryz.prog 163 #[.pointer (some ⟨b, 0, none⟩), .int .i64 ((d - 1 : Nat) : Int), .int .i64 kd, .int .i64 4] w' fun v w2 => (∃ f : F18, v = .agg (encF18 f).toArray) ∧ Byt F w2 b 174 (N' + 4 ^ (d - 1)) ∧ Bel False (fun g => g = b) w' w2) : Ok Tryz.prog 163 #[.pointer (some ⟨b, 0, none⟩), .int .i64 (d : Int), .int .i64 kd, .int .i64 4] w fun v w' => (∃ f : F18, v = .agg (encF18 f).toArray) ∧ Byt F w' b 174 (N + 4 ^ d) ∧ Bel False (fun g => g = b) w w' := by
 have hbl := hs.lt
 have hp4 := four hd
 obtain ⟨q4, hq4⟩ : ∃ q, q = 4 ^ (d - 1) := ⟨_, rfl⟩
 rw [← hq4] at hp4
 rw [hp4.1] at hN
 rw [← hq4] at ih
 refine ZQ 88 func163 rfl rfl rfl ?_
 have hX : Bel False ((fun g => g = b)) w w := Bel.refl _ _
 refine QH (Qc ?_)
 refine Z2 rfl (JK zeroValue121) ?_
 intro b8 w1 x2 hge8 hb8
 have hlt8 := hb8.lt
 change Box _ _ _ ([.int _ _, .int _ _, .slice _ _ _, .slice _ _ _]) at hb8
 have z3 := x2.size
 replace hX := hX.ex x2
 replace hs := hs.ext x2
 refine Qg (QH (Qc ?_))
 refine Rr (Zt (v := .pointer _) rfl) ?_
 refine ZC rfl (ZK call129 rfl) (Ok.mono (next18_ok b F _ _ hs hF (by omega)) ?_)
 rintro _ w4 ⟨⟨y16, rfl⟩, hs, x5⟩
 have z6 := x5.size
 replace hX := Bel.out hX x5 (fun g h1 h2 => by first | exact h2 | omega)
 replace hb8 := hb8.keep x5 om1
 have hy16 := y16.toNat_lt
 refine Rr (asI rfl) ?_
 refine Qg (QH (QH (Qc ?_)))
 refine Rr (mvI rfl) ?_
 refine Rr (JY rfl rfl) ?_
 refine Rr (mvB rfl) ?_
 refine ZI 2 19 rfl rfl rfl (fun hg => (mvI rfl)) ?_
 refine ZI 2 19 rfl rfl rfl (fun hg => (Jp (a := y16.toNat) (b := 3) (ZU (u := undef) hg) rfl (by decide) (by omega))) ?_
 refine ZI 2 19 rfl rfl rfl (fun hg => (ZZ (ZU (u := undef) hg) rfl)) ?_
 refine Rr (Jq (u := undef) rfl rfl) ?_
 refine Qg ?_
 refine ZG rfl (fun hc1 => ?_) (fun hc1 => ?_)
 ·have h1d : 1 < d := by
   rw [Bool.and_eq_true] at hc1
   have := dcT hc1.1; omega
  refine QH (Qc ?_)
  refine Rr (Zt (v := .pointer _) rfl) ?_
  refine Rr (mvI rfl) ?_
  refine Rr (o_subN (p := d) (b := 1) rfl rfl (by omega) (by omega)) ?_
  refine Rr (mvI rfl) ?_
  refine Rr (mvI rfl) ?_
  refine ZC rfl (o_call4 call163 rfl rfl rfl rfl) (Ok.mono (ih h1d _ _ hs (by omega)) ?_)
  rintro _ w7 ⟨⟨f29, rfl⟩, hs, x8⟩
  have z9 := x8.size
  replace hX := Bel.out hX x8 (fun g h1 h2 => by first | exact h2 | omega)
  replace hb8 := hb8.keep x8 om1
  refine Z8 rfl rfl zeroValue121 rfl sizeOf121 (fun _ => rfl) rfl rfl ?_
  intro b10 w10 x11 hge10 hb10
  have hlt10 := hb10.lt
  change Box _ _ _ (encF18 _) at hb10
  have z12 := x11.size
  replace hX := hX.ex x11
  replace hs := hs.ext x11
  replace hb8 := hb8.ext x11
  refine Qg (QH (Qc ?_))
  refine Rr (Zt (v := .pointer _) rfl) ?_
  refine Rr (mvI rfl) ?_
  refine Rr (o_subN (p := d) (b := 1) rfl rfl (by omega) (by omega)) ?_
  refine Rr (mvI rfl) ?_
  refine Rr (mvI rfl) ?_
  refine ZC rfl (o_call4 call163 rfl rfl rfl rfl) (Ok.mono (ih h1d _ _ hs (by omega)) ?_)
  rintro _ w13 ⟨⟨f35, rfl⟩, hs, x14⟩
  have z15 := x14.size
  replace hX := Bel.out hX x14 (fun g h1 h2 => by first | exact h2 | omega)
  replace hb8 := hb8.keep x14 om1
  replace hb10 := hb10.keep x14 om1
  refine Z8 rfl rfl zeroValue121 rfl sizeOf121 (fun _ => rfl) rfl rfl ?_
  intro b11 w16 x17 hge11 hb11
  have hlt11 := hb11.lt
  change Box _ _ _ (encF18 _) at hb11
  have z18 := x17.size
  replace hX := hX.ex x17
  replace hs := hs.ext x17
  replace hb8 := hb8.ext x17
  replace hb10 := hb10.ext x17
  refine Qg (QH (Qc ?_))
  refine Rr (ZO isAgg121 sizeOf121 rfl hb10.at rfl) ?_
  refine Rr (ZO isAgg121 sizeOf121 rfl hb11.at rfl) ?_
  refine Jh (vs := [.agg _, .agg _]) ([f29, f35]) rfl encF18_ok el_f18 rfl rfl ⟨rfl, ⟨rfl, trivial⟩⟩ rfl rfl rfl rfl ?_
  intro a38 w19 x20 hown38
  have z21 := x20.size
  replace hX := hX.ex x20
  replace hs := hs.ext x20
  replace hb8 := hb8.ext x20
  refine Rr (Z7 (cells := encF18 ⟨16, 0, none, 0, 0, a38, 2, 2⟩) (vs := [(0, .int _ _), (3, .slice _ _ _)]) rfl (by kernel_rfl)) ?_
  refine Ja (v := .agg _) rfl sizeOf121 rfl rfl hb8 rfl rfl rfl ?_
  intro w22 c23 hb8
  change Box _ _ _ (encF18 _) at hb8
  have z24 := Bel.size c23
  replace hX := Bel.out hX c23 (fun g h1 h2 => by first | exact h2 | omega)
  replace hs := hs.keep c23 (fun h => by omega) (fun g h1 h2 h3 => by have := hF g h2; omega)
  refine Qg (ZJ ?_)
  refine ⟨_, res_1 (v := .agg _) rfl (Ju isAgg121 sizeOf121 rfl hb8.at rfl), ?_⟩
  exact ⟨⟨_, rfl⟩, hs.up (by rw [hp4.1]; omega), hX⟩
 skip
 refine ZH (QH (QH (Qc ?_)))
 refine Rr (mvI rfl) ?_
 refine Rr (Jp (a := y16.toNat) (b := 3) rfl rfl (by decide) (by omega)) ?_
 refine Rr (ZZ rfl rfl) ?_
 refine Qg ?_
 refine ZG rfl (fun hc2 => ?_) (fun hc2 => ?_)
 ·refine QH (Qc ?_)
  refine Rr (mvI rfl) ?_
  refine Rr (o_quoN (a := y16.toNat) (b := 3) rfl rfl (by decide) (by omega)) ?_
  refine Rr (Jp (a := y16.toNat / 3) (b := 4) rfl rfl (by decide) (by omega)) ?_
  refine Rr (Z7 (cells := encF18 ⟨1, ((y16.toNat / 3 % 4 : Nat) : Int), none, 0, 0, none, 0, 0⟩) (vs := [(0, .int _ _), (1, .int _ _)]) rfl (by kernel_rfl)) ?_
  refine Ja (v := .agg _) rfl sizeOf121 rfl rfl hb8 rfl rfl rfl ?_
  intro w25 c26 hb8
  change Box _ _ _ (encF18 _) at hb8
  have z27 := Bel.size c26
  replace hX := Bel.out hX c26 (fun g h1 h2 => by first | exact h2 | omega)
  replace hs := hs.keep c26 (fun h => by omega) (fun g h1 h2 h3 => by have := hF g h2; omega)
  refine Qg (ZJ ?_)
  refine ⟨_, res_1 (v := .agg _) rfl (Ju isAgg121 sizeOf121 rfl hb8.at rfl), ?_⟩
  exact ⟨⟨_, rfl⟩, hs.up (by rw [hp4.1]; omega), hX⟩
 refine ZH (QH (QH (Qc ?_)))
 refine Rr (mvI rfl) ?_
 refine Rr (ZZ rfl rfl) ?_
 refine Qg ?_
 refine ZG rfl (fun hc3 => ?_) (fun hc3 => ?_)
 ·refine QH (Qc ?_)
  refine Rr (mvI rfl) ?_
  refine Rr (o_quoN (a := y16.toNat) (b := 3) rfl rfl (by decide) (by omega)) ?_
  refine Rr (mvI rfl) ?_
  refine Rr (Jp (a := y16.toNat / 3) (b := 4) rfl rfl (by decide) (by omega)) ?_
  refine Rr (Jr (p := 1) (b := y16.toNat / 3 % 4) rfl rfl (by omega)) ?_
  refine Jh (vs := [.int _ _]) ([((1 + y16.toNat / 3 % 4 : Nat) : Int)]) rfl Ye el_int rfl rfl ⟨rfl, trivial⟩ rfl rfl rfl rfl ?_
  intro a54 w28 x29 hown54
  have z30 := x29.size
  replace hX := hX.ex x29
  replace hs := hs.ext x29
  replace hb8 := hb8.ext x29
  refine Rr (Z7 (cells := encF18 ⟨6, 0, a54, 1, 1, none, 0, 0⟩) (vs := [(0, .int _ _), (2, .slice _ _ _)]) rfl (by kernel_rfl)) ?_
  refine Ja (v := .agg _) rfl sizeOf121 rfl rfl hb8 rfl rfl rfl ?_
  intro w31 c32 hb8
  change Box _ _ _ (encF18 _) at hb8
  have z33 := Bel.size c32
  replace hX := Bel.out hX c32 (fun g h1 h2 => by first | exact h2 | omega)
  replace hs := hs.keep c32 (fun h => by omega) (fun g h1 h2 h3 => by have := hF g h2; omega)
  refine Qg (ZJ ?_)
  refine ⟨_, res_1 (v := .agg _) rfl (Ju isAgg121 sizeOf121 rfl hb8.at rfl), ?_⟩
  exact ⟨⟨_, rfl⟩, hs.up (by rw [hp4.1]; omega), hX⟩
 refine ZH (QH (Qc ?_))
 refine Rr (Z7 (cells := encF18 ⟨5, 0, none, 0, 0, none, 0, 0⟩) (vs := [(0, .int _ _)]) rfl (by kernel_rfl)) ?_
 refine Z8 rfl rfl zeroValue121 rfl sizeOf121 (fun _ => rfl) rfl rfl ?_
 intro b12 w34 x35 hge12 hb12
 have hlt12 := hb12.lt
 change Box _ _ _ (encF18 _) at hb12
 have z36 := x35.size
 replace hX := hX.ex x35
 replace hs := hs.ext x35
 replace hb8 := hb8.ext x35
 refine Qg (QH (Qc ?_))
 refine Rr (Zt (v := .pointer _) rfl) ?_
 refine ZC rfl (ZK call129 rfl) (Ok.mono (next18_ok b F _ _ hs hF (by omega)) ?_)
 rintro _ w37 ⟨⟨y58, rfl⟩, hs, x38⟩
 have z39 := x38.size
 replace hX := Bel.out hX x38 (fun g h1 h2 => by first | exact h2 | omega)
 replace hb8 := hb8.keep x38 om1
 replace hb12 := hb12.keep x38 om1
 have hy58 := y58.toNat_lt
 refine Rr (asI rfl) ?_
 refine Qg (QH (QH (Qc ?_)))
 refine Rr Zi ?_
 refine Qg (ZM ?_)
 obtain ⟨n0, hn0⟩ : ∃ n, n = w37.heap.size := ⟨_, rfl⟩
 have hlt12 := hb12.lt
 refine Jk (α := Nat × List Int × Option Addr × Nat) [(14, 14), (59, 75)] (fun q => [(14, .int .i64 (q.1 : Int))]) (fun q w' => (1 ≤ q.1 ∧ q.1 ≤ 5 ∧ q.2.1.length ≤ q.1) ∧ Bel False (fun g => g = b12 ∨ n0 ≤ g) w37 w' ∧ (Box w' b12 121 [.int .i64 5, .int .i64 0, .slice q.2.2.1 q.2.1.length q.2.2.2, .slice none 0 0] ∧ Own encJ 1 3 (fun g => n0 ≤ g) w' (.slice q.2.2.1 q.2.1.length q.2.2.2) q.2.1)) (fun q => 5 - q.1) (1, [], none, 0) ⟨rfl, trivial⟩ ⟨⟨Nat.le_refl _, by decide, by decide⟩, Bel.refl _ _, ⟨hb12, Own.nil _ _⟩⟩ ?_
 rintro ⟨r, l, al, cl⟩ fb42 w41 ⟨⟨hr1, hr, hl⟩, hXL40, ⟨hb12, hown⟩⟩
 dsimp only at *
 have z43 := Bel.size hXL40
 replace hX := Bel.out hX hXL40 (fun g h1 h2 => by first | exact h2 | omega)
 replace hs := hs.keep hXL40 (fun h => by omega) (fun g h1 h2 h3 => by have := hF g h2; omega)
 replace hb8 := hb8.keep hXL40 om1
 refine QH (QH (Qc ?_))
 refine Rr (mvI rfl) ?_
 refine Rr (mvI rfl) ?_
 refine Rr (o_leq rfl rfl) ?_
 refine Qg ?_
 refine ZG rfl (fun hc4 => ?_) (fun hc4 => ?_)
 ·have hr4 : r ≤ 4 := by have := dcT hc4; omega
  refine ZH (QH (ZM (QH (Qc ?_))))
  refine Rr (mvI rfl) ?_
  refine Rr (mvI rfl) ?_
  refine Rr (o_subN (p := r) (b := 1) rfl rfl (by omega) (by omega)) ?_
  refine Rr (o_shrN (a := y58.toNat) (n := r - 1) rfl rfl (by omega)) ?_
  refine Rr (Jp (a := y58.toNat >>> (r - 1)) (b := 2) rfl rfl (by decide) (by have := shr_le y58.toNat (r - 1); omega)) ?_
  refine Rr (ZZ rfl rfl) ?_
  refine Qg ?_
  refine ZG rfl (fun hc5 => ?_) (fun hc5 => ?_)
  ·refine Qc ?_
   refine Rr (ZN underlying121 rfl sizeOf117 rfl) ?_
   refine Rr (ZB isAgg117 rfl (hb12.at.get 2 rfl)) ?_
   refine Rr (mvI rfl) ?_
   refine Jh (vs := [.int _ _]) ([(r : Int)]) rfl Ye el_int rfl rfl ⟨rfl, trivial⟩ rfl rfl rfl rfl ?_
   intro a73 w44 x45 hown73
   have z46 := x45.size
   replace hX := hX.ex x45
   replace hXL40 := Bel.ex hXL40 x45
   replace hb12 := hb12.ext x45
   replace hown := hown.ext x45
   replace hown73 := hown73.mono (D' := fun g => n0 ≤ g) (fun g h1 h2 => by omega)
   refine Jd rfl Ye el_int rfl rfl hown (hown73.slA Ye) rfl (by simp; omega) (fun g h => by omega) ?_
   intro v74 w47 x48 hown
   have z49 := x48.size
   replace hX := Bel.out hX x48 (fun g h1 h2 => by first | exact h2 | omega)
   replace hXL40 := Bel.out hXL40 x48 (fun g h1 h2 => by first | exact h2 | omega)
   replace hb12 := hb12.keep x48 om1
   obtain ⟨a74, c74, hv74, -⟩ := hown.sl Ye
   subst hv74
   refine Rr (ZN underlying121 rfl sizeOf117 rfl) ?_
   refine Jb (v := .slice _ _ _) rfl sizeOf117 rfl rfl hb12 rfl rfl rfl ?_
   intro w50 c51 hb12
   change Box _ _ _ ([.int _ _, .int _ _, .slice _ _ _, .slice _ _ _]) at hb12
   have z52 := Bel.size c51
   replace hX := Bel.out hX c51 (fun g h1 h2 => by first | exact h2 | omega)
   replace hXL40 := Bel.out hXL40 c51 (fun g h1 h2 => by first | exact h2 | omega)
   replace hown := hown.keepD c51 om3
   refine Qg (Qc ?_)
   refine Rr (mvI rfl) ?_
   refine Rr (Jr (p := r) (b := 1) rfl rfl (by omega)) ?_
   refine Rr (asI rfl) ?_
   refine Qg ?_
   refine ⟨(r + 1, l ++ [(r : Int)], a74, c74), ⟨sT, trivial⟩, oT, ⟨?_, hXL40, ?_⟩, ?_⟩
   ·exact ⟨by show 1 ≤ r + 1; omega, by show r + 1 ≤ 5; omega, by simp; omega⟩
   ·exact ⟨hb12, hown⟩
   ·show 5 - (r + 1) < 5 - r; omega
  refine ZH (Qc ?_)
  refine Rr (mvI rfl) ?_
  refine Rr (Jr (p := r) (b := 1) rfl rfl (by omega)) ?_
  refine Rr (asI rfl) ?_
  refine Qg ?_
  refine ⟨(r + 1, l, al, cl), ⟨sT, trivial⟩, oT, ⟨?_, hXL40, ?_⟩, ?_⟩
  ·exact ⟨by show 1 ≤ r + 1; omega, by show r + 1 ≤ 5; omega, by show l.length ≤ r + 1; omega⟩
  ·exact ⟨hb12, hown⟩
  ·show 5 - (r + 1) < 5 - r; omega
 skip
 refine Z4 (ZX (QH (QH (Qc ?_))))
 refine Rr (ZN underlying121 rfl sizeOf117 rfl) ?_
 refine Rr (ZB isAgg117 rfl (hb12.at.get 2 rfl)) ?_
 refine Rr (Z0 underlying117 rfl) ?_
 refine Rr (ZZ rfl rfl) ?_
 refine Qg ?_
 refine ZG rfl (fun hc6 => ?_) (fun hc6 => ?_)
 ·refine Qc ?_
  refine Rr (mvI rfl) ?_
  refine Rr (o_quoN (a := y16.toNat) (b := 3) rfl rfl (by decide) (by omega)) ?_
  refine Rr (mvI rfl) ?_
  refine Rr (Jp (a := y16.toNat / 3) (b := 4) rfl rfl (by decide) (by omega)) ?_
  refine Rr (Jr (p := 1) (b := y16.toNat / 3 % 4) rfl rfl (by omega)) ?_
  refine Jh (vs := [.int _ _]) ([((1 + y16.toNat / 3 % 4 : Nat) : Int)]) rfl Ye el_int rfl rfl ⟨rfl, trivial⟩ rfl rfl rfl rfl ?_
  intro a85 w53 x54 hown85
  have z55 := x54.size
  replace hX := hX.ex x54
  replace hs := hs.ext x54
  replace hb8 := hb8.ext x54
  replace hb12 := hb12.ext x54
  refine Rr (ZN underlying121 rfl sizeOf117 rfl) ?_
  refine Jb (v := .slice _ _ _) rfl sizeOf117 rfl rfl hb12 rfl rfl rfl ?_
  intro w56 c57 hb12
  change Box _ _ _ ([.int _ _, .int _ _, .slice _ _ _, .slice _ _ _]) at hb12
  have z58 := Bel.size c57
  replace hX := Bel.out hX c57 (fun g h1 h2 => by first | exact h2 | omega)
  replace hs := hs.keep c57 (fun h => by omega) (fun g h1 h2 h3 => by have := hF g h2; omega)
  replace hb8 := hb8.keep c57 om1
  refine Qg (QH (Qc ?_))
  obtain ⟨f9, hb12⟩ := f18_pack hb12
  refine Rr (ZO isAgg121 sizeOf121 rfl hb12.at rfl) ?_
  refine Ja (v := .agg _) rfl sizeOf121 rfl rfl hb8 rfl rfl rfl ?_
  intro w59 c60 hb8
  change Box _ _ _ (encF18 _) at hb8
  have z61 := Bel.size c60
  replace hX := Bel.out hX c60 (fun g h1 h2 => by first | exact h2 | omega)
  replace hs := hs.keep c60 (fun h => by omega) (fun g h1 h2 h3 => by have := hF g h2; omega)
  refine Qg (ZJ ?_)
  refine ⟨_, res_1 (v := .agg _) rfl (Ju isAgg121 sizeOf121 rfl hb8.at rfl), ?_⟩
  exact ⟨⟨_, rfl⟩, hs.up (by rw [hp4.1]; omega), hX⟩
 refine ZH (QH (Qc ?_))
 obtain ⟨f9, hb12⟩ := f18_pack hb12
 refine Rr (ZO isAgg121 sizeOf121 rfl hb12.at rfl) ?_
 refine Ja (v := .agg _) rfl sizeOf121 rfl rfl hb8 rfl rfl rfl ?_
 intro w62 c63 hb8
 change Box _ _ _ (encF18 _) at hb8
 have z64 := Bel.size c63
 replace hX := Bel.out hX c63 (fun g h1 h2 => by first | exact h2 | omega)
 replace hs := hs.keep c63 (fun h => by omega) (fun g h1 h2 h3 => by have := hF g h2; omega)
 refine Qg (ZJ ?_)
 refine ⟨_, res_1 (v := .agg _) rfl (Ju isAgg121 sizeOf121 rfl hb8.at rfl), ?_⟩
 exact ⟨⟨_, rfl⟩, hs.up (by rw [hp4.1]; omega), hX⟩

theorem number18_ok (b : Nat) (F : Nat → Prop) (hF : ∀ g, F g → g < b) (kd : Int) : ∀ (d : Nat), 1 ≤ d → d ≤ 20 → ∀ (w : World) (N : Nat), Byt F w b 174 N → N + 4 ^ d ≤ 100000 → Ok Tryz.prog 163 #[.pointer (some ⟨b, 0, none⟩), .int .i64 (d : Int), .int .i64 kd, .int .i64 4] w fun v w' => (∃ f : F18, v = .agg (encF18 f).toArray) ∧ Byt F w' b 174 (N + 4 ^ d) ∧ Bel False (fun g => g = b) w w'
 | 0, h, _ => absurd h (by decide)
 | d + 1, h, h2 => fun w N hs hN => number_step b F N w hs hF (d + 1) kd h h2 hN (fun h1 w' N' hs' hN' => number18_ok b F hF kd d (by omega) (by omega) w' N' hs' hN')
theorem compare18_ok (b : Nat) (F : Nat → Prop) (N : Nat) (w : World) (hs : Byt F w b 174 N) (hF : ∀ g, F g → g < b) (m : Nat) (hm : m ≤ 1000) (d : Nat) (kd : Int) (hd0 : 2 ≤ d) (hd2 : d ≤ 20) (hN : N + 2 * 4 ^ (d - 1) ≤ 100000) : Ok Tryz.prog 130 #[.pointer (some ⟨b, 0, none⟩), .int .i64 (m : Int), .int .i64 (d : Int), .int .i64 kd, .int .i64 4] w fun v w' => (∃ f : F18, v = .agg (encF18 f).toArray) ∧ Byt F w' b 174 (N + 2 * 4 ^ (d - 1)) ∧ Bel False (fun g => g = b) w w' := by
 have hbl := hs.lt
 obtain ⟨q4, hq4⟩ : ∃ q, q = 4 ^ (d - 1) := ⟨_, rfl⟩
 rw [← hq4] at hN
 refine ZQ 32 func130 rfl rfl rfl ?_
 have hX : Bel False ((fun g => g = b)) w w := Bel.refl _ _
 refine QH (Qc ?_)
 refine Z2 rfl (JK zeroValue121) ?_
 intro b10 w1 x2 hge10 hb10
 have hlt10 := hb10.lt
 change Box _ _ _ ([.int _ _, .int _ _, .slice _ _ _, .slice _ _ _]) at hb10
 have z3 := x2.size
 replace hX := hX.ex x2
 replace hs := hs.ext x2
 refine Qg (QH (Qc ?_))
 refine Rr (Zt (v := .pointer _) rfl) ?_
 refine Rr (mvI rfl) ?_
 refine Rr (o_subN (p := d) (b := 1) rfl rfl (by omega) (by omega)) ?_
 refine Rr (mvI rfl) ?_
 refine Rr (mvI rfl) ?_
 refine ZC rfl (o_call4 call163 rfl rfl rfl rfl) (Ok.mono (number18_ok b F hF kd (d - 1) (by omega) (by omega) _ _ hs (by rw [← hq4]; omega)) ?_)
 rintro _ w4 ⟨⟨f18, rfl⟩, hs, x5⟩
 have z6 := x5.size
 replace hX := Bel.out hX x5 (fun g h1 h2 => by first | exact h2 | omega)
 replace hb10 := hb10.keep x5 om1
 rw [← hq4] at hs
 refine Z8 rfl rfl zeroValue121 rfl sizeOf121 (fun _ => rfl) rfl rfl ?_
 intro b11 w7 x8 hge11 hb11
 have hlt11 := hb11.lt
 change Box _ _ _ (encF18 _) at hb11
 have z9 := x8.size
 replace hX := hX.ex x8
 replace hs := hs.ext x8
 replace hb10 := hb10.ext x8
 refine Qg (QH (Qc ?_))
 refine Rr (Zt (v := .pointer _) rfl) ?_
 refine Rr (mvI rfl) ?_
 refine Rr (o_subN (p := d) (b := 1) rfl rfl (by omega) (by omega)) ?_
 refine Rr (mvI rfl) ?_
 refine Rr (mvI rfl) ?_
 refine ZC rfl (o_call4 call163 rfl rfl rfl rfl) (Ok.mono (number18_ok b F hF kd (d - 1) (by omega) (by omega) _ _ hs (by rw [← hq4]; omega)) ?_)
 rintro _ w10 ⟨⟨f24, rfl⟩, hs, x11⟩
 have z12 := x11.size
 replace hX := Bel.out hX x11 (fun g h1 h2 => by first | exact h2 | omega)
 replace hb10 := hb10.keep x11 om1
 replace hb11 := hb11.keep x11 om1
 rw [← hq4] at hs
 refine Z8 rfl rfl zeroValue121 rfl sizeOf121 (fun _ => rfl) rfl rfl ?_
 intro b12 w13 x14 hge12 hb12
 have hlt12 := hb12.lt
 change Box _ _ _ (encF18 _) at hb12
 have z15 := x14.size
 replace hX := hX.ex x14
 replace hs := hs.ext x14
 replace hb10 := hb10.ext x14
 replace hb11 := hb11.ext x14
 refine Qg (QH (Qc ?_))
 refine Rr (mvI rfl) ?_
 refine Rr (Jp (a := m) (b := 5) rfl rfl (by decide) (by omega)) ?_
 refine Rr (Jr (p := 11) (b := m % 5) rfl rfl (by omega)) ?_
 refine Rr (ZO isAgg121 sizeOf121 rfl hb11.at rfl) ?_
 refine Rr (ZO isAgg121 sizeOf121 rfl hb12.at rfl) ?_
 refine Jh (vs := [.agg _, .agg _]) ([f18, f24]) rfl encF18_ok el_f18 rfl rfl ⟨rfl, ⟨rfl, trivial⟩⟩ rfl rfl rfl rfl ?_
 intro a30 w16 x17 hown30
 have z18 := x17.size
 replace hX := hX.ex x17
 replace hs := hs.ext x17
 replace hb10 := hb10.ext x17
 refine Rr (Z7 (cells := encF18 ⟨((11 + m % 5 : Nat) : Int), 0, none, 0, 0, a30, 2, 2⟩) (vs := [(0, .int _ _), (3, .slice _ _ _)]) rfl (by kernel_rfl)) ?_
 refine Ja (v := .agg _) rfl sizeOf121 rfl rfl hb10 rfl rfl rfl ?_
 intro w19 c20 hb10
 change Box _ _ _ (encF18 _) at hb10
 have z21 := Bel.size c20
 replace hX := Bel.out hX c20 (fun g h1 h2 => by first | exact h2 | omega)
 replace hs := hs.keep c20 (fun h => by omega) (fun g h1 h2 h3 => by have := hF g h2; omega)
 refine Qg (ZJ ?_)
 refine ⟨_, res_1 (v := .agg _) rfl (Ju isAgg121 sizeOf121 rfl hb10.at rfl), ?_⟩
 exact ⟨⟨_, rfl⟩, hs.up (by rw [← hq4]; omega), hX⟩

theorem truth_step (b : Nat) (F : Nat → Prop) (N : Nat) (w : World) (hs : Byt F w b 174 N) (hF : ∀ g, F g → g < b) (d : Nat) (kd : Int) (hd : 1 ≤ d) (hd2 : d ≤ 20) (hN : N + 4 ^ d ≤ 100000) (ih : 1 < d → ∀ (w' : World) (N' : Nat), Byt F w' b 174 N' → N' + 4 ^ (d - 1) ≤ 100000 → Ok Tryz.prog 101 #[.pointer (some ⟨b, 0, none⟩), .int .i64 ((d - 1 : Nat) : Int), .int .i64 kd, .int .i64 4] w' fun v w2 => (∃ f : F18, v = .agg (encF18 f).toArray) ∧ Byt F w2 b 174 (N' + 4 ^ (d - 1)) ∧ Bel False (fun g => g = b) w' w2) : Ok Tryz.prog 101 #[.pointer (some ⟨b, 0, none⟩), .int .i64 (d : Int), .int .i64 kd, .int .i64 4] w fun v w' => (∃ f : F18, v = .agg (encF18 f).toArray) ∧ Byt F w' b 174 (N + 4 ^ d) ∧ Bel False (fun g => g = b) w w' := by
 have hbl := hs.lt
 have hp4 := four hd
 obtain ⟨q4, hq4⟩ : ∃ q, q = 4 ^ (d - 1) := ⟨_, rfl⟩
 rw [← hq4] at hp4
 rw [hp4.1] at hN
 rw [← hq4] at ih
 refine ZQ 91 func101 rfl rfl rfl ?_
 have hX : Bel False ((fun g => g = b)) w w := Bel.refl _ _
 refine QH (Qc ?_)
 refine Z2 rfl (JK zeroValue121) ?_
 intro b8 w1 x2 hge8 hb8
 have hlt8 := hb8.lt
 change Box _ _ _ ([.int _ _, .int _ _, .slice _ _ _, .slice _ _ _]) at hb8
 have z3 := x2.size
 replace hX := hX.ex x2
 replace hs := hs.ext x2
 refine Qg (QH (Qc ?_))
 refine Rr (Zt (v := .pointer _) rfl) ?_
 refine ZC rfl (ZK call129 rfl) (Ok.mono (next18_ok b F _ _ hs hF (by omega)) ?_)
 rintro _ w4 ⟨⟨y13, rfl⟩, hs, x5⟩
 have z6 := x5.size
 replace hX := Bel.out hX x5 (fun g h1 h2 => by first | exact h2 | omega)
 replace hb8 := hb8.keep x5 om1
 have hy13 := y13.toNat_lt
 refine Rr (asI rfl) ?_
 refine Qg (QH (QH (Qc ?_)))
 refine Rr (mvI rfl) ?_
 refine Rr (o_leq rfl rfl) ?_
 refine Rr (mvB rfl) ?_
 refine ZI 2 16 rfl rfl rfl (fun hg => (mvI rfl)) ?_
 refine ZI 2 16 rfl rfl rfl (fun hg => (Jp (a := y13.toNat) (b := 8) (ZU (u := undef) hg) rfl (by decide) (by omega))) ?_
 refine ZI 2 16 rfl rfl rfl (fun hg => (o_leq (ZU (u := undef) hg) rfl)) ?_
 refine Rr (JP (u := undef) rfl rfl) ?_
 refine Qg ?_
 refine ZG rfl (fun hc1 => ?_) (fun hc1 => ?_)
 ·skip
  refine QH (ZM (QH (Qc ?_)))
  refine Rr (mvI rfl) ?_
  refine Rr (ZZ rfl rfl) ?_
  refine Rr (mvB rfl) ?_
  refine ZI 2 24 rfl rfl rfl (fun hg => (mvI rfl)) ?_
  refine ZI 2 24 rfl rfl rfl (fun hg => (JY (ZU (u := undef) hg) rfl)) ?_
  refine Rr (Jq (u := undef) rfl rfl) ?_
  refine Rr (asB rfl) ?_
  refine Qg ?_
  refine ZG rfl (fun hc2 => ?_) (fun hc2 => ?_)
  ·have h1e : 1 < d := by
    rw [Bool.and_eq_true] at hc2
    have := dcT hc2.2; omega
   refine QH (Qc ?_)
   refine Rr (Zt (v := .pointer _) rfl) ?_
   refine Rr (mvI rfl) ?_
   refine Rr (o_quoN (a := y13.toNat) (b := 8) rfl rfl (by decide) (by omega)) ?_
   refine Rr (mvI rfl) ?_
   refine Rr (mvI rfl) ?_
   refine Rr (mvI rfl) ?_
   refine ZC rfl (o_call5 call130 rfl rfl rfl rfl rfl) (Ok.mono (compare18_ok b F _ _ hs hF (y13.toNat / 8) (by omega) d kd (by omega) (by omega) (by rw [← hq4]; omega)) ?_)
   rintro _ w7 ⟨⟨f34, rfl⟩, hs, x8⟩
   have z9 := x8.size
   replace hX := Bel.out hX x8 (fun g h1 h2 => by first | exact h2 | omega)
   replace hb8 := hb8.keep x8 om1
   rw [← hq4] at hs
   refine Ja (v := .agg _) rfl sizeOf121 rfl rfl hb8 rfl rfl rfl ?_
   intro w10 c11 hb8
   change Box _ _ _ (encF18 _) at hb8
   have z12 := Bel.size c11
   replace hX := Bel.out hX c11 (fun g h1 h2 => by first | exact h2 | omega)
   replace hs := hs.keep c11 (fun h => by omega) (fun g h1 h2 h3 => by have := hF g h2; omega)
   refine Qg (ZJ ?_)
   refine ⟨_, res_1 (v := .agg _) rfl (Ju isAgg121 sizeOf121 rfl hb8.at rfl), ?_⟩
   exact ⟨⟨_, rfl⟩, hs.up (by rw [hp4.1]; omega), hX⟩
  skip
  refine QH (Qc ?_)
  refine Rr (mvI rfl) ?_
  refine Rr (ZZ rfl rfl) ?_
  refine Rr (mvB rfl) ?_
  refine ZI 2 38 rfl rfl rfl (fun hg => (mvI rfl)) ?_
  refine ZI 2 38 rfl rfl rfl (fun hg => (Jp (a := y13.toNat) (b := 16) (ZU (u := undef) hg) rfl (by decide) (by omega))) ?_
  refine ZI 2 38 rfl rfl rfl (fun hg => (ZZ (ZU (u := undef) hg) rfl)) ?_
  refine Rr (JP (u := undef) rfl rfl) ?_
  refine Rr (asB rfl) ?_
  refine Qg ?_
  refine ZG rfl (fun hc3 => ?_) (fun hc3 => ?_)
  ·refine QH (Qc ?_)
   refine Rr (mvI rfl) ?_
   refine Rr (o_quoN (a := y13.toNat) (b := 16) rfl rfl (by decide) (by omega)) ?_
   refine Rr (Jp (a := y13.toNat / 16) (b := 2) rfl rfl (by decide) (by omega)) ?_
   refine Rr (Jr (p := 2) (b := y13.toNat / 16 % 2) rfl rfl (by omega)) ?_
   refine Rr (Z7 (cells := encF18 ⟨((2 + y13.toNat / 16 % 2 : Nat) : Int), 0, none, 0, 0, none, 0, 0⟩) (vs := [(0, .int _ _)]) rfl (by kernel_rfl)) ?_
   refine Ja (v := .agg _) rfl sizeOf121 rfl rfl hb8 rfl rfl rfl ?_
   intro w13 c14 hb8
   change Box _ _ _ (encF18 _) at hb8
   have z15 := Bel.size c14
   replace hX := Bel.out hX c14 (fun g h1 h2 => by first | exact h2 | omega)
   replace hs := hs.keep c14 (fun h => by omega) (fun g h1 h2 h3 => by have := hF g h2; omega)
   refine Qg (ZJ ?_)
   refine ⟨_, res_1 (v := .agg _) rfl (Ju isAgg121 sizeOf121 rfl hb8.at rfl), ?_⟩
   exact ⟨⟨_, rfl⟩, hs.up (by rw [hp4.1]; omega), hX⟩
  refine ZH (QH (Qc ?_))
  refine Rr (mvI rfl) ?_
  refine Rr (o_quoN (a := y13.toNat) (b := 8) rfl rfl (by decide) (by omega)) ?_
  refine Rr (mvI rfl) ?_
  refine Rr (Jp (a := y13.toNat / 8) (b := 4) rfl rfl (by decide) (by omega)) ?_
  refine Rr (Jr (p := 1) (b := y13.toNat / 8 % 4) rfl rfl (by omega)) ?_
  refine Jh (vs := [.int _ _]) ([((1 + y13.toNat / 8 % 4 : Nat) : Int)]) rfl Ye el_int rfl rfl ⟨rfl, trivial⟩ rfl rfl rfl rfl ?_
  intro a53 w16 x17 hown53
  have z18 := x17.size
  replace hX := hX.ex x17
  replace hs := hs.ext x17
  replace hb8 := hb8.ext x17
  refine Rr (Z7 (cells := encF18 ⟨4, 0, a53, 1, 1, none, 0, 0⟩) (vs := [(0, .int _ _), (2, .slice _ _ _)]) rfl (by kernel_rfl)) ?_
  refine Ja (v := .agg _) rfl sizeOf121 rfl rfl hb8 rfl rfl rfl ?_
  intro w19 c20 hb8
  change Box _ _ _ (encF18 _) at hb8
  have z21 := Bel.size c20
  replace hX := Bel.out hX c20 (fun g h1 h2 => by first | exact h2 | omega)
  replace hs := hs.keep c20 (fun h => by omega) (fun g h1 h2 h3 => by have := hF g h2; omega)
  refine Qg (ZJ ?_)
  refine ⟨_, res_1 (v := .agg _) rfl (Ju isAgg121 sizeOf121 rfl hb8.at rfl), ?_⟩
  exact ⟨⟨_, rfl⟩, hs.up (by rw [hp4.1]; omega), hX⟩
 have h1d : 1 < d := by
  rw [Bool.or_eq_false_iff] at hc1
  have := dcF hc1.1; omega
 refine ZH (QH (QH (Qc ?_)))
 refine Rr (mvI rfl) ?_
 refine Rr (Jp (a := y13.toNat) (b := 8) rfl rfl (by decide) (by omega)) ?_
 refine Rr (o_geq rfl rfl) ?_
 refine Qg ?_
 refine ZG rfl (fun hc4 => ?_) (fun hc4 => ?_)
 ·refine QH (Qc ?_)
  refine Rr (Zt (v := .pointer _) rfl) ?_
  refine Rr (mvI rfl) ?_
  refine Rr (o_quoN (a := y13.toNat) (b := 8) rfl rfl (by decide) (by omega)) ?_
  refine Rr (mvI rfl) ?_
  refine Rr (mvI rfl) ?_
  refine Rr (mvI rfl) ?_
  refine ZC rfl (o_call5 call130 rfl rfl rfl rfl rfl) (Ok.mono (compare18_ok b F _ _ hs hF (y13.toNat / 8) (by omega) d kd (by omega) (by omega) (by rw [← hq4]; omega)) ?_)
  rintro _ w22 ⟨⟨f64, rfl⟩, hs, x23⟩
  have z24 := x23.size
  replace hX := Bel.out hX x23 (fun g h1 h2 => by first | exact h2 | omega)
  replace hb8 := hb8.keep x23 om1
  rw [← hq4] at hs
  refine Ja (v := .agg _) rfl sizeOf121 rfl rfl hb8 rfl rfl rfl ?_
  intro w25 c26 hb8
  change Box _ _ _ (encF18 _) at hb8
  have z27 := Bel.size c26
  replace hX := Bel.out hX c26 (fun g h1 h2 => by first | exact h2 | omega)
  replace hs := hs.keep c26 (fun h => by omega) (fun g h1 h2 h3 => by have := hF g h2; omega)
  refine Qg (ZJ ?_)
  refine ⟨_, res_1 (v := .agg _) rfl (Ju isAgg121 sizeOf121 rfl hb8.at rfl), ?_⟩
  exact ⟨⟨_, rfl⟩, hs.up (by rw [hp4.1]; omega), hX⟩
 refine ZH (QH (Qc ?_))
 refine Rr (Zt (v := .pointer _) rfl) ?_
 refine Rr (mvI rfl) ?_
 refine Rr (o_subN (p := d) (b := 1) rfl rfl (by omega) (by omega)) ?_
 refine Rr (mvI rfl) ?_
 refine Rr (mvI rfl) ?_
 refine ZC rfl (o_call4 call101 rfl rfl rfl rfl) (Ok.mono (ih h1d _ _ hs (by omega)) ?_)
 rintro _ w28 ⟨⟨f70, rfl⟩, hs, x29⟩
 have z30 := x29.size
 replace hX := Bel.out hX x29 (fun g h1 h2 => by first | exact h2 | omega)
 replace hb8 := hb8.keep x29 om1
 refine Z8 rfl rfl zeroValue121 rfl sizeOf121 (fun _ => rfl) rfl rfl ?_
 intro b10 w31 x32 hge10 hb10
 have hlt10 := hb10.lt
 change Box _ _ _ (encF18 _) at hb10
 have z33 := x32.size
 replace hX := hX.ex x32
 replace hs := hs.ext x32
 replace hb8 := hb8.ext x32
 refine Qg (QH (QH (Qc ?_)))
 refine Rr (mvI rfl) ?_
 refine Rr (Jp (a := y13.toNat) (b := 8) rfl rfl (by decide) (by omega)) ?_
 refine Rr (ZZ rfl rfl) ?_
 refine Qg ?_
 refine ZG rfl (fun hc5 => ?_) (fun hc5 => ?_)
 ·refine QH (Qc ?_)
  refine Rr (ZO isAgg121 sizeOf121 rfl hb10.at rfl) ?_
  refine Jh (vs := [.agg _]) ([f70]) rfl encF18_ok el_f18 rfl rfl ⟨rfl, trivial⟩ rfl rfl rfl rfl ?_
  intro a75 w34 x35 hown75
  have z36 := x35.size
  replace hX := hX.ex x35
  replace hs := hs.ext x35
  replace hb8 := hb8.ext x35
  refine Rr (Z7 (cells := encF18 ⟨7, 0, none, 0, 0, a75, 1, 1⟩) (vs := [(0, .int _ _), (3, .slice _ _ _)]) rfl (by kernel_rfl)) ?_
  refine Ja (v := .agg _) rfl sizeOf121 rfl rfl hb8 rfl rfl rfl ?_
  intro w37 c38 hb8
  change Box _ _ _ (encF18 _) at hb8
  have z39 := Bel.size c38
  replace hX := Bel.out hX c38 (fun g h1 h2 => by first | exact h2 | omega)
  replace hs := hs.keep c38 (fun h => by omega) (fun g h1 h2 h3 => by have := hF g h2; omega)
  refine Qg (ZJ ?_)
  refine ⟨_, res_1 (v := .agg _) rfl (Ju isAgg121 sizeOf121 rfl hb8.at rfl), ?_⟩
  exact ⟨⟨_, rfl⟩, hs.up (by rw [hp4.1]; omega), hX⟩
 refine ZH (QH (Qc ?_))
 refine Rr (Zt (v := .pointer _) rfl) ?_
 refine Rr (mvI rfl) ?_
 refine Rr (o_subN (p := d) (b := 1) rfl rfl (by omega) (by omega)) ?_
 refine Rr (mvI rfl) ?_
 refine Rr (mvI rfl) ?_
 refine ZC rfl (o_call4 call101 rfl rfl rfl rfl) (Ok.mono (ih h1d _ _ hs (by omega)) ?_)
 rintro _ w40 ⟨⟨f82, rfl⟩, hs, x41⟩
 have z42 := x41.size
 replace hX := Bel.out hX x41 (fun g h1 h2 => by first | exact h2 | omega)
 replace hb8 := hb8.keep x41 om1
 replace hb10 := hb10.keep x41 om1
 refine Z8 rfl rfl zeroValue121 rfl sizeOf121 (fun _ => rfl) rfl rfl ?_
 intro b11 w43 x44 hge11 hb11
 have hlt11 := hb11.lt
 change Box _ _ _ (encF18 _) at hb11
 have z45 := x44.size
 replace hX := hX.ex x44
 replace hs := hs.ext x44
 replace hb8 := hb8.ext x44
 replace hb10 := hb10.ext x44
 refine Qg (QH (Qc ?_))
 refine Rr (mvI rfl) ?_
 refine Rr (Jp (a := y13.toNat) (b := 8) rfl rfl (by decide) (by omega)) ?_
 refine Rr (Jr (p := 8) (b := y13.toNat % 8) rfl rfl (by omega)) ?_
 refine Rr (o_subN (p := 8 + y13.toNat % 8) (b := 3) rfl rfl (by omega) (by omega)) ?_
 refine Rr (ZO isAgg121 sizeOf121 rfl hb10.at rfl) ?_
 refine Rr (ZO isAgg121 sizeOf121 rfl hb11.at rfl) ?_
 refine Jh (vs := [.agg _, .agg _]) ([f70, f82]) rfl encF18_ok el_f18 rfl rfl ⟨rfl, ⟨rfl, trivial⟩⟩ rfl rfl rfl rfl ?_
 intro a89 w46 x47 hown89
 have z48 := x47.size
 replace hX := hX.ex x47
 replace hs := hs.ext x47
 replace hb8 := hb8.ext x47
 refine Rr (Z7 (cells := encF18 ⟨((8 + y13.toNat % 8 - 3 : Nat) : Int), 0, none, 0, 0, a89, 2, 2⟩) (vs := [(0, .int _ _), (3, .slice _ _ _)]) rfl (by kernel_rfl)) ?_
 refine Ja (v := .agg _) rfl sizeOf121 rfl rfl hb8 rfl rfl rfl ?_
 intro w49 c50 hb8
 change Box _ _ _ (encF18 _) at hb8
 have z51 := Bel.size c50
 replace hX := Bel.out hX c50 (fun g h1 h2 => by first | exact h2 | omega)
 replace hs := hs.keep c50 (fun h => by omega) (fun g h1 h2 h3 => by have := hF g h2; omega)
 refine Qg (ZJ ?_)
 refine ⟨_, res_1 (v := .agg _) rfl (Ju isAgg121 sizeOf121 rfl hb8.at rfl), ?_⟩
 exact ⟨⟨_, rfl⟩, hs.up (by rw [hp4.1]; omega), hX⟩

theorem truth18_ok (b : Nat) (F : Nat → Prop) (hF : ∀ g, F g → g < b) (kd : Int) : ∀ (d : Nat), 1 ≤ d → d ≤ 20 → ∀ (w : World) (N : Nat), Byt F w b 174 N → N + 4 ^ d ≤ 100000 → Ok Tryz.prog 101 #[.pointer (some ⟨b, 0, none⟩), .int .i64 (d : Int), .int .i64 kd, .int .i64 4] w fun v w' => (∃ f : F18, v = .agg (encF18 f).toArray) ∧ Byt F w' b 174 (N + 4 ^ d) ∧ Bel False (fun g => g = b) w w'
 | 0, h, _ => absurd h (by decide)
 | d + 1, h, h2 => fun w N hs hN => truth_step b F N w hs hF (d + 1) kd h h2 hN (fun h1 w' N' hs' hN' => truth18_ok b F hF kd d (by omega) (by omega) w' N' hs' hN')
theorem make18_ok (v0 : Value) (G : Nat → Prop) (l : List UInt8) (kd : Int) (w : World) (hp : Rd encB 1 G w v0 l) : Ok Tryz.prog 47 #[v0, .int .i64 kd, .int .i64 4] w fun v w' => (∃ f : F18, v = .agg (encF18 f).toArray) ∧ Ext False w w' := by
 obtain ⟨al, cl, rfl, hp⟩ := hp
 replace hp := hp.mono (F' := fun g => g < w.heap.size) (fun g h1 h2 => h1)
 refine ZQ 15 func47 rfl rfl rfl ?_
 have hX := xRf w
 refine QH (Qc ?_)
 refine Z2 rfl (JK zeroValue121) ?_
 intro b6 w1 x2 hge6 hb6
 have hlt6 := hb6.lt
 change Box _ _ _ ([.int _ _, .int _ _, .slice _ _ _, .slice _ _ _]) at hb6
 have z3 := x2.size
 replace hX := hX.ex x2
 replace hp := hp.ext x2
 refine Qg (QH (Qc ?_))
 refine Rr (mvS rfl) ?_
 refine Rr (Z7 (cells := [.slice al l.length cl, .int .i64 0]) (vs := [(0, .slice _ _ _)]) rfl (by kernel_rfl)) ?_
 refine Z2 rfl (JB (v := .agg _) rfl) ?_
 intro b10 w4 x5 hge10 hb10
 have hlt10 := hb10.lt
 have z6 := x5.size
 replace hX := hX.ex x5
 replace hp := hp.ext x5
 replace hb6 := hb6.ext x5
 refine Rr (ZD (v := .pointer _) rfl) ?_
 refine Qg (QH (Qc ?_))
 change Box _ _ _ [.slice al l.length cl, .int .i64 ((0 : Nat) : Int)] at hb10
 have hsrc : Byt (fun g => g < w.heap.size) w4 b10 174 0 := ⟨al, cl, l, 0, hb10, Nat.le_refl _, hp⟩
 refine Rr (Zt (v := .pointer _) rfl) ?_
 refine Rr (mvI rfl) ?_
 refine Rr (mvI rfl) ?_
 refine ZC rfl (o_call4 call101 rfl rfl rfl rfl) (Ok.mono (truth18_ok b10 (fun g => g < w.heap.size) (fun g h => by omega) kd 4 (by decide) (by decide) _ _ hsrc (by decide)) ?_)
 rintro _ w7 ⟨⟨f14, rfl⟩, -, x8⟩
 have z9 := x8.size
 replace hX := Bel.out hX x8 om2
 replace hb6 := hb6.keep x8 om1
 refine Ja (v := .agg _) rfl sizeOf121 rfl rfl hb6 rfl rfl rfl ?_
 intro w10 c11 hb6
 change Box _ _ _ (encF18 _) at hb6
 have z12 := Bel.size c11
 replace hX := Bel.out hX c11 om2
 refine Qg (ZJ ?_)
 refine ⟨_, res_1 (v := .agg _) rfl (Ju isAgg121 sizeOf121 rfl hb6.at rfl), ?_⟩
 exact ⟨⟨f14, rfl⟩, hX⟩

theorem names18_ok (n : Nat) (hn : n ≤ 9) (w : World) : Ok Tryz.prog 46 #[.int .i64 (n : Int)] w fun v w' => (∃ l : List Str, Own encS 1 9 (Fsh w w') w' v l ∧ l.length = n) ∧ Ext False w w' := by
 refine ZQ 38 func46 rfl rfl rfl ?_
 have hX := xRf w
 refine QH (Qc ?_)
 refine Rr Zi ?_
 refine Qg (QH (Qc ?_))
 refine Rr Zi ?_
 refine Qg (QH (QH (Qc ?_)))
 refine Rr Zi ?_
 refine Qg (ZM ?_)
 refine Jk (α := Nat × Value × List Str) [(3, 36)] (fun q => [(4, .int .i64 (q.1 : Int)), (3, q.2.1)]) (fun q w' => (1 ≤ q.1 ∧ q.1 ≤ n + 1 ∧ q.2.2.length + 1 = q.1) ∧ Bel False (fun g => w.heap.size ≤ g) w w' ∧ (Own encS 1 9 (fun g => w.heap.size ≤ g) w' q.2.1 q.2.2)) (fun q => n + 1 - q.1) (1, .slice none 0 0, []) ⟨rfl, rfl, trivial⟩ ⟨⟨Nat.le_refl _, by show 1 ≤ n + 1; omega, rfl⟩, Bel.refl _ _, Own.nil _ _⟩ ?_
 rintro ⟨k, t, l⟩ fb3 w2 ⟨⟨hk1, hk, hl⟩, hXL1, hown⟩
 dsimp only at *
 have z4 := Bel.size hXL1
 replace hX := Bel.out hX hXL1 om2
 refine QH (QH (Qc ?_))
 refine Rr (mvI rfl) ?_
 refine Rr (mvI rfl) ?_
 refine Rr (o_leq rfl rfl) ?_
 refine Qg ?_
 refine ZG rfl (fun hc1 => ?_) (fun hc1 => ?_)
 ·have hkn : k ≤ n := by have := dcT hc1; omega
  refine ZH (QH (ZM (QH (Qc ?_))))
  refine Rr (mvI rfl) ?_
  refine Rr (Z5 rfl rfl) ?_
  refine Qg ?_
  refine Jc (cvB (decide_eq_true (by omega))) ?_
  refine Qc ?_
  refine Rr (Zt (v := t) rfl) ?_
  refine Rr (mvI rfl) ?_
  refine Rr (mvI rfl) ?_
  refine Rr (Jr (p := k) (b := 1) rfl rfl (by omega)) ?_
  refine Rr (o_sslice underlying9 rfl rfl rfl (by first | omega | (show k + 1 ≤ 10; omega)) (by first | omega | (show k + 1 ≤ 10; omega))) ?_
  refine Rr (Z3 rfl rfl (by simp; omega)) ?_
  refine Jh (vs := [str _]) ([([114] ++ ((([48, 49, 50, 51, 52, 53, 54, 55, 56, 57] : List UInt8).take (k + 1)).drop k))]) rfl Jy Yb rfl rfl ⟨rfl, trivial⟩ rfl rfl rfl rfl ?_
  intro a18 w5 x6 hown18
  have z7 := x6.size
  replace hX := hX.ex x6
  replace hXL1 := Bel.ex hXL1 x6
  replace hown := hown.ext x6
  replace hown18 := hown18.mono (D' := fun g => w.heap.size ≤ g) (fun g h1 h2 => by omega)
  refine Jd rfl Jy Yb rfl rfl hown (hown18.slA Jy) rfl (by simp; omega) omU ?_
  intro v19 w8 x9 hown
  have z10 := x9.size
  replace hX := Bel.out hX x9 om2
  replace hXL1 := Bel.out hXL1 x9 om2
  refine Rr (ZD (v := v19) rfl) ?_
  refine Qg (Qc ?_)
  refine Rr (mvI rfl) ?_
  refine Rr (Jr (p := k) (b := 1) rfl rfl (by omega)) ?_
  refine Rr (asI rfl) ?_
  refine Qg ?_
  refine ⟨(k + 1, v19, l ++ [([114] ++ ((([48, 49, 50, 51, 52, 53, 54, 55, 56, 57] : List UInt8).take (k + 1)).drop k))]), ⟨sT, sT, trivial⟩, oT, ⟨?_, hXL1, ?_⟩, ?_⟩
  ·exact ⟨by show 1 ≤ k + 1; omega, by show k + 1 ≤ n + 1; omega, by simp; omega⟩
  ·exact hown
  ·show n + 1 - (k + 1) < n + 1 - k; omega
 have hkn : n < k := by have := dcF hc1; omega
 refine Z4 (ZX (QH (Qc ?_)))
 refine Rr (Zt (v := t) rfl) ?_
 refine Rr (ZD (v := t) rfl) ?_
 refine Qg (ZJ ?_)
 refine ⟨_, ZF rfl rfl, ?_⟩
 exact ⟨⟨l, hown.mono (fun g h1 h2 => by omega), by omega⟩, hX⟩

