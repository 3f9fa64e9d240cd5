/- Walks: what functions return. -/
import Derived.Test.YtdnkjdmfnmdpdaaGreatDoorWmk18
import Derived.Test.YtdnkjdmfnmdpdaaGreatDoorWmk23
import Derived.Test.YtdnkjdmfnmdpdaaGreatDoorSu
import Derived.Test.YtdnkjdmfnmdpdaaGreatDoorSe
set_option linter.unusedVariables false
set_option linter.unusedSimpArgs false
set_option linter.unnecessarySimpa false
namespace Go.Proofs.YtdnkjdmfnmdpdaaGreatDoor
open Go Go.Lx Go.RowKit Tryz
set_option maxRecDepth 100000
theorem set22_ok (a : Option Addr) (c : Nat) (G : Nat → Prop) (m : List RS) (w : World) (hs : Sl encRs 3 G w a c m) (hm : OkM m) (n r : Int) (act : Bool) : Ok Tryz.prog 49 #[.slice a m.length c, .int .i64 n, .int .i64 r, .bool act] w fun v w' => (∃ a' c' e M, v = .tuple #[.slice a' (M : List RS).length c', .int .i64 e] ∧ Sl encRs 3 (fun g => G g ∨ Fsh w w' g) w' a' c' M ∧ OkM M) ∧ Ext False w w' :=
 (r22set_ok _ _ m w hs.rd hm n r act).mono fun v w' ⟨⟨p, h1, a', c', h2, h3⟩, x⟩ => ⟨⟨a', c', (setR m n r act).2, (setR m n r act).1, by rw [h1, h2], h3, hm.setR n r act⟩, x⟩
set_option maxHeartbeats 8000000 in
theorem make24_ok (v0 : Value) (G0 : Nat → Prop) (l : List UInt8) (w : World) (hp : Rd encB 1 G0 w v0 l) : Ok Tryz.prog 9 #[v0] w fun v w' => StS (Fsh w w') w' v ∧ Ext False w w' := by
 obtain ⟨al, cl, rfl, hp⟩ := hp
 replace hp := hp.mono (F' := fun g => g < w.heap.size) (fun g h1 h2 => h1)
 refine ZQ 233 func9 rfl rfl rfl ?_
 have hX := xRf w
 refine QH (Qc ?_)
 refine Z2 rfl (JK zeroValue38) ?_
 intro b2 w1 x2 hge2 hb2
 have hlt2 := hb2.lt
 change Box _ _ _ ([.int _ _, .slice _ _ _, .slice _ _ _, .int _ _, .slice _ _ _, .slice _ _ _, .slice _ _ _, .slice _ _ _, .slice _ _ _, .slice _ _ _]) at hb2
 have z3 := x2.size
 replace hX := hX.ex x2
 replace hp := hp.ext x2
 refine Qg (QH (Qc ?_))
 refine Rr (mvS rfl) ?_
 refine Rr (Z7 (cells := [.slice al l.length cl, .int .i64 0]) (vs := [(0, .slice _ _ _)]) rfl (by kernel_rfl)) ?_
 refine Z2 rfl (JB (v := .agg _) rfl) ?_
 intro b27 w4 x5 hge27 hb27
 have hlt27 := hb27.lt
 have z6 := x5.size
 replace hX := hX.ex x5
 replace hp := hp.ext x5
 replace hb2 := hb2.ext x5
 change Box _ _ _ [.slice al l.length cl, .int .i64 ((0 : Nat) : Int)] at hb27
 have hs : Byt (fun g => g < w.heap.size) w4 b27 100 0 := ⟨al, cl, l, 0, hb27, Nat.le_refl _, hp⟩
 refine Rr (ZD (v := .pointer _) rfl) ?_
 refine Qg (QH (Qc ?_))
 refine ZC rfl (ZW call39 rfl rfl) (Ok.mono (names24_ok [114] 4 (by decide) (by decide) _) ?_)
 rintro v28 w7 ⟨⟨l28, hown28, hl28⟩, x8⟩
 have z9 := x8.size
 replace hX := hX.ex x8
 replace hb2 := hb2.ext x8
 replace hs := hs.ext x8
 replace hown28 := hown28.mono (D' := fun g => b27 < g) (fun g h1 h2 => by have := h2.1; omega)
 refine ZC rfl (ZW call39 rfl rfl) (Ok.mono (names24_ok [97] 2 (by decide) (by decide) _) ?_)
 rintro v29 w10 ⟨⟨l29, hown29, hl29⟩, x11⟩
 replace hown28 := hown28.mono (D' := fun g => b27 < g ∧ ¬ (w7.heap.size ≤ g ∧ g < w10.heap.size)) (fun g h1 h2 => by omega)
 have z12 := x11.size
 replace hX := hX.ex x11
 replace hb2 := hb2.ext x11
 replace hs := hs.ext x11
 replace hown28 := hown28.ext x11
 obtain ⟨a29, c29, hv29, -⟩ := hown29.sl Jy
 subst hv29
 refine Jd rfl Jy Yb rfl rfl hown28 (hown29.slA Jy) rfl (by first | omega | (simp; omega)) omU ?_
 intro v30 w13 x14 hown28
 have z15 := x14.size
 replace hX := Bel.out hX x14 om2
 replace hb2 := hb2.keep x14 om1
 replace hs := hs.keep x14 (fun h => by omega) (fun g h1 h2 h3 => by omega)
 obtain ⟨a30, c30, hv30, -⟩ := hown28.sl Jy
 subst hv30
 refine Rr (Z7 (cells := (stC 10 (.slice none 0 0) (.slice a30 (l28 ++ l29).length c30) 96#64 (.slice none 0 0) (.slice none 0 0) (.slice none 0 0) (.slice none 0 0) (.slice none 0 0) (.slice none 0 0))) (vs := [(0, .int _ _), (2, .slice _ _ _), (3, .int _ _)]) rfl (by kernel_rfl)) ?_
 refine Z8 rfl rfl zeroValue38 rfl sizeOf38 (fun _ => rfl) rfl rfl ?_
 intro b4 w16 x17 hge4 hb4
 have hlt4 := hb4.lt
 change Box _ _ _ (stC _ _ _ _ _ _ _ _ _ _) at hb4
 have z18 := x17.size
 replace hX := hX.ex x17
 replace hb2 := hb2.ext x17
 replace hs := hs.ext x17
 refine Qg (QH (Qc ?_))
 refine Rr (Zt (v := .pointer _) rfl) ?_
 refine ZC rfl (ZK call40 rfl) (Ok.mono (JR b27 (fun g => g < w.heap.size) _ _ hs (fun g h => by omega) (by omega)) ?_)
 rintro _ w19 ⟨⟨y33, rfl⟩, hs, x20⟩
 have z21 := x20.size
 replace hX := Bel.out hX x20 om2
 replace hb2 := hb2.keep x20 om1
 replace hb4 := hb4.keep x20 om1
 have hy33 := y33.toNat_lt
 refine Rr (Jp (a := y33.toNat) (b := 5) rfl rfl (by decide) (by omega)) ?_
 refine Rr (Jr (p := 1) (b := y33.toNat % 5) rfl rfl (by omega)) ?_
 refine ZC rfl (ZW call39 rfl rfl) (Ok.mono (names24_ok [117] (1 + y33.toNat % 5) (by decide) (by omega) _) ?_)
 rintro v36 w22 ⟨⟨l36, hown36, hl36⟩, x23⟩
 have z24 := x23.size
 replace hX := hX.ex x23
 replace hb2 := hb2.ext x23
 replace hs := hs.ext x23
 replace hb4 := hb4.ext x23
 replace hown36 := hown36.mono (D' := fun g => w.heap.size ≤ g) (fun g h1 h2 => by omega)
 obtain ⟨a36, c36, hv36, -⟩ := hown36.sl Jy
 subst hv36
 refine Rr (ZN underlying38 rfl sizeOf29 rfl) ?_
 refine Jb (v := .slice _ _ _) rfl sizeOf29 rfl rfl hb4 rfl rfl rfl ?_
 intro w25 c26 hb4
 change Box _ _ _ ([.int _ _, .slice _ _ _, .slice _ _ _, .int _ _, .slice _ _ _, .slice _ _ _, .slice _ _ _, .slice _ _ _, .slice _ _ _, .slice _ _ _]) at hb4
 have z27 := Bel.size c26
 replace hX := Bel.out hX c26 om2
 replace hb2 := hb2.keep c26 om1
 replace hs := hs.keep c26 (fun h => by omega) (fun g h1 h2 h3 => by omega)
 refine Qg (QH (Qc ?_))
 obtain ⟨n4, hn4⟩ : ∃ n, n = w25.heap.size := ⟨_, rfl⟩
 replace hs := hs.up (M := 10) (by decide)
 refine Rr (Zt (v := .pointer _) rfl) ?_
 refine ZC rfl (ZK call40 rfl) (Ok.mono (JR b27 (fun g => g < w.heap.size) _ _ hs (fun g h => by omega) (by omega)) ?_)
 rintro _ w28 ⟨⟨y39, rfl⟩, hs, x29⟩
 have z30 := x29.size
 replace hX := Bel.out hX x29 om2
 replace hb2 := hb2.keep x29 om1
 replace hb4 := hb4.keep x29 om1
 have hy39 := y39.toNat_lt
 refine Rr (asI rfl) ?_
 refine Qg (QH (QH (Qc ?_)))
 refine Rr (Z7 (cells := encPr ((1 : Fin 64), (2 : Fin 64))) (vs := [(0, .int _ _), (1, .int _ _)]) rfl (by kernel_rfl)) ?_
 refine Rr (Z7 (cells := encPr ((1 : Fin 64), (3 : Fin 64))) (vs := [(0, .int _ _), (1, .int _ _)]) rfl (by kernel_rfl)) ?_
 refine Rr (Z7 (cells := encPr ((2 : Fin 64), (3 : Fin 64))) (vs := [(0, .int _ _), (1, .int _ _)]) rfl (by kernel_rfl)) ?_
 refine Rr (Z7 (cells := encPr ((1 : Fin 64), (4 : Fin 64))) (vs := [(0, .int _ _), (1, .int _ _)]) rfl (by kernel_rfl)) ?_
 refine Rr (Z7 (cells := encPr ((2 : Fin 64), (4 : Fin 64))) (vs := [(0, .int _ _), (1, .int _ _)]) rfl (by kernel_rfl)) ?_
 refine Rr (Z7 (cells := encPr ((3 : Fin 64), (4 : Fin 64))) (vs := [(0, .int _ _), (1, .int _ _)]) rfl (by kernel_rfl)) ?_
 refine Rr (Z7 (cells := encPr ((5 : Fin 64), (6 : Fin 64))) (vs := [(0, .int _ _), (1, .int _ _)]) rfl (by kernel_rfl)) ?_
 refine Jh (vs := [.agg _, .agg _, .agg _, .agg _, .agg _, .agg _, .agg _]) (([(1, 2), (1, 3), (2, 3), (1, 4), (2, 4), (3, 4), (5, 6)] : List Pr)) rfl JF el_pr rfl rfl ⟨rfl, ⟨rfl, ⟨rfl, ⟨rfl, ⟨rfl, ⟨rfl, ⟨rfl, trivial⟩⟩⟩⟩⟩⟩⟩ rfl rfl rfl rfl ?_
 intro a47 w31 x32 hown47
 have z33 := x32.size
 replace hX := hX.ex x32
 replace hb2 := hb2.ext x32
 replace hs := hs.ext x32
 replace hb4 := hb4.ext x32
 refine Rr (Z0 underlying31 rfl) ?_
 refine Rr Jj ?_
 refine Qg (ZM ?_)
 refine Jk (α := Nat × Option Addr × Nat × List Pr) [(6, 7), (49, 71)] (fun q => [(49, .int .i64 (q.1 : Int))]) (fun q w' => (q.1 ≤ 7 ∧ LkOk q.2.2.2 (fun i => i.val) ∧ q.2.2.2.length ≤ q.1) ∧ Bel False (fun g => g = b4) w31 w' ∧ (Box w' b4 38 (stC 10 ((.slice a36 l36.length c36)) (.slice a30 (l28 ++ l29).length c30) 96#64 (.slice q.2.1 q.2.2.2.length q.2.2.1) (.slice none 0 0) (.slice none 0 0) (.slice none 0 0) (.slice none 0 0) (.slice none 0 0)) ∧ Sl encPr 2 (fun g => n4 ≤ g) w' q.2.1 q.2.2.1 q.2.2.2)) (fun q => 7 - q.1) (0, none, 0, []) ⟨rfl, trivial⟩ ⟨⟨Nat.zero_le _, LkOk.nil _, Nat.le_refl _⟩, Bel.refl _ _, ⟨hb4, Sl.none⟩⟩ ?_
 rintro ⟨k, aL, cL, L⟩ fb36 w35 ⟨⟨hk, hLk, hLl⟩, hXL34, ⟨hb4, hL⟩⟩
 dsimp only at *
 have z37 := Bel.size hXL34
 replace hX := Bel.out hX hXL34 om2
 replace hb2 := hb2.keep hXL34 om1
 replace hs := hs.keep hXL34 (fun h => by omega) (fun g h1 h2 h3 => by omega)
 replace hown47 := hown47.keepD hXL34 om3
 obtain ⟨n5, hn5⟩ : ∃ n, n = w35.heap.size := ⟨_, rfl⟩
 replace hL := hL.mono (F' := fun g => n4 ≤ g ∧ g < n5) (fun g h1 h2 => ⟨h2, by omega⟩)
 refine QH (Qc ?_)
 refine Rr (Z5 rfl rfl) ?_
 refine Qg (QH ?_)
 refine ZG rfl (fun hc1 => ?_) (fun hc1 => ?_)
 ·have hk7 : k < 7 := by have h7 : (k : Int) < 7 := dcT hc1; omega
  refine ZH (QH (ZM (QH (Qc ?_))))
  refine Rr (mvI rfl) ?_
  refine Rr (Js underlying31 sizeOf103 (hown47.slA JF) rfl rfl omg) ?_
  refine Rr (Jx isAgg103 sizeOf103 (hown47.slA JF) rfl (Jw (0, 0) (show k < 7 from hk7))) ?_
  refine Z2 rfl (JK zeroValue103) ?_
  intro b7 w38 x39 hge7 hb7
  have hlt7 := hb7.lt
  change Box _ _ _ ([.int _ _, .int _ _]) at hb7
  have z40 := x39.size
  replace hX := hX.ex x39
  replace hXL34 := Bel.ex hXL34 x39
  replace hb4 := hb4.ext x39
  replace hL := hL.ext x39
  refine Rr (asI rfl) ?_
  refine Ja (v := .agg _) rfl sizeOf103 rfl rfl hb7 rfl rfl rfl ?_
  intro w41 c42 hb7
  change Box _ _ _ (encPr _) at hb7
  have z43 := Bel.size c42
  replace hX := Bel.out hX c42 om2
  replace hXL34 := Bel.out hXL34 c42 om2
  replace hb4 := hb4.keep c42 om1
  replace hL := hL.keep c42 om3
  refine Qg (QH (Qc ?_))
  refine Rr (mvI rfl) ?_
  refine Rr (mvI rfl) ?_
  refine Rr (JJ underlying3 underlying104 rfl (wrap_u64 (by omega))) ?_
  refine Rr (o_shrN (a := y39.toNat) (n := k) rfl rfl (by omega)) ?_
  refine Rr (Jp (a := (y39.toNat >>> k)) (b := 2) rfl rfl (by decide) (by have := Nat.shiftRight_le y39.toNat k; omega)) ?_
  refine Rr (ZZ rfl rfl) ?_
  refine Qg ?_
  refine ZG rfl (fun hc2 => ?_) (fun hc2 => ?_)
  ·refine Qc ?_
   refine Rr (ZN underlying38 rfl sizeOf31 rfl) ?_
   refine Rr (ZB isAgg31 rfl (hb4.at.get 4 rfl)) ?_
   refine Rr (o_iaA (i := 0) underlying103 sizeOf3 rfl rfl (by decide)) ?_
   refine Rr (ZB isAgg3 rfl (hb7.at.get 0 rfl)) ?_
   refine Rr (o_iaA (i := 1) underlying103 sizeOf3 rfl rfl (by decide)) ?_
   refine Rr (ZB isAgg3 rfl (hb7.at.get 1 rfl)) ?_
   refine ZC rfl (JH call41 rfl rfl rfl) (Ok.mono (r10link_ok _ _ L (fun i => i.val) (([(1, 2), (1, 3), (2, 3), (1, 4), (2, 4), (3, 4), (5, 6)] : List Pr).getD k (0, 0)).1 (([(1, 2), (1, 3), (2, 3), (1, 4), (2, 4), (3, 4), (5, 6)] : List Pr).getD k (0, 0)).2 _ hL.rd (by omega) hLk (lk7 k (by omega)).1 (lk7 k (by omega)).2 (by have := lk7 k (by omega); omega)) ?_)
   rintro _ w44 ⟨⟨u67, M67, e67, rfl, hr67, hp67⟩, x45⟩
   have z46 := x45.size
   replace hX := hX.ex x45
   replace hXL34 := Bel.ex hXL34 x45
   replace hb4 := hb4.ext x45
   have hM67 := hp67.ok hLk (lk7 k (by omega)).1 ⟨(lk7 k (by omega)).2, Nat.le_of_lt (Nat.lt_of_le_of_lt (lk7 k (by omega)).2 (lk7 k (by omega)).1)⟩
   obtain ⟨a67, c67, rfl, hr67⟩ := hr67
   replace hr67 := hr67.mono (F' := fun g => n4 ≤ g) (fun g h1 h2 => h2.elim (fun h => h.1) (fun h => by have := h.1; omega))
   refine Rr (Zt (v := .tuple _) rfl) ?_
   refine Rr (ZS rfl rfl) ?_
   refine Rr (ZS rfl rfl) ?_
   refine Rr (ZN underlying38 rfl sizeOf31 rfl) ?_
   refine Jb (v := .slice _ _ _) rfl sizeOf31 rfl rfl hb4 rfl rfl rfl ?_
   intro w47 c48 hb4
   change Box _ _ _ ([.int _ _, .slice _ _ _, .slice _ _ _, .int _ _, .slice _ _ _, .slice _ _ _, .slice _ _ _, .slice _ _ _, .slice _ _ _, .slice _ _ _]) at hb4
   have z49 := Bel.size c48
   replace hX := Bel.out hX c48 om2
   replace hXL34 := Bel.out hXL34 c48 om2
   replace hr67 := hr67.keep c48 om3
   refine Qg (Qc ?_)
   refine Rr (Z1 rfl rfl omg) ?_
   refine Rr (mvI rfl) ?_
   refine Qg ?_
   refine ⟨(k + 1, a67, c67, M67), ⟨sT, trivial⟩, oT, ⟨?_, hXL34, ?_⟩, ?_⟩
   ·exact ⟨by show k + 1 ≤ 7; omega, hM67.1, by show M67.length ≤ k + 1; omega⟩
   ·exact ⟨hb4, hr67⟩
   ·show 7 - (k + 1) < 7 - k; omega
  refine ZH (Qc ?_)
  refine Rr (Z1 rfl rfl omg) ?_
  refine Rr (mvI rfl) ?_
  refine Qg ?_
  refine ⟨(k + 1, aL, cL, L), ⟨sT, trivial⟩, oT, ⟨?_, hXL34, ?_⟩, ?_⟩
  ·exact ⟨by show k + 1 ≤ 7; omega, hLk, by show L.length ≤ k + 1; omega⟩
  ·exact ⟨hb4, hL.mono (fun g _ h => h.1)⟩
  ·show 7 - (k + 1) < 7 - k; omega
 skip
 refine Z4 (ZX (QH (Qc ?_)))
 refine Rr (Zt (v := .pointer _) rfl) ?_
 refine ZC rfl (ZK call40 rfl) (Ok.mono (JR b27 (fun g => g < w.heap.size) _ _ hs (fun g h => by omega) (by omega)) ?_)
 rintro _ w50 ⟨⟨y73, rfl⟩, hs, x51⟩
 have z52 := x51.size
 replace hX := Bel.out hX x51 om2
 replace hb2 := hb2.keep x51 om1
 replace hb4 := hb4.keep x51 om1
 replace hL := hL.keep x51 om3
 have hy73 := y73.toNat_lt
 refine Rr (Jp (a := y73.toNat) (b := 8) rfl rfl (by decide) (by omega)) ?_
 refine Rr (asI rfl) ?_
 refine Qg (QH (QH (Qc ?_)))
 refine Rr Zi ?_
 refine Qg (ZM ?_)
 refine Jk (α := Nat × Option Addr × Nat × List E12) [(9, 13), (75, 108)] (fun q => [(9, .int .i64 (q.1 : Int))]) (fun q w' => (q.1 ≤ 8 ∧ q.2.2.2.length ≤ q.1) ∧ Bel False (fun g => g = b4 ∨ g = b27) w50 w' ∧ (Box w' b4 38 (stC 10 ((.slice a36 l36.length c36)) (.slice a30 (l28 ++ l29).length c30) 96#64 (.slice aL L.length cL) (.slice q.2.1 q.2.2.2.length q.2.2.1) (.slice none 0 0) (.slice none 0 0) (.slice none 0 0) (.slice none 0 0)) ∧ Byt (fun g => g < w.heap.size) w' b27 100 (12 + 3 * q.1) ∧ Sl encA12 3 (fun g => n4 ≤ g) w' q.2.1 q.2.2.1 q.2.2.2)) (fun q => 8 - q.1) (0, none, 0, []) ⟨rfl, trivial⟩ ⟨⟨Nat.zero_le _, Nat.le_refl _⟩, Bel.refl _ _, ⟨hb4, hs.up (by first | decide | (show _ ≤ _; omega)), Sl.none⟩⟩ ?_
 rintro ⟨k, aM, cM, M⟩ fb55 w54 ⟨⟨hk, hMl⟩, hXL53, ⟨hb4, hs, hM⟩⟩
 dsimp only at *
 have z56 := Bel.size hXL53
 replace hX := Bel.out hX hXL53 om2
 replace hb2 := hb2.keep hXL53 om1
 replace hL := hL.keep hXL53 om3
 refine QH (QH (Qc ?_))
 refine Rr (mvI rfl) ?_
 refine Rr (mvI rfl) ?_
 refine Rr (Z5 rfl rfl) ?_
 refine Qg ?_
 refine ZG rfl (fun hc3 => ?_) (fun hc3 => ?_)
 ·have hk8 : k < y73.toNat % 8 := by have := dcT hc3; omega
  refine ZH (QH (ZM (QH (Qc ?_))))
  refine Rr (Zt (v := .pointer _) rfl) ?_
  refine ZC rfl (ZK call40 rfl) (Ok.mono (JR b27 (fun g => g < w.heap.size) _ _ hs (fun g h => by omega) (by omega)) ?_)
  rintro _ w57 ⟨⟨y81, rfl⟩, hs, x58⟩
  have z59 := x58.size
  replace hX := Bel.out hX x58 om2
  replace hXL53 := Bel.out hXL53 x58 om2
  replace hb4 := hb4.keep x58 om1
  replace hM := hM.keep x58 om3
  have hy81 := y81.toNat_lt
  refine Rr (Zt (v := .pointer _) rfl) ?_
  refine ZC rfl (ZK call40 rfl) (Ok.mono (JR b27 (fun g => g < w.heap.size) _ _ hs (fun g h => by omega) (by omega)) ?_)
  rintro _ w60 ⟨⟨y83, rfl⟩, hs, x61⟩
  have z62 := x61.size
  replace hX := Bel.out hX x61 om2
  replace hXL53 := Bel.out hXL53 x61 om2
  replace hb4 := hb4.keep x61 om1
  replace hM := hM.keep x61 om3
  have hy83 := y83.toNat_lt
  refine Rr (Zt (v := .pointer _) rfl) ?_
  refine ZC rfl (ZK call40 rfl) (Ok.mono (JR b27 (fun g => g < w.heap.size) _ _ hs (fun g h => by omega) (by omega)) ?_)
  rintro _ w63 ⟨⟨y85, rfl⟩, hs, x64⟩
  have z65 := x64.size
  replace hX := Bel.out hX x64 om2
  replace hXL53 := Bel.out hXL53 x64 om2
  replace hb4 := hb4.keep x64 om1
  replace hM := hM.keep x64 om3
  have hy85 := y85.toNat_lt
  refine Rr (asI rfl) ?_
  refine Rr (asI rfl) ?_
  refine Rr (asI rfl) ?_
  refine Qg (QH (Qc ?_))
  refine Rr (mvI rfl) ?_
  refine Rr (Jp (a := y85.toNat) (b := 12) rfl rfl (by decide) (by omega)) ?_
  refine Rr (Jr (p := 8) (b := y85.toNat % 12) rfl rfl (by omega)) ?_
  refine Rr (asI rfl) ?_
  refine Qg (QH (QH (Qc ?_)))
  refine Rr (mvI rfl) ?_
  refine Rr (o_geq rfl rfl) ?_
  refine Qg ?_
  refine ZG rfl (fun hc4 => ?_) (fun hc4 => ?_)
  ·refine Qc ?_
   refine Rr Zi ?_
   refine Qg ?_
   apply JA (β := False) (fun b => if b = b4 then 1 else 0) [peqC _, peqC _, peqC _, peqC _, peqC _, peqC _, peqC _, peqC _, peqC _, peqC _, peqC _, peqC _, peqC _, (postW (TupIs encA12 3 n4 (fun X => X.length ≤ M.length + 1))), (postW (TupIs encA12 3 n4 (fun X => X.length ≤ M.length + 1))), (postW (ListIs encA12 3 n4 (fun X => X.length ≤ M.length + 1))), (postAny), peqC _, (postSs 1 b4 38 (fun u => (stC 10 ((.slice a36 l36.length c36)) (.slice a30 (l28 ++ l29).length c30) 96#64 (.slice aL L.length cL) (u) (.slice none 0 0) (.slice none 0 0) (.slice none 0 0) (.slice none 0 0))) (ListIs encA12 3 n4 (fun X => X.length ≤ M.length + 1)))] [0, 0, 0, 0, 0, 0, 0, 0, 0, 0, 0, 0, 0, 0, 0, 0, 0, 0, 1] 19 Jz (by kernel_rfl) (by kernel_rfl) rfl ⟨Q4 _ _, Q4 _ _, Q4 _ _, Q4 _ _, Q4 _ _, Q4 _ _, Q4 _ _, Q4 _ _, Q4 _ _, Q4 _ _, Q4 _ _, Q4 _ _, Q4 _ _, (Jl (TupIs.keepS _ _ _ _)), (Jl (TupIs.keepS _ _ _ _)), (Jl (ListIs.keepS _ _ _ _)), (postAny_stable), Q4 _ _, (postSs_stable (ListIs.keepS _ _ _ _)), trivial⟩ ?ob19 ?fin19
   case ob19 =>
    refine Zb (fun w66 c68 x67 hc069 hk70 => ?_) ?_
    ·replace x67 := Bel.mono x67 (D' := fun g => g = b4) omC
     have z71 := x67.size
     refine QU ?_
     exact ZL rfl (ZN underlying38 rfl sizeOf32 rfl)
    refine Zb (fun w72 c74 x73 hc075 hk76 => ?_) ?_
    ·replace x73 := Bel.mono x73 (D' := fun g => g = b4) omC
     have z77 := x73.size
     have hb4 := hb4.blk (hk76 1 (by decide) (by kernel_rfl) _ hb4.lt (by first | (simp [colAt]; done) | (simp [colAt]; omega)))
     refine Qk (QU ?_)
     exact ZL rfl (ZB isAgg32 rfl (hb4.at.get 5 rfl))
    refine Zb (fun w78 c80 x79 hc081 hk82 => ?_) ?_
    ·replace x79 := Bel.mono x79 (D' := fun g => g = b4) omC
     have z83 := x79.size
     refine QU ?_
     exact ZL rfl (mvI rfl)
    refine Zb (fun w84 c86 x85 hc087 hk88 => ?_) ?_
    ·replace x85 := Bel.mono x85 (D' := fun g => g = b4) omC
     have z89 := x85.size
     refine QU ?_
     exact ZL rfl (ZN underlying38 rfl sizeOf29 rfl)
    refine Zb (fun w90 c92 x91 hc093 hk94 => ?_) ?_
    ·replace x91 := Bel.mono x91 (D' := fun g => g = b4) omC
     have z95 := x91.size
     have hb4 := hb4.blk (hk94 1 (by decide) (by kernel_rfl) _ hb4.lt (by first | (simp [colAt]; done) | (simp [colAt]; omega)))
     refine Qk (QU ?_)
     exact ZL rfl (ZB isAgg29 rfl (hb4.at.get 1 rfl))
    refine Zb (fun w96 c98 x97 hc099 hk100 => ?_) ?_
    ·replace x97 := Bel.mono x97 (D' := fun g => g = b4) omC
     have z101 := x97.size
     refine Qk (QU ?_)
     exact ZL rfl (Z0 underlying29 rfl)
    refine Zb (fun w102 c104 x103 hc0105 hk106 => ?_) ?_
    ·replace x103 := Bel.mono x103 (D' := fun g => g = b4) omC
     have z107 := x103.size
     refine Qk (Qk (QU ?_))
     exact ZL rfl (Jp (a := y81.toNat) (b := l36.length) rfl rfl (by omega) (by omega))
    refine Zb (fun w108 c110 x109 hc0111 hk112 => ?_) ?_
    ·replace x109 := Bel.mono x109 (D' := fun g => g = b4) omC
     have z113 := x109.size
     refine Qk (QU ?_)
     exact ZL rfl (Jr (p := 1) (b := y81.toNat % l36.length) rfl rfl (by have := Nat.mod_le y81.toNat l36.length; omega))
    refine Zb (fun w114 c116 x115 hc0117 hk118 => ?_) ?_
    ·replace x115 := Bel.mono x115 (D' := fun g => g = b4) omC
     have z119 := x115.size
     refine QU ?_
     exact ZL rfl (mvI rfl)
    refine Zb (fun w120 c122 x121 hc0123 hk124 => ?_) ?_
    ·replace x121 := Bel.mono x121 (D' := fun g => g = b4) omC
     have z125 := x121.size
     refine Qk (QU ?_)
     exact ZL rfl (Jp (a := y83.toNat) (b := 6) rfl rfl (by decide) (by omega))
    refine Zb (fun w126 c128 x127 hc0129 hk130 => ?_) ?_
    ·replace x127 := Bel.mono x127 (D' := fun g => g = b4) omC
     have z131 := x127.size
     refine Qk (QU ?_)
     exact ZL rfl (Jr (p := 1) (b := y83.toNat % 6) rfl rfl (by omega))
    refine Zb (fun w132 c134 x133 hc0135 hk136 => ?_) ?_
    ·replace x133 := Bel.mono x133 (D' := fun g => g = b4) omC
     have z137 := x133.size
     refine QU ?_
     exact ZL rfl (mvI rfl)
    refine Zb (fun w138 c140 x139 hc0141 hk142 => ?_) ?_
    ·replace x139 := Bel.mono x139 (D' := fun g => g = b4) omC
     have z143 := x139.size
     refine Qk (Qk (Qk (QU ?_)))
     exact ZL rfl (Z7 (cells := encA12 ⟨((1 + y81.toNat % l36.length : Nat) : Int), ((1 + y83.toNat % 6 : Nat) : Int), 30000⟩) (vs := [(0, .int _ _), (1, .int _ _), (2, .int _ _)]) rfl (by kernel_rfl))
    refine Zb (fun w144 c146 x145 hc0147 hk148 => ?_) ?_
    ·replace x145 := Bel.mono x145 (D' := fun g => g = b4) omC
     have z149 := x145.size
     have hM := hM.keep x145 om3
     refine Qk (Qk (QU ?_))
     exact OpC_W (S := TupIs encA12 3 n4 (fun X => X.length ≤ M.length + 1)) rfl (ZW call42 rfl rfl) ((assign_ok aM cM _ M ⟨((1 + y81.toNat % l36.length : Nat) : Int), ((1 + y83.toNat % 6 : Nat) : Int), 30000⟩ _ hM (by omega)).mono (fun v w2 ⟨⟨a, c, e, X, h1, h2, h3⟩, x⟩ => ⟨⟨_, e, h1, fun g hg => by have := hg.1; omega, X, h2.rd, h3⟩, x⟩))
    refine Zb (fun w150 c152 x151 hc0153 hk154 => ?_) ?_
    ·replace x151 := Bel.mono x151 (D' := fun g => g = b4) omC
     have z155 := x151.size
     refine ZE (fun v105 hv105 => ?_)
     obtain ⟨F105, hF105, u105, e105, rfl, hL105⟩ := hv105
     refine QU ?_
     exact OpC_vp rfl (Zt rfl) ⟨F105, hF105, u105, e105, rfl, hL105⟩
    refine Zb (fun w156 c158 x157 hc0159 hk160 => ?_) ?_
    ·replace x157 := Bel.mono x157 (D' := fun g => g = b4) omC
     have z161 := x157.size
     refine ZE (fun v91 hv91 => ?_)
     obtain ⟨F91, hF91, u91, e91, rfl, hL91⟩ := hv91
     refine QU ?_
     exact OpC_vp rfl (ZS rfl rfl) ⟨F91, hF91, hL91⟩
    refine Zb (fun w162 c164 x163 hc0165 hk166 => ?_) ?_
    ·replace x163 := Bel.mono x163 (D' := fun g => g = b4) omC
     have z167 := x163.size
     refine ZE (fun v91 hv91 => ?_)
     obtain ⟨F91, hF91, u91, e91, rfl, hL91⟩ := hv91
     refine QU ?_
     exact OpC_vp rfl (ZS rfl rfl) trivial
    refine Zb (fun w168 c170 x169 hc0171 hk172 => ?_) ?_
    ·replace x169 := Bel.mono x169 (D' := fun g => g = b4) omC
     have z173 := x169.size
     refine Qk (Qk (Qk (Qk (Qk (Qk (Qk (Qk (Qk ?_))))))))
     refine Qk (Qk (Qk (Qk ?_)))
     refine ZE (fun v105 hv105 => ?_)
     obtain ⟨F105, hF105, u105, e105, rfl, hL105⟩ := hv105
     refine ZE (fun v91 hv91 => ?_)
     obtain ⟨F91, hF91, u91, e91, rfl, hL91⟩ := hv91
     refine ZE (fun v106 hv106 => ?_)
     obtain ⟨F106, hF106, hn106, M106, ⟨a106, c106, rfl, hr106⟩, hm106⟩ := hv106
     refine QU ?_
     exact ZL rfl (ZN underlying38 rfl sizeOf32 rfl)
    refine Zb (fun w174 c176 x175 hc0177 hk178 => ?_) ?_
    ·replace x175 := Bel.mono x175 (D' := fun g => g = b4) omC
     have z179 := x175.size
     refine Qk ?_
     refine ZE (fun v106 hv106 => ?_)
     obtain ⟨F106, hF106, hn106, M106, ⟨a106, c106, rfl, hr106⟩, hm106⟩ := hv106
     refine ZE (fun v105 hv105 => ?_)
     obtain ⟨F105, hF105, u105, e105, rfl, hL105⟩ := hv105
     refine Qk (Qk (Qk (Qk (Qk (Qk (Qk (Qk (Qk ?_))))))))
     refine Qk (Qk (Qk (Qk ?_)))
     refine ZE (fun v105 hv105 => ?_)
     obtain ⟨F105, hF105, u105, e105, rfl, hL105⟩ := hv105
     refine ZE (fun v91 hv91 => ?_)
     obtain ⟨F91, hF91, u91, e91, rfl, hL91⟩ := hv91
     refine ZE (fun v106 hv106 => ?_)
     obtain ⟨F106, hF106, hn106, M106, ⟨a106, c106, rfl, hr106⟩, hm106⟩ := hv106
     refine QU ?_
     exact postSs_of (f := fun u => (stC 10 ((.slice a36 l36.length c36)) (.slice a30 (l28 ++ l29).length c30) 96#64 (.slice aL L.length cL) (u) (.slice none 0 0) (.slice none 0 0) (.slice none 0 0) (.slice none 0 0))) (u := .slice a106 M106.length c106) (ListIs.keepS _ _ _ _) (OpC_store (v := .slice _ _ _) (by decide) sizeOf32 rfl rfl (hb4.blk (hk178 1 (by decide) (by kernel_rfl) _ hb4.lt (if_pos rfl))) ((hc0177 b4 hb4.lt).trans (if_pos rfl)) rfl rfl rfl) rfl hF106 ⟨hn106, M106, ⟨a106, c106, rfl, hr106⟩, hm106⟩
    exact Jv
   case fin19 =>
    intro w180 c182 x181 hc0183
    replace x181 := Bel.mono x181 (D' := fun g => g = b4) omC
    have z184 := x181.size
    replace hX := Bel.out hX x181 om2
    replace hXL53 := Bel.out hXL53 x181 om2
    replace hs := hs.keep x181 (fun h => by omega) (fun g h1 h2 h3 => by omega)
    refine Qk (Qk (Qk (Qk (Qk (Qk (Qk (Qk (Qk ?_))))))))
    refine Qk (Qk (Qk (Qk ?_)))
    refine ZE (fun v105 hv105 => ?_)
    obtain ⟨F105, hF105, u105, e105, rfl, hL105⟩ := hv105
    refine ZE (fun v91 hv91 => ?_)
    obtain ⟨F91, hF91, u91, e91, rfl, hL91⟩ := hv91
    refine ZE (fun v106 hv106 => ?_)
    obtain ⟨F106, hF106, hn106, M106, ⟨a106, c106, rfl, hr106⟩, hm106⟩ := hv106
    refine ZE (fun v107 hv107 => ?_)
    refine Qk ?_
    refine bindC_lk rfl (fun hst18 => ?_)
    refine QU ?_
    obtain ⟨-, hb4, -, F19, hF19, hn19, M19, ⟨a19, c19, rfl, hr19⟩, hm19⟩ := hst18
    replace hr19 := hr19.mono (F' := fun g => n4 ≤ g) (fun g _ h => hn19 g h)
    refine Qg (Qc ?_)
    refine Rr (mvI rfl) ?_
    refine Rr (Z1 rfl rfl omg) ?_
    refine Rr (asI rfl) ?_
    refine Qg ?_
    refine ⟨(k + 1, a19, c19, M19), ⟨sT, trivial⟩, oT, ⟨?_, hXL53, ?_⟩, ?_⟩
    ·exact ⟨by show k + 1 ≤ 8; omega, by show M19.length ≤ k + 1; omega⟩
    ·exact ⟨hb4, hs.up (by show _ ≤ 12 + 3 * (k + 1); omega), hr19⟩
    ·show 8 - (k + 1) < 8 - k; omega
  refine ZH ?_
  apply JA (β := False) (fun b => if b = b4 then 1 else 0) [peqC _, peqC _, peqC _, peqC _, peqC _, peqC _, peqC _, peqC _, peqC _, peqC _, peqC _, peqC _, peqC _, (postW (TupIs encA12 3 n4 (fun X => X.length ≤ M.length + 1))), (postW (TupIs encA12 3 n4 (fun X => X.length ≤ M.length + 1))), (postW (ListIs encA12 3 n4 (fun X => X.length ≤ M.length + 1))), (postAny), peqC _, (postSs 1 b4 38 (fun u => (stC 10 ((.slice a36 l36.length c36)) (.slice a30 (l28 ++ l29).length c30) 96#64 (.slice aL L.length cL) (u) (.slice none 0 0) (.slice none 0 0) (.slice none 0 0) (.slice none 0 0))) (ListIs encA12 3 n4 (fun X => X.length ≤ M.length + 1)))] [0, 0, 0, 0, 0, 0, 0, 0, 0, 0, 0, 0, 0, 0, 0, 0, 0, 0, 1] 19 Jz (by kernel_rfl) (by kernel_rfl) rfl ⟨Q4 _ _, Q4 _ _, Q4 _ _, Q4 _ _, Q4 _ _, Q4 _ _, Q4 _ _, Q4 _ _, Q4 _ _, Q4 _ _, Q4 _ _, Q4 _ _, Q4 _ _, (Jl (TupIs.keepS _ _ _ _)), (Jl (TupIs.keepS _ _ _ _)), (Jl (ListIs.keepS _ _ _ _)), (postAny_stable), Q4 _ _, (postSs_stable (ListIs.keepS _ _ _ _)), trivial⟩ ?ob19 ?fin19
  case ob19 =>
   refine Zb (fun w185 c187 x186 hc0188 hk189 => ?_) ?_
   ·replace x186 := Bel.mono x186 (D' := fun g => g = b4) omC
    have z190 := x186.size
    refine QU ?_
    exact ZL rfl (ZN underlying38 rfl sizeOf32 rfl)
   refine Zb (fun w191 c193 x192 hc0194 hk195 => ?_) ?_
   ·replace x192 := Bel.mono x192 (D' := fun g => g = b4) omC
    have z196 := x192.size
    have hb4 := hb4.blk (hk195 1 (by decide) (by kernel_rfl) _ hb4.lt (by first | (simp [colAt]; done) | (simp [colAt]; omega)))
    refine Qk (QU ?_)
    exact ZL rfl (ZB isAgg32 rfl (hb4.at.get 5 rfl))
   refine Zb (fun w197 c199 x198 hc0200 hk201 => ?_) ?_
   ·replace x198 := Bel.mono x198 (D' := fun g => g = b4) omC
    have z202 := x198.size
    refine QU ?_
    exact ZL rfl (mvI rfl)
   refine Zb (fun w203 c205 x204 hc0206 hk207 => ?_) ?_
   ·replace x204 := Bel.mono x204 (D' := fun g => g = b4) omC
    have z208 := x204.size
    refine QU ?_
    exact ZL rfl (ZN underlying38 rfl sizeOf29 rfl)
   refine Zb (fun w209 c211 x210 hc0212 hk213 => ?_) ?_
   ·replace x210 := Bel.mono x210 (D' := fun g => g = b4) omC
    have z214 := x210.size
    have hb4 := hb4.blk (hk213 1 (by decide) (by kernel_rfl) _ hb4.lt (by first | (simp [colAt]; done) | (simp [colAt]; omega)))
    refine Qk (QU ?_)
    exact ZL rfl (ZB isAgg29 rfl (hb4.at.get 1 rfl))
   refine Zb (fun w215 c217 x216 hc0218 hk219 => ?_) ?_
   ·replace x216 := Bel.mono x216 (D' := fun g => g = b4) omC
    have z220 := x216.size
    refine Qk (QU ?_)
    exact ZL rfl (Z0 underlying29 rfl)
   refine Zb (fun w221 c223 x222 hc0224 hk225 => ?_) ?_
   ·replace x222 := Bel.mono x222 (D' := fun g => g = b4) omC
    have z226 := x222.size
    refine Qk (Qk (QU ?_))
    exact ZL rfl (Jp (a := y81.toNat) (b := l36.length) rfl rfl (by omega) (by omega))
   refine Zb (fun w227 c229 x228 hc0230 hk231 => ?_) ?_
   ·replace x228 := Bel.mono x228 (D' := fun g => g = b4) omC
    have z232 := x228.size
    refine Qk (QU ?_)
    exact ZL rfl (Jr (p := 1) (b := y81.toNat % l36.length) rfl rfl (by have := Nat.mod_le y81.toNat l36.length; omega))
   refine Zb (fun w233 c235 x234 hc0236 hk237 => ?_) ?_
   ·replace x234 := Bel.mono x234 (D' := fun g => g = b4) omC
    have z238 := x234.size
    refine QU ?_
    exact ZL rfl (mvI rfl)
   refine Zb (fun w239 c241 x240 hc0242 hk243 => ?_) ?_
   ·replace x240 := Bel.mono x240 (D' := fun g => g = b4) omC
    have z244 := x240.size
    refine Qk (QU ?_)
    exact ZL rfl (Jp (a := y83.toNat) (b := 6) rfl rfl (by decide) (by omega))
   refine Zb (fun w245 c247 x246 hc0248 hk249 => ?_) ?_
   ·replace x246 := Bel.mono x246 (D' := fun g => g = b4) omC
    have z250 := x246.size
    refine Qk (QU ?_)
    exact ZL rfl (Jr (p := 1) (b := y83.toNat % 6) rfl rfl (by omega))
   refine Zb (fun w251 c253 x252 hc0254 hk255 => ?_) ?_
   ·replace x252 := Bel.mono x252 (D' := fun g => g = b4) omC
    have z256 := x252.size
    refine QU ?_
    exact ZL rfl (mvI rfl)
   refine Zb (fun w257 c259 x258 hc0260 hk261 => ?_) ?_
   ·replace x258 := Bel.mono x258 (D' := fun g => g = b4) omC
    have z262 := x258.size
    refine Qk (Qk (Qk (QU ?_)))
    exact ZL rfl (Z7 (cells := encA12 ⟨((1 + y81.toNat % l36.length : Nat) : Int), ((1 + y83.toNat % 6 : Nat) : Int), ((8 + y85.toNat % 12 : Nat) : Int)⟩) (vs := [(0, .int _ _), (1, .int _ _), (2, .int _ _)]) rfl (by kernel_rfl))
   refine Zb (fun w263 c265 x264 hc0266 hk267 => ?_) ?_
   ·replace x264 := Bel.mono x264 (D' := fun g => g = b4) omC
    have z268 := x264.size
    have hM := hM.keep x264 om3
    refine Qk (Qk (QU ?_))
    exact OpC_W (S := TupIs encA12 3 n4 (fun X => X.length ≤ M.length + 1)) rfl (ZW call42 rfl rfl) ((assign_ok aM cM _ M ⟨((1 + y81.toNat % l36.length : Nat) : Int), ((1 + y83.toNat % 6 : Nat) : Int), ((8 + y85.toNat % 12 : Nat) : Int)⟩ _ hM (by omega)).mono (fun v w2 ⟨⟨a, c, e, X, h1, h2, h3⟩, x⟩ => ⟨⟨_, e, h1, fun g hg => by have := hg.1; omega, X, h2.rd, h3⟩, x⟩))
   refine Zb (fun w269 c271 x270 hc0272 hk273 => ?_) ?_
   ·replace x270 := Bel.mono x270 (D' := fun g => g = b4) omC
    have z274 := x270.size
    refine ZE (fun v105 hv105 => ?_)
    obtain ⟨F105, hF105, u105, e105, rfl, hL105⟩ := hv105
    refine QU ?_
    exact OpC_vp rfl (Zt rfl) ⟨F105, hF105, u105, e105, rfl, hL105⟩
   refine Zb (fun w275 c277 x276 hc0278 hk279 => ?_) ?_
   ·replace x276 := Bel.mono x276 (D' := fun g => g = b4) omC
    have z280 := x276.size
    refine ZE (fun v91 hv91 => ?_)
    obtain ⟨F91, hF91, u91, e91, rfl, hL91⟩ := hv91
    refine QU ?_
    exact OpC_vp rfl (ZS rfl rfl) ⟨F91, hF91, hL91⟩
   refine Zb (fun w281 c283 x282 hc0284 hk285 => ?_) ?_
   ·replace x282 := Bel.mono x282 (D' := fun g => g = b4) omC
    have z286 := x282.size
    refine ZE (fun v91 hv91 => ?_)
    obtain ⟨F91, hF91, u91, e91, rfl, hL91⟩ := hv91
    refine QU ?_
    exact OpC_vp rfl (ZS rfl rfl) trivial
   refine Zb (fun w287 c289 x288 hc0290 hk291 => ?_) ?_
   ·replace x288 := Bel.mono x288 (D' := fun g => g = b4) omC
    have z292 := x288.size
    refine Qk (Qk (Qk (Qk (Qk (Qk (Qk (Qk (Qk ?_))))))))
    refine Qk (Qk (Qk (Qk ?_)))
    refine ZE (fun v105 hv105 => ?_)
    obtain ⟨F105, hF105, u105, e105, rfl, hL105⟩ := hv105
    refine ZE (fun v91 hv91 => ?_)
    obtain ⟨F91, hF91, u91, e91, rfl, hL91⟩ := hv91
    refine ZE (fun v106 hv106 => ?_)
    obtain ⟨F106, hF106, hn106, M106, ⟨a106, c106, rfl, hr106⟩, hm106⟩ := hv106
    refine QU ?_
    exact ZL rfl (ZN underlying38 rfl sizeOf32 rfl)
   refine Zb (fun w293 c295 x294 hc0296 hk297 => ?_) ?_
   ·replace x294 := Bel.mono x294 (D' := fun g => g = b4) omC
    have z298 := x294.size
    refine Qk ?_
    refine ZE (fun v106 hv106 => ?_)
    obtain ⟨F106, hF106, hn106, M106, ⟨a106, c106, rfl, hr106⟩, hm106⟩ := hv106
    refine ZE (fun v105 hv105 => ?_)
    obtain ⟨F105, hF105, u105, e105, rfl, hL105⟩ := hv105
    refine Qk (Qk (Qk (Qk (Qk (Qk (Qk (Qk (Qk ?_))))))))
    refine Qk (Qk (Qk (Qk ?_)))
    refine ZE (fun v105 hv105 => ?_)
    obtain ⟨F105, hF105, u105, e105, rfl, hL105⟩ := hv105
    refine ZE (fun v91 hv91 => ?_)
    obtain ⟨F91, hF91, u91, e91, rfl, hL91⟩ := hv91
    refine ZE (fun v106 hv106 => ?_)
    obtain ⟨F106, hF106, hn106, M106, ⟨a106, c106, rfl, hr106⟩, hm106⟩ := hv106
    refine QU ?_
    exact postSs_of (f := fun u => (stC 10 ((.slice a36 l36.length c36)) (.slice a30 (l28 ++ l29).length c30) 96#64 (.slice aL L.length cL) (u) (.slice none 0 0) (.slice none 0 0) (.slice none 0 0) (.slice none 0 0))) (u := .slice a106 M106.length c106) (ListIs.keepS _ _ _ _) (OpC_store (v := .slice _ _ _) (by decide) sizeOf32 rfl rfl (hb4.blk (hk297 1 (by decide) (by kernel_rfl) _ hb4.lt (if_pos rfl))) ((hc0296 b4 hb4.lt).trans (if_pos rfl)) rfl rfl rfl) rfl hF106 ⟨hn106, M106, ⟨a106, c106, rfl, hr106⟩, hm106⟩
   exact Jv
  case fin19 =>
   intro w299 c301 x300 hc0302
   replace x300 := Bel.mono x300 (D' := fun g => g = b4) omC
   have z303 := x300.size
   replace hX := Bel.out hX x300 om2
   replace hXL53 := Bel.out hXL53 x300 om2
   replace hs := hs.keep x300 (fun h => by omega) (fun g h1 h2 h3 => by omega)
   refine Qk (Qk (Qk (Qk (Qk (Qk (Qk (Qk (Qk ?_))))))))
   refine Qk (Qk (Qk (Qk ?_)))
   refine ZE (fun v105 hv105 => ?_)
   obtain ⟨F105, hF105, u105, e105, rfl, hL105⟩ := hv105
   refine ZE (fun v91 hv91 => ?_)
   obtain ⟨F91, hF91, u91, e91, rfl, hL91⟩ := hv91
   refine ZE (fun v106 hv106 => ?_)
   obtain ⟨F106, hF106, hn106, M106, ⟨a106, c106, rfl, hr106⟩, hm106⟩ := hv106
   refine ZE (fun v107 hv107 => ?_)
   refine Qk ?_
   refine bindC_lk rfl (fun hst18 => ?_)
   refine QU ?_
   obtain ⟨-, hb4, -, F19, hF19, hn19, M19, ⟨a19, c19, rfl, hr19⟩, hm19⟩ := hst18
   replace hr19 := hr19.mono (F' := fun g => n4 ≤ g) (fun g _ h => hn19 g h)
   refine Qg (Qc ?_)
   refine Rr (mvI rfl) ?_
   refine Rr (Z1 rfl rfl omg) ?_
   refine Rr (asI rfl) ?_
   refine Qg ?_
   refine ⟨(k + 1, a19, c19, M19), ⟨sT, trivial⟩, oT, ⟨?_, hXL53, ?_⟩, ?_⟩
   ·exact ⟨by show k + 1 ≤ 8; omega, by show M19.length ≤ k + 1; omega⟩
   ·exact ⟨hb4, hs.up (by show _ ≤ 12 + 3 * (k + 1); omega), hr19⟩
   ·show 8 - (k + 1) < 8 - k; omega
 skip
 refine Z4 (ZX (QH (Qc ?_)))
 refine Rr (Zt (v := .pointer _) rfl) ?_
 refine ZC rfl (ZK call40 rfl) (Ok.mono (JR b27 (fun g => g < w.heap.size) _ _ hs (fun g h => by omega) (by omega)) ?_)
 rintro _ w304 ⟨⟨y110, rfl⟩, hs, x305⟩
 have z306 := x305.size
 replace hX := Bel.out hX x305 om2
 replace hb2 := hb2.keep x305 om1
 replace hL := hL.keep x305 om3
 replace hb4 := hb4.keep x305 om1
 replace hM := hM.keep x305 om3
 have hy110 := y110.toNat_lt
 replace hs := hs.up (M := 40) (by omega)
 refine Rr (Jp (a := y110.toNat) (b := 5) rfl rfl (by decide) (by omega)) ?_
 refine Rr (asI rfl) ?_
 refine Qg (QH (QH (Qc ?_)))
 refine Rr Zi ?_
 refine Qg (ZM ?_)
 refine Jk (α := Nat × Option Addr × Nat × List Ent) [(14, 17), (112, 136)] (fun q => [(14, .int .i64 (q.1 : Int))]) (fun q w' => (q.1 ≤ 5 ∧ OkG q.2.2.2) ∧ Bel False (fun g => g = b4 ∨ g = b27) w304 w' ∧ (Box w' b4 38 (stC 10 ((.slice a36 l36.length c36)) (.slice a30 (l28 ++ l29).length c30) 96#64 (.slice aL L.length cL) (.slice aM M.length cM) (.slice q.2.1 q.2.2.2.length q.2.2.1) (.slice none 0 0) (.slice none 0 0) (.slice none 0 0)) ∧ Byt (fun g => g < w.heap.size) w' b27 100 (40 + 2 * q.1) ∧ Sl encE 4 (fun g => n4 ≤ g) w' q.2.1 q.2.2.1 q.2.2.2)) (fun q => 5 - q.1) (0, none, 0, []) ⟨rfl, trivial⟩ ⟨⟨Nat.zero_le _, OkG.nil⟩, Bel.refl _ _, ⟨hb4, hs.up (by first | decide | (show _ ≤ _; omega)), Sl.none⟩⟩ ?_
 rintro ⟨k, aG, cG, G⟩ fb309 w308 ⟨⟨hk, hGk⟩, hXL307, ⟨hb4, hs, hG⟩⟩
 dsimp only at *
 have z310 := Bel.size hXL307
 replace hX := Bel.out hX hXL307 om2
 replace hb2 := hb2.keep hXL307 om1
 replace hL := hL.keep hXL307 om3
 replace hM := hM.keep hXL307 om3
 refine QH (QH (Qc ?_))
 refine Rr (mvI rfl) ?_
 refine Rr (mvI rfl) ?_
 refine Rr (Z5 rfl rfl) ?_
 refine Qg ?_
 refine ZG rfl (fun hc5 => ?_) (fun hc5 => ?_)
 ·have hk5 : k < y110.toNat % 5 := by have := dcT hc5; omega
  refine ZH (QH (ZM (QH (Qc ?_))))
  refine Rr (Zt (v := .pointer _) rfl) ?_
  refine ZC rfl (ZK call40 rfl) (Ok.mono (JR b27 (fun g => g < w.heap.size) _ _ hs (fun g h => by omega) (by omega)) ?_)
  rintro _ w311 ⟨⟨y118, rfl⟩, hs, x312⟩
  have z313 := x312.size
  replace hX := Bel.out hX x312 om2
  replace hXL307 := Bel.out hXL307 x312 om2
  replace hb4 := hb4.keep x312 om1
  replace hG := hG.keep x312 om3
  have hy118 := y118.toNat_lt
  refine Rr (asI rfl) ?_
  refine Qg (QH ?_)
  obtain ⟨n7, hn7⟩ : ∃ n, n = w311.heap.size := ⟨_, rfl⟩
  replace hG := hG.mono (F' := fun g => n4 ≤ g ∧ g < n7) (fun g h1 h2 => ⟨h2, by omega⟩)
  apply JA (β := False) (fun b => if b = b27 then 1 else 0) [peqC _, peqC _, peqC _, peqC _, peqC _, peqC _, (postByt 1 (fun g => g < w.heap.size) b27 100 (40 + 2 * k + 1 + 1) (fun F v w => ∃ x : UInt8, v = .int .i64 (x.toNat : Int))), (postP (fun v => ∃ x : UInt8, v = .int .u8 (x.toNat : Int))), (postP (fun v => ∃ p : Perm, v = .agg (encP p).toArray ∧ p.ok)), (postP (fun v => ∃ p : Perm, v = .agg (encE ⟨((1 + y118.toNat % 4 : Nat) : Int), p⟩).toArray ∧ p.ok)), (postW (TupIs encE 4 n4 OkG)), (postW (TupIs encE 4 n4 OkG)), (postW (ListIs encE 4 n4 OkG)), (postP (fun v => ∃ n, v = .int .i64 n)), (postW (ListIs encE 4 n4 OkG))] [0, 0, 0, 0, 0, 0, 1, 0, 0, 0, 0, 0, 0, 0, 0] 15 Jz (by kernel_rfl) (by kernel_rfl) rfl ⟨Q4 _ _, Q4 _ _, Q4 _ _, Q4 _ _, Q4 _ _, Q4 _ _, (postByt_stable (fun _ _ _ _ _ _ _ _ h => h)), (J2), (J2), (J2), (Jl (TupIs.keepS _ _ _ _)), (Jl (TupIs.keepS _ _ _ _)), (Jl (ListIs.keepS _ _ _ _)), (J2), (Jl (ListIs.keepS _ _ _ _)), trivial⟩ ?ob25 ?fin25
  case ob25 =>
   refine Zb (fun w314 c316 x315 hc0317 hk318 => ?_) ?_
   ·replace x315 := Bel.mono x315 (D' := fun g => g = b27) omC
    have z319 := x315.size
    refine QU ?_
    exact ZL rfl (ZN underlying38 rfl sizeOf33 rfl)
   refine Zb (fun w320 c322 x321 hc0323 hk324 => ?_) ?_
   ·replace x321 := Bel.mono x321 (D' := fun g => g = b27) omC
    have z325 := x321.size
    have hb4 := hb4.keep x321 om1
    refine Qk (QU ?_)
    exact ZL rfl (ZB isAgg33 rfl (hb4.at.get 6 rfl))
   refine Zb (fun w326 c328 x327 hc0329 hk330 => ?_) ?_
   ·replace x327 := Bel.mono x327 (D' := fun g => g = b27) omC
    have z331 := x327.size
    refine QU ?_
    exact ZL rfl (mvI rfl)
   refine Zb (fun w332 c334 x333 hc0335 hk336 => ?_) ?_
   ·replace x333 := Bel.mono x333 (D' := fun g => g = b27) omC
    have z337 := x333.size
    refine Qk (QU ?_)
    exact ZL rfl (Jp (a := y118.toNat) (b := 4) rfl rfl (by decide) (by omega))
   refine Zb (fun w338 c340 x339 hc0341 hk342 => ?_) ?_
   ·replace x339 := Bel.mono x339 (D' := fun g => g = b27) omC
    have z343 := x339.size
    refine Qk (QU ?_)
    exact ZL rfl (Jr (p := 1) (b := y118.toNat % 4) rfl rfl (by omega))
   refine Zb (fun w344 c346 x345 hc0347 hk348 => ?_) ?_
   ·replace x345 := Bel.mono x345 (D' := fun g => g = b27) omC
    have z349 := x345.size
    refine QU ?_
    exact ZL rfl (Zt (v := .pointer _) rfl)
   refine Zb (fun w350 c352 x351 hc0353 hk354 => ?_) ?_
   ·replace x351 := Bel.mono x351 (D' := fun g => g = b27) omC
    have z355 := x351.size
    refine Qk (QU ?_)
    exact OpC_byt (by decide) (Nat.lt_of_lt_of_le hs.lt (Bel.size x351)) ((hc0353 b27 hs.lt).trans (if_pos rfl)) (fun g hg => ⟨by omega, (hc0353 g (by omega)).trans (if_neg (by omega))⟩) rfl (ZK call40 rfl) ((JR b27 (fun g => g < w.heap.size) _ _ (hs.blk (hk354 1 (by decide) (by kernel_rfl) _ hs.lt (if_pos rfl)) x351 (fun g h1 h2 h3 => by omega)) (fun g h => by omega) (by omega)).mono (fun v w2 h => h))
   refine Zb (fun w356 c358 x357 hc0359 hk360 => ?_) ?_
   ·replace x357 := Bel.mono x357 (D' := fun g => g = b27) omC
    have z361 := x357.size
    refine ZE (fun v126 hv126 => ?_)
    obtain ⟨⟨F126, hF126, y126, rfl⟩, hs126, hc126, hG126⟩ := hv126
    have hy126 := y126.toNat_lt
    refine QU ?_
    exact OpC_vp rfl (JJ underlying3 underlying5 rfl (wrap_i8 _)) ⟨y126, rfl⟩
   refine Zb (fun w362 c364 x363 hc0365 hk366 => ?_) ?_
   ·replace x363 := Bel.mono x363 (D' := fun g => g = b27) omC
    have z367 := x363.size
    refine ZE (fun v127 hv127 => ?_)
    obtain ⟨y127, rfl⟩ := hv127
    refine ZE (fun v126 hv126 => ?_)
    obtain ⟨⟨F126, hF126, y126, rfl⟩, hs126, hc126, hG126⟩ := hv126
    have hy126 := y126.toNat_lt
    refine QU ?_
    exact OpC_callP rfl (ZK call38 rfl) ((perm24_ok _ y127).mono (fun v w2 ⟨a, x⟩ => ⟨⟨_, a, J0 _⟩, x⟩))
   refine Zb (fun w368 c370 x369 hc0371 hk372 => ?_) ?_
   ·replace x369 := Bel.mono x369 (D' := fun g => g = b27) omC
    have z373 := x369.size
    refine Qk ?_
    refine ZE (fun v128 hv128 => ?_)
    obtain ⟨p128, rfl, hp128⟩ := hv128
    refine QU ?_
    exact OpC_vp rfl (Z7 (cells := encE ⟨((1 + y118.toNat % 4 : Nat) : Int), p128⟩) (vs := [(0, .int _ _), (1, .agg _)]) rfl (by kernel_rfl)) ⟨p128, rfl, hp128⟩
   refine Zb (fun w374 c376 x375 hc0377 hk378 => ?_) ?_
   ·replace x375 := Bel.mono x375 (D' := fun g => g = b27) omC
    have z379 := x375.size
    have hG := hG.keep x375 om3
    refine Qk ?_
    refine ZE (fun v129 hv129 => ?_)
    obtain ⟨p129, rfl, hp129⟩ := hv129
    refine ZE (fun v128 hv128 => ?_)
    obtain ⟨p128, rfl, hp128⟩ := hv128
    refine QU ?_
    exact OpC_W2 (S := TupIs encE 4 n4 OkG) (fun g => n4 ≤ g ∧ g < n7) (fun b hb => ⟨by omega, (hc0377 b (by omega)).trans (if_neg (by omega))⟩) rfl (ZW call43 rfl rfl) ((r13grant_ok _ _ G _ hG.rd hGk _ hp129).mono (fun v w2 ⟨⟨p, h0, h1⟩, x⟩ => ⟨⟨p, _, h0, fun g hg => hg.elim And.left (fun h => by have := h.1; omega), _, h1, hGk.grant hp129⟩, x⟩))
   refine Zb (fun w380 c382 x381 hc0383 hk384 => ?_) ?_
   ·replace x381 := Bel.mono x381 (D' := fun g => g = b27) omC
    have z385 := x381.size
    refine ZE (fun v130 hv130 => ?_)
    obtain ⟨F130, hF130, u130, e130, rfl, hL130⟩ := hv130
    refine QU ?_
    exact OpC_vp rfl (Zt rfl) ⟨F130, hF130, u130, e130, rfl, hL130⟩
   refine Zb (fun w386 c388 x387 hc0389 hk390 => ?_) ?_
   ·replace x387 := Bel.mono x387 (D' := fun g => g = b27) omC
    have z391 := x387.size
    refine ZE (fun v119 hv119 => ?_)
    obtain ⟨F119, hF119, u119, e119, rfl, hL119⟩ := hv119
    refine QU ?_
    exact OpC_vp rfl (ZS rfl rfl) ⟨F119, hF119, hL119⟩
   refine Zb (fun w392 c394 x393 hc0395 hk396 => ?_) ?_
   ·replace x393 := Bel.mono x393 (D' := fun g => g = b27) omC
    have z397 := x393.size
    refine ZE (fun v119 hv119 => ?_)
    obtain ⟨F119, hF119, u119, e119, rfl, hL119⟩ := hv119
    refine QU ?_
    exact OpC_vp rfl (ZS rfl rfl) ⟨_, rfl⟩
   refine Zb (fun w398 c400 x399 hc0401 hk402 => ?_) ?_
   ·replace x399 := Bel.mono x399 (D' := fun g => g = b27) omC
    have z403 := x399.size
    refine ZE (fun v131 hv131 => ?_)
    obtain ⟨F131, hF131, hn131, M131, ⟨a131, c131, rfl, hr131⟩, hm131⟩ := hv131
    refine ZE (fun v130 hv130 => ?_)
    obtain ⟨F130, hF130, u130, e130, rfl, hL130⟩ := hv130
    refine Qk (Qk (Qk (Qk (Qk (Qk ?_)))))
    refine ZE (fun v126 hv126 => ?_)
    obtain ⟨⟨F126, hF126, y126, rfl⟩, hs126, hc126, hG126⟩ := hv126
    have hy126 := y126.toNat_lt
    refine ZE (fun v127 hv127 => ?_)
    obtain ⟨y127, rfl⟩ := hv127
    refine ZE (fun v128 hv128 => ?_)
    obtain ⟨p128, rfl, hp128⟩ := hv128
    refine ZE (fun v129 hv129 => ?_)
    obtain ⟨p129, rfl, hp129⟩ := hv129
    refine ZE (fun v130 hv130 => ?_)
    obtain ⟨F130, hF130, u130, e130, rfl, hL130⟩ := hv130
    refine ZE (fun v119 hv119 => ?_)
    obtain ⟨F119, hF119, u119, e119, rfl, hL119⟩ := hv119
    refine ZE (fun v131 hv131 => ?_)
    obtain ⟨F131, hF131, hn131, M131, ⟨a131, c131, rfl, hr131⟩, hm131⟩ := hv131
    refine QU ?_
    exact OpC_vp rfl (ZD rfl) ⟨F131, hF131, hn131, M131, ⟨a131, c131, rfl, hr131⟩, hm131⟩
   exact Jv
  case fin25 =>
   intro w404 c406 x405 hc0407
   replace x405 := Bel.mono x405 (D' := fun g => g = b27) omC
   have z408 := x405.size
   replace hX := Bel.out hX x405 om2
   replace hXL307 := Bel.out hXL307 x405 om2
   replace hb4 := hb4.keep x405 om1
   replace hG := hG.keep x405 om3
   refine Qk (Qk (Qk (Qk (Qk (Qk ?_)))))
   refine ZE (fun v126 hv126 => ?_)
   obtain ⟨⟨F126, hF126, y126, rfl⟩, hs126, hc126, hG126⟩ := hv126
   have hy126 := y126.toNat_lt
   refine ZE (fun v127 hv127 => ?_)
   obtain ⟨y127, rfl⟩ := hv127
   refine ZE (fun v128 hv128 => ?_)
   obtain ⟨p128, rfl, hp128⟩ := hv128
   refine ZE (fun v129 hv129 => ?_)
   obtain ⟨p129, rfl, hp129⟩ := hv129
   refine ZE (fun v130 hv130 => ?_)
   obtain ⟨F130, hF130, u130, e130, rfl, hL130⟩ := hv130
   refine ZE (fun v119 hv119 => ?_)
   obtain ⟨F119, hF119, u119, e119, rfl, hL119⟩ := hv119
   refine ZE (fun v131 hv131 => ?_)
   obtain ⟨F131, hF131, hn131, M131, ⟨a131, c131, rfl, hr131⟩, hm131⟩ := hv131
   refine ZE (fun v132 hv132 => ?_)
   obtain ⟨e132, rfl⟩ := hv132
   refine ZE (fun v16 hv16 => ?_)
   refine QU ?_
   have hs := hs126
   obtain ⟨F16, hF16, hn16, M16, ⟨a16, c16, rfl, hr16⟩, hm16⟩ := hv16
   replace hr16 := hr16.mono (F' := fun g => n4 ≤ g) (fun g _ h => hn16 g h)
   refine Rr (asI rfl) ?_
   refine Qg (QH (Qc ?_))
   refine Rr (mvI rfl) ?_
   refine Rr (ZZ rfl rfl) ?_
   refine Qg ?_
   refine ZG rfl (fun hc6 => ?_) (fun hc6 => ?_)
   ·refine Qc ?_
    refine Rr (mvS rfl) ?_
    refine Rr (ZN underlying38 rfl sizeOf33 rfl) ?_
    refine Jb (v := .slice _ _ _) rfl sizeOf33 rfl rfl hb4 rfl rfl rfl ?_
    intro w409 c410 hb4
    change Box _ _ _ ([.int _ _, .slice _ _ _, .slice _ _ _, .int _ _, .slice _ _ _, .slice _ _ _, .slice _ _ _, .slice _ _ _, .slice _ _ _, .slice _ _ _]) at hb4
    have z411 := Bel.size c410
    replace hX := Bel.out hX c410 om2
    replace hXL307 := Bel.out hXL307 c410 om2
    replace hs := hs.keep c410 (fun h => by omega) (fun g h1 h2 h3 => by omega)
    replace hr16 := hr16.keep c410 om3
    refine Qg (Qc ?_)
    refine Rr (mvI rfl) ?_
    refine Rr (Z1 rfl rfl omg) ?_
    refine Rr (asI rfl) ?_
    refine Qg ?_
    refine ⟨(k + 1, a16, c16, M16), ⟨sT, trivial⟩, oT, ⟨?_, hXL307, ?_⟩, ?_⟩
    ·exact ⟨by show k + 1 ≤ 5; omega, hm16⟩
    ·exact ⟨hb4, hs.up (by show _ ≤ 40 + 2 * (k + 1); omega), hr16⟩
    ·show 5 - (k + 1) < 5 - k; omega
   refine ZH (Qc ?_)
   refine Rr (mvI rfl) ?_
   refine Rr (Z1 rfl rfl omg) ?_
   refine Rr (asI rfl) ?_
   refine Qg ?_
   refine ⟨(k + 1, aG, cG, G), ⟨sT, trivial⟩, oT, ⟨?_, hXL307, ?_⟩, ?_⟩
   ·exact ⟨by show k + 1 ≤ 5; omega, hGk⟩
   ·exact ⟨hb4, hs.up (by show _ ≤ 40 + 2 * (k + 1); omega), hG.mono (fun g _ h => h.1)⟩
   ·show 5 - (k + 1) < 5 - k; omega
 skip
 refine Z4 (ZX (QH (Qc ?_)))
 refine Rr (Zt (v := .pointer _) rfl) ?_
 refine Rr (Zt (v := .pointer _) rfl) ?_
 refine ZC rfl (ZK call40 rfl) (Ok.mono (JR b27 (fun g => g < w.heap.size) _ _ hs (fun g h => by omega) (by omega)) ?_)
 rintro _ w412 ⟨⟨y139, rfl⟩, hs, x413⟩
 have z414 := x413.size
 replace hX := Bel.out hX x413 om2
 replace hb2 := hb2.keep x413 om1
 replace hL := hL.keep x413 om3
 replace hM := hM.keep x413 om3
 replace hb4 := hb4.keep x413 om1
 replace hG := hG.keep x413 om3
 have hy139 := y139.toNat_lt
 refine Rr (Jp (a := y139.toNat) (b := 6) rfl rfl (by decide) (by omega)) ?_
 refine Rr (o_mulN (a := 8) (b := y139.toNat % 6) rfl rfl (by omega)) ?_
 refine ZC rfl (ZW call45 rfl rfl) (Ok.mono (take24_ok b27 (fun g => g < w.heap.size) _ _ hs (fun g h => by omega) (8 * (y139.toNat % 6)) (by omega)) ?_)
 rintro v142 w415 ⟨⟨l142, hown142, hl142⟩, hs, x416⟩
 have z417 := x416.size
 replace hX := Bel.out hX x416 om2
 replace hb2 := hb2.keep x416 om1
 replace hL := hL.keep x416 om3
 replace hM := hM.keep x416 om3
 replace hb4 := hb4.keep x416 om1
 replace hG := hG.keep x416 om3
 obtain ⟨a142, c142, hv142, hs142⟩ := hown142.sl Z6
 subst hv142
 refine Jh (vs := [.int _ _, .int _ _, .int _ _, .int _ _]) (([1, 2, 3, 4] : List Int)) rfl Ye el_int rfl rfl ⟨rfl, ⟨rfl, ⟨rfl, ⟨rfl, trivial⟩⟩⟩⟩ rfl rfl rfl rfl ?_
 intro a143 w418 x419 hown143
 have z420 := x419.size
 replace hX := hX.ex x419
 replace hb2 := hb2.ext x419
 replace hL := hL.ext x419
 replace hM := hM.ext x419
 replace hb4 := hb4.ext x419
 replace hs := hs.ext x419
 replace hG := hG.ext x419
 replace hs142 := hs142.ext x419
 replace hown143 := hown143.mono (D' := fun g => w.heap.size ≤ g) (fun g h1 h2 => by omega)
 refine Jh (vs := [.int _ _, .int _ _]) (([5, 6] : List Int)) rfl Ye el_int rfl rfl ⟨rfl, ⟨rfl, trivial⟩⟩ rfl rfl rfl rfl ?_
 intro a144 w421 x422 hown144
 have z423 := x422.size
 replace hX := hX.ex x422
 replace hb2 := hb2.ext x422
 replace hL := hL.ext x422
 replace hM := hM.ext x422
 replace hb4 := hb4.ext x422
 replace hs := hs.ext x422
 replace hG := hG.ext x422
 replace hs142 := hs142.ext x422
 replace hown143 := hown143.ext x422
 replace hown144 := hown144.mono (D' := fun g => w.heap.size ≤ g) (fun g h1 h2 => by omega)
 refine ZC rfl (JH call44 rfl rfl rfl) (Ok.mono (make23_ok a142 c142 _ l142 a143 4 [1, 2, 3, 4] a144 2 [5, 6] _ hs142.top (hown143.slA Ye).top (hown144.slA Ye).top (by omega) (by decide) (by decide) (by decide)) ?_)
 rintro _ w424 ⟨a145, n145, c145, rfl, x425⟩
 have z426 := x425.size
 replace hX := hX.ex x425
 replace hb2 := hb2.ext x425
 replace hL := hL.ext x425
 replace hM := hM.ext x425
 replace hb4 := hb4.ext x425
 replace hs := hs.ext x425
 replace hG := hG.ext x425
 refine Rr (ZN underlying38 rfl sizeOf34 rfl) ?_
 refine Jb (v := .slice _ _ _) rfl sizeOf34 rfl rfl hb4 rfl rfl rfl ?_
 intro w427 c428 hb4
 change Box _ _ _ ([.int _ _, .slice _ _ _, .slice _ _ _, .int _ _, .slice _ _ _, .slice _ _ _, .slice _ _ _, .slice _ _ _, .slice _ _ _, .slice _ _ _]) at hb4
 have z429 := Bel.size c428
 replace hX := Bel.out hX c428 om2
 replace hb2 := hb2.keep c428 om1
 replace hL := hL.keep c428 om3
 replace hM := hM.keep c428 om3
 replace hs := hs.keep c428 (fun h => by omega) (fun g h1 h2 h3 => by omega)
 replace hG := hG.keep c428 om3
 refine Qg (QH (Qc ?_))
 refine Rr (Zt (v := .pointer _) rfl) ?_
 refine ZC rfl (ZK call40 rfl) (Ok.mono (JR b27 (fun g => g < w.heap.size) _ _ hs (fun g h => by omega) (by omega)) ?_)
 rintro _ w430 ⟨⟨y148, rfl⟩, hs, x431⟩
 have z432 := x431.size
 replace hX := Bel.out hX x431 om2
 replace hb2 := hb2.keep x431 om1
 replace hL := hL.keep x431 om3
 replace hM := hM.keep x431 om3
 replace hb4 := hb4.keep x431 om1
 replace hG := hG.keep x431 om3
 have hy148 := y148.toNat_lt
 replace hs := hs.up (M := 100) (by omega)
 refine Rr (Jp (a := y148.toNat) (b := 4) rfl rfl (by decide) (by omega)) ?_
 refine Rr (asI rfl) ?_
 refine Qg (QH (QH (Qc ?_)))
 refine Rr Zi ?_
 refine Qg (ZM ?_)
 obtain ⟨n6, hn6⟩ : ∃ n, n = w430.heap.size := ⟨_, rfl⟩
 replace hL := hL.mono (F' := fun g => n4 ≤ g ∧ g < n6) (fun g h1 h2 => ⟨by omega, by omega⟩)
 replace hM := hM.mono (F' := fun g => n4 ≤ g ∧ g < n6) (fun g h1 h2 => ⟨by omega, by omega⟩)
 replace hG := hG.mono (F' := fun g => n4 ≤ g ∧ g < n6) (fun g h1 h2 => ⟨by omega, by omega⟩)
 refine Jk (α := Nat × Option Addr × Nat × List C18) [(18, 20), (150, 185)] (fun q => [(18, .int .i64 (q.1 : Int))]) (fun q w' => (q.1 ≤ 4 ∧ q.2.2.2.length ≤ q.1) ∧ Bel False (fun g => g = b4 ∨ g = b27 ∨ n6 ≤ g) w430 w' ∧ (Box w' b4 38 (stC 10 ((.slice a36 l36.length c36)) (.slice a30 (l28 ++ l29).length c30) 96#64 (.slice aL L.length cL) (.slice aM M.length cM) (.slice aG G.length cG) (.slice a145 n145 c145) (.slice q.2.1 q.2.2.2.length q.2.2.1) (.slice none 0 0)) ∧ Byt (fun g => g < w.heap.size) w' b27 100 (100 + 7 * q.1) ∧ Own encC18 7 123 (fun g => n6 ≤ g) w' (.slice q.2.1 q.2.2.2.length q.2.2.1) q.2.2.2)) (fun q => 4 - q.1) (0, none, 0, []) ⟨rfl, trivial⟩ ⟨⟨Nat.zero_le _, Nat.le_refl _⟩, Bel.refl _ _, ⟨hb4, hs.up (by first | decide | (show _ ≤ _; omega)), Own.nil _ _⟩⟩ ?_
 rintro ⟨k, aC, cC, C⟩ fb435 w434 ⟨⟨hk, hCl⟩, hXL433, ⟨hb4, hs, hC⟩⟩
 dsimp only at *
 have z436 := Bel.size hXL433
 replace hX := Bel.out hX hXL433 om2
 replace hb2 := hb2.keep hXL433 om1
 replace hL := hL.keep hXL433 om3
 replace hM := hM.keep hXL433 om3
 replace hG := hG.keep hXL433 om3
 refine QH (QH (Qc ?_))
 refine Rr (mvI rfl) ?_
 refine Rr (mvI rfl) ?_
 refine Rr (Z5 rfl rfl) ?_
 refine Qg ?_
 refine ZG rfl (fun hc7 => ?_) (fun hc7 => ?_)
 ·have hk4 : k < y148.toNat % 4 := by have := dcT hc7; omega
  refine ZH (QH (ZM (QH (Qc ?_))))
  refine Rr (Zt (v := .pointer _) rfl) ?_
  refine ZC rfl (ZK call40 rfl) (Ok.mono (JR b27 (fun g => g < w.heap.size) _ _ hs (fun g h => by omega) (by omega)) ?_)
  rintro _ w437 ⟨⟨y156, rfl⟩, hs, x438⟩
  have z439 := x438.size
  replace hX := Bel.out hX x438 om2
  replace hXL433 := Bel.out hXL433 x438 om2
  replace hb4 := hb4.keep x438 om1
  replace hC := hC.keepD x438 om3
  have hy156 := y156.toNat_lt
  refine Rr (asI rfl) ?_
  refine Qg (QH (Qc ?_))
  refine Rr (mvI rfl) ?_
  refine Rr (Jp (a := y156.toNat) (b := 2) rfl rfl (by decide) (by omega)) ?_
  refine Rr (ZZ rfl rfl) ?_
  refine Rr (mvI rfl) ?_
  refine Rr (o_quoN (a := y156.toNat) (b := 2) rfl rfl (by decide) (by omega)) ?_
  refine Rr (Jp (a := y156.toNat / 2) (b := 3) rfl rfl (by decide) (by omega)) ?_
  refine Rr (Jr (p := 1) (b := y156.toNat / 2 % 3) rfl rfl (by omega)) ?_
  refine Rr (mvI rfl) ?_
  refine Rr (Jr (p := k) (b := 1) rfl rfl (by omega)) ?_
  refine ZC rfl (ZK call46 rfl) (Ok.mono (names18_ok (k + 1) (by omega) _) ?_)
  rintro v166 w440 ⟨⟨l166, hown166, hl166⟩, x441⟩
  have z442 := x441.size
  replace hX := hX.ex x441
  replace hXL433 := Bel.ex hXL433 x441
  replace hb4 := hb4.ext x441
  replace hs := hs.ext x441
  replace hC := hC.ext x441
  replace hown166 := hown166.mono (D' := fun g => g = b4 ∨ g = b27 ∨ n6 ≤ g) (fun g h1 h2 => by omega)
  obtain ⟨a166, c166, hv166, -⟩ := hown166.sl Jy
  subst hv166
  refine Rr (mvI rfl) ?_
  refine Rr (o_iaO (i := k) underlying29 sizeOf9 hown166 rfl rfl (by omega)) ?_
  refine Rr (Yf isAgg9 (hown166.slA Jy) rfl rfl (Jw [] (by omega)) rfl) ?_
  refine Rr (Z7 (cells := encC18 ⟨((((y156.toNat % 2 : Nat) : Int)) == 1), ((1 + y156.toNat / 2 % 3 : Nat) : Int), l166.getD k [], ⟨0, 0, none, 0, 0, none, 0, 0⟩⟩) (vs := [(0, .bool _), (1, .int _ _), (2, str _)]) rfl (by kernel_rfl)) ?_
  refine Z8 rfl rfl zeroValue123 rfl sizeOf123 (fun _ => rfl) rfl rfl ?_
  intro b20 w443 x444 hge20 hb20
  replace hC := hC.mono (D' := fun g => n6 ≤ g ∧ g ≠ b20) (fun g h1 h2 => by omega)
  have hlt20 := hb20.lt
  change Box _ _ _ (encC18 _) at hb20
  have z445 := x444.size
  replace hX := hX.ex x444
  replace hXL433 := Bel.ex hXL433 x444
  replace hb4 := hb4.ext x444
  replace hs := hs.ext x444
  replace hC := hC.ext x444
  refine Qg (QH (QH (Qc ?_)))
  refine Rr (mvI rfl) ?_
  refine Rr (o_geq rfl rfl) ?_
  refine Qg ?_
  refine ZG rfl (fun hc8 => ?_) (fun hc8 => ?_)
  ·refine Qc ?_
   refine Rr (ZN underlying123 rfl sizeOf3 rfl) ?_
   refine Jb (v := .int _ _) rfl sizeOf3 rfl rfl hb20 rfl rfl rfl ?_
   intro w446 c447 hb20
   change Box _ _ _ ([.bool _, .int _ _, str _, .int _ _, .int _ _, .slice _ _ _, .slice _ _ _]) at hb20
   have z448 := Bel.size c447
   replace hX := Bel.out hX c447 om2
   replace hXL433 := Bel.out hXL433 c447 om2
   replace hb4 := hb4.keep c447 om1
   replace hs := hs.keep c447 (fun h => by omega) (fun g h1 h2 h3 => by omega)
   replace hC := hC.keepD c447 om3
   refine Qg (QH ?_)
   apply JA (β := False) (fun b => if b = b27 then 1 else 0) [peqC _, (postByt 1 (fun g => g < w.heap.size) b27 100 (100 + 7 * k + 1 + 6) (fun F v w => ∃ X : List UInt8, Own encB 1 5 F w v X ∧ X.length = 6)), peqC _, peqC _, (postP (fun v => ∃ f : F18, v = .agg (encF18 f).toArray)), peqC _] [0, 1, 0, 0, 0, 0] 6 Jz (by kernel_rfl) (by kernel_rfl) rfl ⟨Q4 _ _, (postByt_stable (Own.keepS1 _ _ _ _)), Q4 _ _, Q4 _ _, (J2), Q4 _ _, trivial⟩ ?ob37 ?fin37
   case ob37 =>
    refine Zb (fun w449 c451 x450 hc0452 hk453 => ?_) ?_
    ·replace x450 := Bel.mono x450 (D' := fun g => g = b27) omC
     have z454 := x450.size
     refine QU ?_
     exact ZL rfl (Zt (v := .pointer _) rfl)
    refine Zb (fun w455 c457 x456 hc0458 hk459 => ?_) ?_
    ·replace x456 := Bel.mono x456 (D' := fun g => g = b27) omC
     have z460 := x456.size
     refine Qk (QU ?_)
     exact OpC_byt (by decide) (Nat.lt_of_lt_of_le hs.lt (Bel.size x456)) ((hc0458 b27 hs.lt).trans (if_pos rfl)) (fun g hg => ⟨by omega, (hc0458 g (by omega)).trans (if_neg (by omega))⟩) rfl (ZW call45 rfl rfl) ((take24_ok b27 (fun g => g < w.heap.size) _ _ (hs.blk (hk459 1 (by decide) (by kernel_rfl) _ hs.lt (if_pos rfl)) x456 (fun g h1 h2 h3 => by omega)) (fun g h => by omega) 6 (by omega)).mono (fun v w2 h => h))
    refine Zb (fun w461 c463 x462 hc0464 hk465 => ?_) ?_
    ·replace x462 := Bel.mono x462 (D' := fun g => g = b27) omC
     have z466 := x462.size
     refine QU ?_
     exact ZL rfl (ZN underlying123 rfl sizeOf3 rfl)
    refine Zb (fun w467 c469 x468 hc0470 hk471 => ?_) ?_
    ·replace x468 := Bel.mono x468 (D' := fun g => g = b27) omC
     have z472 := x468.size
     have hb20 := hb20.keep x468 om1
     refine Qk (QU ?_)
     exact ZL rfl (ZB isAgg3 rfl (hb20.at.get 1 rfl))
    refine Zb (fun w473 c475 x474 hc0476 hk477 => ?_) ?_
    ·replace x474 := Bel.mono x474 (D' := fun g => g = b27) omC
     have z478 := x474.size
     refine ZE (fun v175 hv175 => ?_)
     obtain ⟨⟨F175, hF175, l175, hown175, hl175⟩, hs175, hc175, hG175⟩ := hv175
     obtain ⟨a175, c175, hv175, hsl175⟩ := hown175.sl Z6
     subst hv175
     refine Qk ?_
     refine ZE (fun v175 hv175 => ?_)
     obtain ⟨⟨F175, hF175, l175, hown175, hl175⟩, hs175, hc175, hG175⟩ := hv175
     obtain ⟨a175, c175, hv175, hsl175⟩ := hown175.sl Z6
     subst hv175
     refine QU ?_
     exact OpC_callP rfl (JH call47 rfl rfl rfl) (make18_ok _ _ l175 _ _ hsl175.rd)
    refine Zb (fun w479 c481 x480 hc0482 hk483 => ?_) ?_
    ·replace x480 := Bel.mono x480 (D' := fun g => g = b27) omC
     have z484 := x480.size
     refine Qk ?_
     refine ZE (fun v175 hv175 => ?_)
     obtain ⟨⟨F175, hF175, l175, hown175, hl175⟩, hs175, hc175, hG175⟩ := hv175
     obtain ⟨a175, c175, hv175, hsl175⟩ := hown175.sl Z6
     subst hv175
     refine Qk (Qk ?_)
     refine ZE (fun v178 hv178 => ?_)
     refine QU ?_
     exact ZL rfl (ZN underlying123 rfl sizeOf121 rfl)
    exact Jv
   case fin37 =>
    intro w485 c487 x486 hc0488
    replace x486 := Bel.mono x486 (D' := fun g => g = b27) omC
    have z489 := x486.size
    replace hX := Bel.out hX x486 om2
    replace hXL433 := Bel.out hXL433 x486 om2
    replace hb4 := hb4.keep x486 om1
    replace hC := hC.keepD x486 om3
    replace hb20 := hb20.keep x486 om1
    refine Qk ?_
    refine ZE (fun v175 hv175 => ?_)
    obtain ⟨⟨F175, hF175, l175, hown175, hl175⟩, hs175, hc175, hG175⟩ := hv175
    obtain ⟨a175, c175, hv175, hsl175⟩ := hown175.sl Z6
    subst hv175
    refine Qk (Qk ?_)
    refine ZE (fun v178 hv178 => ?_)
    refine Qk (QU ?_)
    have hs := hs175
    obtain ⟨f178, rfl⟩ := hv178
    refine Jb (v := .agg _) rfl sizeOf121 rfl rfl hb20 rfl rfl rfl ?_
    intro w490 c491 hb20
    change Box _ _ _ ([.bool _, .int _ _, str _, .int _ _, .int _ _, .slice _ _ _, .slice _ _ _]) at hb20
    have z492 := Bel.size c491
    replace hX := Bel.out hX c491 om2
    replace hXL433 := Bel.out hXL433 c491 om2
    replace hb4 := hb4.keep c491 om1
    replace hC := hC.keepD c491 om3
    replace hs := hs.keep c491 (fun h => by omega) (fun g h1 h2 h3 => by omega)
    refine Qg (Qc ?_)
    obtain ⟨x20, hb20⟩ := c18_pack hb20
    refine Rr (ZN underlying38 rfl sizeOf35 rfl) ?_
    refine Rr (ZB isAgg35 rfl (hb4.at.get 8 rfl)) ?_
    refine Rr (ZO isAgg123 sizeOf123 rfl hb20.at rfl) ?_
    refine Jh (vs := [.agg _]) ([x20]) rfl encC18_ok el_c18 rfl rfl ⟨rfl, trivial⟩ rfl rfl rfl rfl ?_
    intro a183 w493 x494 hown183
    have z495 := x494.size
    replace hX := hX.ex x494
    replace hXL433 := Bel.ex hXL433 x494
    replace hb4 := hb4.ext x494
    replace hC := hC.ext x494
    replace hs := hs.ext x494
    replace hown183 := hown183.mono (D' := fun g => n6 ≤ g) (fun g h1 h2 => by omega)
    refine Jd rfl encC18_ok el_c18 rfl rfl hC (hown183.slA encC18_ok) rfl (by simp; omega) (fun g h => by omega) ?_
    intro v184 w496 x497 hC
    have z498 := x497.size
    replace hX := Bel.out hX x497 om2
    replace hXL433 := Bel.out hXL433 x497 om2
    replace hb4 := hb4.keep x497 om1
    replace hs := hs.keep x497 (fun h => by omega) (fun g h1 h2 h3 => by omega)
    obtain ⟨a184, c184, hv184, -⟩ := hC.sl encC18_ok
    subst hv184
    refine Rr (ZN underlying38 rfl sizeOf35 rfl) ?_
    refine Jb (v := .slice _ _ _) rfl sizeOf35 rfl rfl hb4 rfl rfl rfl ?_
    intro w499 c500 hb4
    change Box _ _ _ ([.int _ _, .slice _ _ _, .slice _ _ _, .int _ _, .slice _ _ _, .slice _ _ _, .slice _ _ _, .slice _ _ _, .slice _ _ _, .slice _ _ _]) at hb4
    have z501 := Bel.size c500
    replace hX := Bel.out hX c500 om2
    replace hXL433 := Bel.out hXL433 c500 om2
    replace hC := hC.keepD c500 om3
    replace hs := hs.keep c500 (fun h => by omega) (fun g h1 h2 h3 => by omega)
    refine Qg (Qc ?_)
    refine Rr (mvI rfl) ?_
    refine Rr (Z1 rfl rfl omg) ?_
    refine Rr (asI rfl) ?_
    refine Qg ?_
    refine ⟨(k + 1, a184, c184, C ++ [x20]), ⟨sT, trivial⟩, oT, ⟨?_, hXL433, ?_⟩, ?_⟩
    ·exact ⟨by show k + 1 ≤ 4; omega, by simp; omega⟩
    ·exact ⟨hb4, hs.up (by show _ ≤ 100 + 7 * (k + 1); omega), hC.mono (fun g h1 h2 => by omega)⟩
    ·show 4 - (k + 1) < 4 - k; omega
  refine ZH (QH ?_)
  apply JA (β := False) (fun b => if b = b27 then 1 else 0) [peqC _, (postByt 1 (fun g => g < w.heap.size) b27 100 (100 + 7 * k + 1 + 6) (fun F v w => ∃ X : List UInt8, Own encB 1 5 F w v X ∧ X.length = 6)), peqC _, peqC _, (postP (fun v => ∃ f : F18, v = .agg (encF18 f).toArray)), peqC _] [0, 1, 0, 0, 0, 0] 6 Jz (by kernel_rfl) (by kernel_rfl) rfl ⟨Q4 _ _, (postByt_stable (Own.keepS1 _ _ _ _)), Q4 _ _, Q4 _ _, (J2), Q4 _ _, trivial⟩ ?ob37 ?fin37
  case ob37 =>
   refine Zb (fun w502 c504 x503 hc0505 hk506 => ?_) ?_
   ·replace x503 := Bel.mono x503 (D' := fun g => g = b27) omC
    have z507 := x503.size
    refine QU ?_
    exact ZL rfl (Zt (v := .pointer _) rfl)
   refine Zb (fun w508 c510 x509 hc0511 hk512 => ?_) ?_
   ·replace x509 := Bel.mono x509 (D' := fun g => g = b27) omC
    have z513 := x509.size
    refine Qk (QU ?_)
    exact OpC_byt (by decide) (Nat.lt_of_lt_of_le hs.lt (Bel.size x509)) ((hc0511 b27 hs.lt).trans (if_pos rfl)) (fun g hg => ⟨by omega, (hc0511 g (by omega)).trans (if_neg (by omega))⟩) rfl (ZW call45 rfl rfl) ((take24_ok b27 (fun g => g < w.heap.size) _ _ (hs.blk (hk512 1 (by decide) (by kernel_rfl) _ hs.lt (if_pos rfl)) x509 (fun g h1 h2 h3 => by omega)) (fun g h => by omega) 6 (by omega)).mono (fun v w2 h => h))
   refine Zb (fun w514 c516 x515 hc0517 hk518 => ?_) ?_
   ·replace x515 := Bel.mono x515 (D' := fun g => g = b27) omC
    have z519 := x515.size
    refine QU ?_
    exact ZL rfl (ZN underlying123 rfl sizeOf3 rfl)
   refine Zb (fun w520 c522 x521 hc0523 hk524 => ?_) ?_
   ·replace x521 := Bel.mono x521 (D' := fun g => g = b27) omC
    have z525 := x521.size
    have hb20 := hb20.keep x521 om1
    refine Qk (QU ?_)
    exact ZL rfl (ZB isAgg3 rfl (hb20.at.get 1 rfl))
   refine Zb (fun w526 c528 x527 hc0529 hk530 => ?_) ?_
   ·replace x527 := Bel.mono x527 (D' := fun g => g = b27) omC
    have z531 := x527.size
    refine ZE (fun v175 hv175 => ?_)
    obtain ⟨⟨F175, hF175, l175, hown175, hl175⟩, hs175, hc175, hG175⟩ := hv175
    obtain ⟨a175, c175, hv175, hsl175⟩ := hown175.sl Z6
    subst hv175
    refine Qk ?_
    refine ZE (fun v175 hv175 => ?_)
    obtain ⟨⟨F175, hF175, l175, hown175, hl175⟩, hs175, hc175, hG175⟩ := hv175
    obtain ⟨a175, c175, hv175, hsl175⟩ := hown175.sl Z6
    subst hv175
    refine QU ?_
    exact OpC_callP rfl (JH call47 rfl rfl rfl) (make18_ok _ _ l175 _ _ hsl175.rd)
   refine Zb (fun w532 c534 x533 hc0535 hk536 => ?_) ?_
   ·replace x533 := Bel.mono x533 (D' := fun g => g = b27) omC
    have z537 := x533.size
    refine Qk ?_
    refine ZE (fun v175 hv175 => ?_)
    obtain ⟨⟨F175, hF175, l175, hown175, hl175⟩, hs175, hc175, hG175⟩ := hv175
    obtain ⟨a175, c175, hv175, hsl175⟩ := hown175.sl Z6
    subst hv175
    refine Qk (Qk ?_)
    refine ZE (fun v178 hv178 => ?_)
    refine QU ?_
    exact ZL rfl (ZN underlying123 rfl sizeOf121 rfl)
   exact Jv
  case fin37 =>
   intro w538 c540 x539 hc0541
   replace x539 := Bel.mono x539 (D' := fun g => g = b27) omC
   have z542 := x539.size
   replace hX := Bel.out hX x539 om2
   replace hXL433 := Bel.out hXL433 x539 om2
   replace hb4 := hb4.keep x539 om1
   replace hC := hC.keepD x539 om3
   replace hb20 := hb20.keep x539 om1
   refine Qk ?_
   refine ZE (fun v175 hv175 => ?_)
   obtain ⟨⟨F175, hF175, l175, hown175, hl175⟩, hs175, hc175, hG175⟩ := hv175
   obtain ⟨a175, c175, hv175, hsl175⟩ := hown175.sl Z6
   subst hv175
   refine Qk (Qk ?_)
   refine ZE (fun v178 hv178 => ?_)
   refine Qk (QU ?_)
   have hs := hs175
   obtain ⟨f178, rfl⟩ := hv178
   refine Jb (v := .agg _) rfl sizeOf121 rfl rfl hb20 rfl rfl rfl ?_
   intro w543 c544 hb20
   change Box _ _ _ ([.bool _, .int _ _, str _, .int _ _, .int _ _, .slice _ _ _, .slice _ _ _]) at hb20
   have z545 := Bel.size c544
   replace hX := Bel.out hX c544 om2
   replace hXL433 := Bel.out hXL433 c544 om2
   replace hb4 := hb4.keep c544 om1
   replace hC := hC.keepD c544 om3
   replace hs := hs.keep c544 (fun h => by omega) (fun g h1 h2 h3 => by omega)
   refine Qg (Qc ?_)
   obtain ⟨x20, hb20⟩ := c18_pack hb20
   refine Rr (ZN underlying38 rfl sizeOf35 rfl) ?_
   refine Rr (ZB isAgg35 rfl (hb4.at.get 8 rfl)) ?_
   refine Rr (ZO isAgg123 sizeOf123 rfl hb20.at rfl) ?_
   refine Jh (vs := [.agg _]) ([x20]) rfl encC18_ok el_c18 rfl rfl ⟨rfl, trivial⟩ rfl rfl rfl rfl ?_
   intro a183 w546 x547 hown183
   have z548 := x547.size
   replace hX := hX.ex x547
   replace hXL433 := Bel.ex hXL433 x547
   replace hb4 := hb4.ext x547
   replace hC := hC.ext x547
   replace hs := hs.ext x547
   replace hown183 := hown183.mono (D' := fun g => n6 ≤ g) (fun g h1 h2 => by omega)
   refine Jd rfl encC18_ok el_c18 rfl rfl hC (hown183.slA encC18_ok) rfl (by simp; omega) (fun g h => by omega) ?_
   intro v184 w549 x550 hC
   have z551 := x550.size
   replace hX := Bel.out hX x550 om2
   replace hXL433 := Bel.out hXL433 x550 om2
   replace hb4 := hb4.keep x550 om1
   replace hs := hs.keep x550 (fun h => by omega) (fun g h1 h2 h3 => by omega)
   obtain ⟨a184, c184, hv184, -⟩ := hC.sl encC18_ok
   subst hv184
   refine Rr (ZN underlying38 rfl sizeOf35 rfl) ?_
   refine Jb (v := .slice _ _ _) rfl sizeOf35 rfl rfl hb4 rfl rfl rfl ?_
   intro w552 c553 hb4
   change Box _ _ _ ([.int _ _, .slice _ _ _, .slice _ _ _, .int _ _, .slice _ _ _, .slice _ _ _, .slice _ _ _, .slice _ _ _, .slice _ _ _, .slice _ _ _]) at hb4
   have z554 := Bel.size c553
   replace hX := Bel.out hX c553 om2
   replace hXL433 := Bel.out hXL433 c553 om2
   replace hC := hC.keepD c553 om3
   replace hs := hs.keep c553 (fun h => by omega) (fun g h1 h2 h3 => by omega)
   refine Qg (Qc ?_)
   refine Rr (mvI rfl) ?_
   refine Rr (Z1 rfl rfl omg) ?_
   refine Rr (asI rfl) ?_
   refine Qg ?_
   refine ⟨(k + 1, a184, c184, C ++ [x20]), ⟨sT, trivial⟩, oT, ⟨?_, hXL433, ?_⟩, ?_⟩
   ·exact ⟨by show k + 1 ≤ 4; omega, by simp; omega⟩
   ·exact ⟨hb4, hs.up (by show _ ≤ 100 + 7 * (k + 1); omega), hC.mono (fun g h1 h2 => by omega)⟩
   ·show 4 - (k + 1) < 4 - k; omega
 skip
 refine Z4 (ZX (QH (Qc ?_)))
 refine Rr (Zt (v := .pointer _) rfl) ?_
 refine ZC rfl (ZK call40 rfl) (Ok.mono (JR b27 (fun g => g < w.heap.size) _ _ hs (fun g h => by omega) (by omega)) ?_)
 rintro _ w555 ⟨⟨y187, rfl⟩, hs, x556⟩
 have z557 := x556.size
 replace hX := Bel.out hX x556 om2
 replace hb2 := hb2.keep x556 om1
 replace hL := hL.keep x556 om3
 replace hM := hM.keep x556 om3
 replace hG := hG.keep x556 om3
 replace hb4 := hb4.keep x556 om1
 have hy187 := y187.toNat_lt
 replace hs := hs.up (M := 150) (by omega)
 refine Rr (Jp (a := y187.toNat) (b := 4) rfl rfl (by decide) (by omega)) ?_
 refine Rr (asI rfl) ?_
 refine Qg (QH (QH (Qc ?_)))
 refine Rr Zi ?_
 refine Qg (ZM ?_)
 refine Jk (α := Nat × Option Addr × Nat × List RS) [(21, 24), (189, 231)] (fun q => [(21, .int .i64 (q.1 : Int))]) (fun q w' => (q.1 ≤ 4 ∧ OkM q.2.2.2) ∧ Bel False (fun g => g = b4 ∨ g = b27) w555 w' ∧ (Box w' b4 38 (stC 10 ((.slice a36 l36.length c36)) (.slice a30 (l28 ++ l29).length c30) 96#64 (.slice aL L.length cL) (.slice aM M.length cM) (.slice aG G.length cG) (.slice a145 n145 c145) (.slice aC C.length cC) (.slice q.2.1 q.2.2.2.length q.2.2.1)) ∧ Byt (fun g => g < w.heap.size) w' b27 100 (160 + 2 * q.1) ∧ Sl encRs 3 (fun g => n4 ≤ g) w' q.2.1 q.2.2.1 q.2.2.2)) (fun q => 4 - q.1) (0, none, 0, []) ⟨rfl, trivial⟩ ⟨⟨Nat.zero_le _, OkM.nil⟩, Bel.refl _ _, ⟨hb4, hs.up (by decide), Sl.none⟩⟩ ?_
 rintro ⟨i, aS, cS, Q⟩ fb560 w559 ⟨⟨hi, hQk⟩, hXL558, ⟨hb4, hs, hQ⟩⟩
 dsimp only at *
 have z561 := Bel.size hXL558
 replace hX := Bel.out hX hXL558 om2
 replace hb2 := hb2.keep hXL558 om1
 replace hL := hL.keep hXL558 om3
 replace hM := hM.keep hXL558 om3
 replace hG := hG.keep hXL558 om3
 refine QH (QH (Qc ?_))
 refine Rr (mvI rfl) ?_
 refine Rr (mvI rfl) ?_
 refine Rr (Z5 rfl rfl) ?_
 refine Qg ?_
 refine ZG rfl (fun hc9 => ?_) (fun hc9 => ?_)
 ·have hi4 : i < y187.toNat % 4 := by have := dcT hc9; omega
  refine ZH (QH (ZM (QH (Qc ?_))))
  refine Rr (Zt (v := .pointer _) rfl) ?_
  refine ZC rfl (ZK call40 rfl) (Ok.mono (JR b27 (fun g => g < w.heap.size) _ _ hs (fun g h => by omega) (by omega)) ?_)
  rintro _ w562 ⟨⟨y195, rfl⟩, hs, x563⟩
  have z564 := x563.size
  replace hX := Bel.out hX x563 om2
  replace hXL558 := Bel.out hXL558 x563 om2
  replace hb4 := hb4.keep x563 om1
  replace hQ := hQ.keep x563 om3
  have hy195 := y195.toNat_lt
  refine Rr (Zt (v := .pointer _) rfl) ?_
  refine ZC rfl (ZK call40 rfl) (Ok.mono (JR b27 (fun g => g < w.heap.size) _ _ hs (fun g h => by omega) (by omega)) ?_)
  rintro _ w565 ⟨⟨y197, rfl⟩, hs, x566⟩
  have z567 := x566.size
  replace hX := Bel.out hX x566 om2
  replace hXL558 := Bel.out hXL558 x566 om2
  replace hb4 := hb4.keep x566 om1
  replace hQ := hQ.keep x566 om3
  have hy197 := y197.toNat_lt
  refine Rr (asI rfl) ?_
  refine Rr (asI rfl) ?_
  refine Qg (QH ?_)
  obtain ⟨n8, hn8⟩ : ∃ n, n = w565.heap.size := ⟨_, rfl⟩
  replace hQ := hQ.mono (F' := fun g => n4 ≤ g ∧ g < n8) (fun g h1 h2 => ⟨h2, by omega⟩)
  apply JA (β := False) (fun b => if b = b4 then 1 else 0) [peqC _, peqC _, peqC _, peqC _, peqC _, peqC _, peqC _, peqC _, (postW (Tup3Is encRs 3 n4 OkM)), (postW (Tup3Is encRs 3 n4 OkM)), (postW (ListIs encRs 3 n4 OkM)), (postAny), (postAny), peqC _, (postSs 1 b4 38 (fun u => (stC 10 ((.slice a36 l36.length c36)) (.slice a30 (l28 ++ l29).length c30) 96#64 (.slice aL L.length cL) (.slice aM M.length cM) (.slice aG G.length cG) (.slice a145 n145 c145) (.slice aC C.length cC) (u))) (ListIs encRs 3 n4 OkM))] [0, 0, 0, 0, 0, 0, 0, 0, 0, 0, 0, 0, 0, 0, 1] 15 Jz (by kernel_rfl) (by kernel_rfl) rfl ⟨Q4 _ _, Q4 _ _, Q4 _ _, Q4 _ _, Q4 _ _, Q4 _ _, Q4 _ _, Q4 _ _, (Jl (Tup3Is.keepS _ _ _ _)), (Jl (Tup3Is.keepS _ _ _ _)), (Jl (ListIs.keepS _ _ _ _)), (postAny_stable), (postAny_stable), Q4 _ _, (postSs_stable (ListIs.keepS _ _ _ _)), trivial⟩ ?ob44 ?fin44
  case ob44 =>
   refine Zb (fun w568 c570 x569 hc0571 hk572 => ?_) ?_
   ·replace x569 := Bel.mono x569 (D' := fun g => g = b4) omC
    have z573 := x569.size
    refine QU ?_
    exact ZL rfl (ZN underlying38 rfl sizeOf36 rfl)
   refine Zb (fun w574 c576 x575 hc0577 hk578 => ?_) ?_
   ·replace x575 := Bel.mono x575 (D' := fun g => g = b4) omC
    have z579 := x575.size
    have hb4 := hb4.blk (hk578 1 (by decide) (by kernel_rfl) _ hb4.lt (by first | (simp [colAt]; done) | (simp [colAt]; omega)))
    refine Qk (QU ?_)
    exact ZL rfl (ZB isAgg36 rfl (hb4.at.get 9 rfl))
   refine Zb (fun w580 c582 x581 hc0583 hk584 => ?_) ?_
   ·replace x581 := Bel.mono x581 (D' := fun g => g = b4) omC
    have z585 := x581.size
    refine QU ?_
    exact ZL rfl (mvI rfl)
   refine Zb (fun w586 c588 x587 hc0589 hk590 => ?_) ?_
   ·replace x587 := Bel.mono x587 (D' := fun g => g = b4) omC
    have z591 := x587.size
    refine QU ?_
    exact ZL rfl (ZN underlying38 rfl sizeOf29 rfl)
   refine Zb (fun w592 c594 x593 hc0595 hk596 => ?_) ?_
   ·replace x593 := Bel.mono x593 (D' := fun g => g = b4) omC
    have z597 := x593.size
    have hb4 := hb4.blk (hk596 1 (by decide) (by kernel_rfl) _ hb4.lt (by first | (simp [colAt]; done) | (simp [colAt]; omega)))
    refine Qk (QU ?_)
    exact ZL rfl (ZB isAgg29 rfl (hb4.at.get 1 rfl))
   refine Zb (fun w598 c600 x599 hc0601 hk602 => ?_) ?_
   ·replace x599 := Bel.mono x599 (D' := fun g => g = b4) omC
    have z603 := x599.size
    refine Qk (QU ?_)
    exact ZL rfl (Z0 underlying29 rfl)
   refine Zb (fun w604 c606 x605 hc0607 hk608 => ?_) ?_
   ·replace x605 := Bel.mono x605 (D' := fun g => g = b4) omC
    have z609 := x605.size
    refine Qk (Qk (QU ?_))
    exact ZL rfl (Jp (a := y195.toNat) (b := l36.length) rfl rfl (by omega) (by omega))
   refine Zb (fun w610 c612 x611 hc0613 hk614 => ?_) ?_
   ·replace x611 := Bel.mono x611 (D' := fun g => g = b4) omC
    have z615 := x611.size
    refine Qk (QU ?_)
    exact ZL rfl (Jr (p := 1) (b := y195.toNat % l36.length) rfl rfl (by have := Nat.mod_le y195.toNat l36.length; omega))
   refine Zb (fun w616 c618 x617 hc0619 hk620 => ?_) ?_
   ·replace x617 := Bel.mono x617 (D' := fun g => g = b4) omC
    have z621 := x617.size
    have hQ := hQ.keep x617 om3
    refine Qk (Qk (QU ?_))
    exact OpC_W2 (S := Tup3Is encRs 3 n4 OkM) (fun g => n4 ≤ g ∧ g < n8) (fun b hb => ⟨by omega, (hc0619 b (by omega)).trans (if_neg (by omega))⟩) rfl (ZW call48 rfl rfl) ((r22open_ok _ _ Q _ hQ.rd hQk _).mono (fun v w2 ⟨⟨p, h0, h1⟩, x⟩ => ⟨⟨p, _, _, h0, fun g hg => hg.elim And.left (fun h => by have := h.1; omega), _, h1, hQk.openR _⟩, x⟩))
   refine Zb (fun w622 c624 x623 hc0625 hk626 => ?_) ?_
   ·replace x623 := Bel.mono x623 (D' := fun g => g = b4) omC
    have z627 := x623.size
    refine ZE (fun v207 hv207 => ?_)
    obtain ⟨F207, hF207, u207, e207, d207, rfl, hL207⟩ := hv207
    refine QU ?_
    exact OpC_vp rfl (Zt rfl) ⟨F207, hF207, u207, e207, d207, rfl, hL207⟩
   refine Zb (fun w628 c630 x629 hc0631 hk632 => ?_) ?_
   ·replace x629 := Bel.mono x629 (D' := fun g => g = b4) omC
    have z633 := x629.size
    refine ZE (fun v198 hv198 => ?_)
    obtain ⟨F198, hF198, u198, e198, d198, rfl, hL198⟩ := hv198
    refine QU ?_
    exact OpC_vp rfl (ZS rfl rfl) ⟨F198, hF198, hL198⟩
   refine Zb (fun w634 c636 x635 hc0637 hk638 => ?_) ?_
   ·replace x635 := Bel.mono x635 (D' := fun g => g = b4) omC
    have z639 := x635.size
    refine ZE (fun v198 hv198 => ?_)
    obtain ⟨F198, hF198, u198, e198, d198, rfl, hL198⟩ := hv198
    refine QU ?_
    exact OpC_vp rfl (ZS rfl rfl) trivial
   refine Zb (fun w640 c642 x641 hc0643 hk644 => ?_) ?_
   ·replace x641 := Bel.mono x641 (D' := fun g => g = b4) omC
    have z645 := x641.size
    refine ZE (fun v198 hv198 => ?_)
    obtain ⟨F198, hF198, u198, e198, d198, rfl, hL198⟩ := hv198
    refine QU ?_
    exact OpC_vp rfl (ZS rfl rfl) trivial
   refine Zb (fun w646 c648 x647 hc0649 hk650 => ?_) ?_
   ·replace x647 := Bel.mono x647 (D' := fun g => g = b4) omC
    have z651 := x647.size
    refine Qk (Qk (Qk (Qk (Qk (Qk (Qk (Qk ?_)))))))
    refine ZE (fun v207 hv207 => ?_)
    obtain ⟨F207, hF207, u207, e207, d207, rfl, hL207⟩ := hv207
    refine ZE (fun v198 hv198 => ?_)
    obtain ⟨F198, hF198, u198, e198, d198, rfl, hL198⟩ := hv198
    refine ZE (fun v208 hv208 => ?_)
    obtain ⟨F208, hF208, hn208, M208, ⟨a208, c208, rfl, hr208⟩, hm208⟩ := hv208
    refine QU ?_
    exact ZL rfl (ZN underlying38 rfl sizeOf36 rfl)
   refine Zb (fun w652 c654 x653 hc0655 hk656 => ?_) ?_
   ·replace x653 := Bel.mono x653 (D' := fun g => g = b4) omC
    have z657 := x653.size
    refine Qk ?_
    refine ZE (fun v208 hv208 => ?_)
    obtain ⟨F208, hF208, hn208, M208, ⟨a208, c208, rfl, hr208⟩, hm208⟩ := hv208
    refine ZE (fun v207 hv207 => ?_)
    obtain ⟨F207, hF207, u207, e207, d207, rfl, hL207⟩ := hv207
    refine Qk (Qk (Qk (Qk (Qk (Qk (Qk (Qk ?_)))))))
    refine ZE (fun v207 hv207 => ?_)
    obtain ⟨F207, hF207, u207, e207, d207, rfl, hL207⟩ := hv207
    refine ZE (fun v198 hv198 => ?_)
    obtain ⟨F198, hF198, u198, e198, d198, rfl, hL198⟩ := hv198
    refine ZE (fun v208 hv208 => ?_)
    obtain ⟨F208, hF208, hn208, M208, ⟨a208, c208, rfl, hr208⟩, hm208⟩ := hv208
    refine QU ?_
    exact postSs_of (f := fun u => (stC 10 ((.slice a36 l36.length c36)) (.slice a30 (l28 ++ l29).length c30) 96#64 (.slice aL L.length cL) (.slice aM M.length cM) (.slice aG G.length cG) (.slice a145 n145 c145) (.slice aC C.length cC) (u))) (u := .slice a208 M208.length c208) (ListIs.keepS _ _ _ _) (OpC_store (v := .slice _ _ _) (by decide) sizeOf36 rfl rfl (hb4.blk (hk656 1 (by decide) (by kernel_rfl) _ hb4.lt (if_pos rfl))) ((hc0655 b4 hb4.lt).trans (if_pos rfl)) rfl rfl rfl) rfl hF208 ⟨hn208, M208, ⟨a208, c208, rfl, hr208⟩, hm208⟩
   exact Jv
  case fin44 =>
   intro w658 c660 x659 hc0661
   replace x659 := Bel.mono x659 (D' := fun g => g = b4) omC
   have z662 := x659.size
   replace hX := Bel.out hX x659 om2
   replace hXL558 := Bel.out hXL558 x659 om2
   replace hs := hs.keep x659 (fun h => by omega) (fun g h1 h2 h3 => by omega)
   replace hQ := hQ.keep x659 om3
   refine Qk (Qk (Qk (Qk (Qk (Qk (Qk (Qk ?_)))))))
   refine ZE (fun v207 hv207 => ?_)
   obtain ⟨F207, hF207, u207, e207, d207, rfl, hL207⟩ := hv207
   refine ZE (fun v198 hv198 => ?_)
   obtain ⟨F198, hF198, u198, e198, d198, rfl, hL198⟩ := hv198
   refine ZE (fun v208 hv208 => ?_)
   obtain ⟨F208, hF208, hn208, M208, ⟨a208, c208, rfl, hr208⟩, hm208⟩ := hv208
   refine ZE (fun v209 hv209 => ?_)
   refine ZE (fun v210 hv210 => ?_)
   refine Qk ?_
   refine bindC_lk rfl (fun hst14 => ?_)
   refine QU ?_
   obtain ⟨-, hb4, -, F44, hF44, hn44, M44, ⟨a44, c44, rfl, hr44⟩, hm44⟩ := hst14
   replace hr44 := hr44.mono (F' := fun g => n4 ≤ g) (fun g _ h => hn44 g h)
   refine Qg (QH (Qc ?_))
   refine Rr Zi ?_
   refine Qg (ZM ?_)
   refine Jk (α := Nat × Option Addr × Nat × List RS) [(24, 24), (212, 231)] (fun q => [(24, .int .i64 (q.1 : Int))]) (fun q w' => (1 ≤ q.1 ∧ q.1 ≤ 5 ∧ OkM q.2.2.2) ∧ Bel False (fun g => g = b4) w658 w' ∧ (Box w' b4 38 (stC 10 ((.slice a36 l36.length c36)) (.slice a30 (l28 ++ l29).length c30) 96#64 (.slice aL L.length cL) (.slice aM M.length cM) (.slice aG G.length cG) (.slice a145 n145 c145) (.slice aC C.length cC) (.slice q.2.1 q.2.2.2.length q.2.2.1)) ∧ Sl encRs 3 (fun g => n4 ≤ g) w' q.2.1 q.2.2.1 q.2.2.2)) (fun q => 5 - q.1) (1, a44, c44, M44) ⟨rfl, trivial⟩ ⟨⟨Nat.le_refl _, by show 1 ≤ 5; omega, hm44⟩, Bel.refl _ _, ⟨hb4, hr44⟩⟩ ?_
   rintro ⟨j, aS2, cS2, Q2⟩ fb665 w664 ⟨⟨hj1, hj, hQk⟩, hXL663, ⟨hb4, hQ⟩⟩
   dsimp only at *
   have z666 := Bel.size hXL663
   replace hX := Bel.out hX hXL663 om2
   replace hXL558 := Bel.out hXL558 hXL663 om2
   replace hs := hs.keep hXL663 (fun h => by omega) (fun g h1 h2 h3 => by omega)
   refine QH (QH (Qc ?_))
   refine Rr (mvI rfl) ?_
   refine Rr (o_leq rfl rfl) ?_
   refine Qg ?_
   refine ZG rfl (fun hc10 => ?_) (fun hc10 => ?_)
   ·have hj4 : j ≤ 4 := by have := dcT hc10; omega
    refine ZH (QH (ZM (QH (Qc ?_))))
    refine Rr (mvI rfl) ?_
    refine Rr (mvI rfl) ?_
    refine Rr (JJ underlying3 underlying104 rfl (wrap_u64 (by omega))) ?_
    refine Rr (o_shrN (a := y197.toNat) (n := j) rfl rfl (by omega)) ?_
    refine Rr (Jp (a := (y197.toNat >>> j)) (b := 2) rfl rfl (by decide) (by have := Nat.shiftRight_le y197.toNat j; omega)) ?_
    refine Rr (ZZ rfl rfl) ?_
    refine Qg ?_
    refine ZG rfl (fun hc11 => ?_) (fun hc11 => ?_)
    ·refine Qc ?_
     refine Rr (ZN underlying38 rfl sizeOf36 rfl) ?_
     refine Rr (ZB isAgg36 rfl (hb4.at.get 9 rfl)) ?_
     refine Rr (mvI rfl) ?_
     refine Rr (Jr (p := i) (b := 1) rfl rfl (by omega)) ?_
     refine Rr (mvI rfl) ?_
     refine ZC rfl (o_call4 call49 rfl rfl rfl rfl) (Ok.mono (set22_ok _ _ _ Q2 _ hQ hQk _ _ true) ?_)
     rintro _ w667 ⟨⟨a228, c228, e228, M228, rfl, hr228, hm228⟩, x668⟩
     have z669 := x668.size
     replace hX := hX.ex x668
     replace hXL558 := Bel.ex hXL558 x668
     replace hXL663 := Bel.ex hXL663 x668
     replace hb4 := hb4.ext x668
     replace hr228 := hr228.mono (F' := fun g => n4 ≤ g) (fun g h1 h2 => h2.elim id (fun h => by have := h.1; omega))
     refine Rr (Zt (v := .tuple _) rfl) ?_
     refine Rr (ZS rfl rfl) ?_
     refine Rr (ZS rfl rfl) ?_
     refine Rr (ZN underlying38 rfl sizeOf36 rfl) ?_
     refine Jb (v := .slice _ _ _) rfl sizeOf36 rfl rfl hb4 rfl rfl rfl ?_
     intro w670 c671 hb4
     change Box _ _ _ ([.int _ _, .slice _ _ _, .slice _ _ _, .int _ _, .slice _ _ _, .slice _ _ _, .slice _ _ _, .slice _ _ _, .slice _ _ _, .slice _ _ _]) at hb4
     have z672 := Bel.size c671
     replace hX := Bel.out hX c671 om2
     replace hXL558 := Bel.out hXL558 c671 om2
     replace hXL663 := Bel.out hXL663 c671 om2
     replace hr228 := hr228.keep c671 om3
     refine Qg (Qc ?_)
     refine Rr (mvI rfl) ?_
     refine Rr (Z1 rfl rfl omg) ?_
     refine Rr (asI rfl) ?_
     refine Qg ?_
     refine ⟨(j + 1, a228, c228, M228), ⟨sT, trivial⟩, oT, ⟨?_, hXL663, ?_⟩, ?_⟩
     ·exact ⟨by show 1 ≤ j + 1; omega, by show j + 1 ≤ 5; omega, hm228⟩
     ·exact ⟨hb4, hr228⟩
     ·show 5 - (j + 1) < 5 - j; omega
    refine ZH (Qc ?_)
    refine Rr (mvI rfl) ?_
    refine Rr (Z1 rfl rfl omg) ?_
    refine Rr (asI rfl) ?_
    refine Qg ?_
    refine ⟨(j + 1, aS2, cS2, Q2), ⟨sT, trivial⟩, oT, ⟨?_, hXL663, ?_⟩, ?_⟩
    ·exact ⟨by show 1 ≤ j + 1; omega, by show j + 1 ≤ 5; omega, hQk⟩
    ·exact ⟨hb4, hQ⟩
    ·show 5 - (j + 1) < 5 - j; omega
   skip
   refine Z4 (ZX (Qc ?_))
   refine Rr (mvI rfl) ?_
   refine Rr (Z1 rfl rfl omg) ?_
   refine Rr (asI rfl) ?_
   refine Qg ?_
   refine ⟨(i + 1, aS2, cS2, Q2), ⟨sT, trivial⟩, ?_, ⟨?_, hXL558, ?_⟩, ?_⟩
   ·repeat (first | with_reducible exact oR _ _ | with_reducible exact oM | ((with_reducible refine off_put ?_ ?_); exact rfl) | ((with_reducible refine off_set ?_ ?_); exact rfl) | (with_reducible refine oN ?_) | ((with_reducible refine off_setL ?_ ?_); exact rfl) | ((with_reducible refine off_mix' ?_ ?_); exact rfl) | refine oP rfl ?_ | refine oN ?_ | refine oL rfl ?_ | refine oX rfl ?_ | exact oR _ _ | exact off_mix)
   ·exact ⟨by show i + 1 ≤ 4; omega, hQk⟩
   ·exact ⟨hb4, hs.up (by show _ ≤ 160 + 2 * (i + 1); omega), hQ⟩
   ·show 4 - (i + 1) < 4 - i; omega
 skip
 refine Z4 (ZX (QH (Qc ?_)))
 refine Rr (ZO isAgg38 sizeOf38 rfl hb4.at rfl) ?_
 refine Ja (v := .agg _) rfl sizeOf38 rfl rfl hb2 rfl rfl rfl ?_
 intro w673 c674 hb2
 change Box _ _ _ (stC _ _ _ _ _ _ _ _ _ _) at hb2
 have z675 := Bel.size c674
 replace hX := Bel.out hX c674 om2
 replace hL := hL.keep c674 om3
 replace hM := hM.keep c674 om3
 replace hG := hG.keep c674 om3
 refine Qg (ZJ ?_)
 refine ⟨_, res_1 (v := .agg _) rfl (Ju isAgg38 sizeOf38 rfl hb2.at rfl), ?_⟩
 replace hL := hL.mono (F' := Fsh w w673) (fun g h1 h2 => ⟨by omega, h1⟩)
 replace hM := hM.mono (F' := Fsh w w673) (fun g h1 h2 => ⟨by omega, h1⟩)
 replace hG := hG.mono (F' := Fsh w w673) (fun g h1 h2 => ⟨by omega, h1⟩)
 refine ⟨?_, hX⟩
 exact sts_pack hL hM hG hGk (by omega) (by omega)

