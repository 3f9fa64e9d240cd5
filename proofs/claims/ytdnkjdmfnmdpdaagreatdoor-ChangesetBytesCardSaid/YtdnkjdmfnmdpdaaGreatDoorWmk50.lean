/- Walks: what functions return. -/
import Derived.Test.YtdnkjdmfnmdpdaaGreatDoorWthg
import Derived.Test.YtdnkjdmfnmdpdaaGreatDoorWmk24
import Derived.Test.YtdnkjdmfnmdpdaaGreatDoorSu
import Derived.Test.YtdnkjdmfnmdpdaaGreatDoorWmk18
set_option linter.unusedVariables false
set_option linter.unusedSimpArgs false
set_option linter.unnecessarySimpa false
namespace Go.Proofs.YtdnkjdmfnmdpdaaGreatDoor
open Go Go.Lx Go.RowKit Tryz
set_option maxRecDepth 100000
set_option maxHeartbeats 4000000 in
theorem make50_ok (v0 : Value) (G0 : Nat → Prop) (l : List RawC) (v1 : Value) (F0 : Nat → Prop) (w : World) (hp : Rd encRaw 6 G0 w v0 l) (hst : StIs F0 w v1) : Ok Tryz.prog 8 #[v0, v1] w fun v w' => (∃ O, Own encRo 8 44 (Fsh w w') w' v O ∧ O.length ≤ 10 ∧ ∀ o ∈ O, RoK o) ∧ Ext False w w' := by
 obtain ⟨a0, c0, rfl, hp⟩ := hp
 obtain ⟨U, R, ad, X, Y, Z, aL, cL, L, aM, cM, M, aG, cG, G, rfl, hL, hM, hG, hGk, hl1, hl2⟩ := hst
 have hlen := hp.len
 replace hp := hp.mono (F' := fun g => g < w.heap.size) (fun g h1 h2 => h1)
 replace hL := hL.mono (F' := fun g => g < w.heap.size) (fun g h1 h2 => h1)
 replace hM := hM.mono (F' := fun g => g < w.heap.size) (fun g h1 h2 => h1)
 replace hG := hG.mono (F' := fun g => g < w.heap.size) (fun g h1 h2 => h1)
 refine ZQ 113 func8 rfl rfl rfl ?_
 have hX := xRf w
 refine QH (Qc ?_)
 refine Z2 rfl (JB (v := .agg _) rfl) ?_
 intro b3 w1 x2 hge3 hb3
 have hlt3 := hb3.lt
 change Box _ _ _ (stC _ _ _ _ _ _ _ _ _ _) at hb3
 have z3 := x2.size
 replace hX := hX.ex x2
 replace hp := hp.ext x2
 replace hL := hL.ext x2
 replace hM := hM.ext x2
 replace hG := hG.ext x2
 refine Rr Zi ?_
 refine Qg (QH (Qc ?_))
 refine Rr (ZO isAgg38 sizeOf38 rfl hb3.at rfl) ?_
 refine ZC rfl (ZK call37 rfl) (Ok.mono (things_walk (.bool true) _ _ U R ad X Y Z aL cL L aM cM M aG cG G hL hM hG hl1 hl2 hGk.len) ?_)
 rintro v11 w4 ⟨hown11, x5⟩
 have z6 := x5.size
 replace hX := hX.ex x5
 replace hp := hp.ext x5
 refine Rr (ZD (v := v11) rfl) ?_
 refine Qg (QH (Qc ?_))
 refine Rr Zi ?_
 refine Qg (QH (QH (Qc ?_)))
 obtain ⟨a11, c11, hv11, hs11⟩ := hown11.sl ZV
 subst hv11
 obtain ⟨n5, hn5⟩ : ∃ n, n = w4.heap.size := ⟨_, rfl⟩
 have hTlen : (thingsO M G L).length ≤ 21000 := by have := hGk.len; unfold thingsO; simp only [List.length_append, List.length_map]; omega
 refine Rr (mvS rfl) ?_
 refine Rr (Z0 underlying23 rfl) ?_
 refine Rr Jj ?_
 refine Qg (ZM ?_)
 refine Jk (α := Nat × Value × List COp) [(6, 9), (14, 111)] (fun q => [(14, .int .i64 (q.1 : Int)), (6, q.2.1)]) (fun q w' => (q.1 ≤ l.length ∧ q.1 ≤ 10 ∧ q.2.2.length ≤ q.1 ∧ ∀ o ∈ q.2.2, RoK o) ∧ Bel False (fun g => n5 ≤ g) w4 w' ∧ (Own encRo 8 44 (fun g => n5 ≤ g) w' q.2.1 q.2.2)) (fun q => l.length - q.1) (0, .slice none 0 0, []) ⟨rfl, rfl, trivial⟩ ⟨⟨Nat.zero_le _, Nat.zero_le _, Nat.le_refl _, fun o h => absurd h (by simp)⟩, Bel.refl _ _, Own.nil _ _⟩ ?_
 rintro ⟨k, t, O⟩ fb9 w8 ⟨⟨hk, hk2, hOl, hOk⟩, hXL7, hown⟩
 dsimp only at *
 have z10 := Bel.size hXL7
 replace hX := Bel.out hX hXL7 om2
 replace hp := hp.keep hXL7 om3
 replace hs11 := hs11.keep hXL7 om3
 refine QH (Qc ?_)
 refine Rr (Z5 rfl rfl) ?_
 refine Qg (QH ?_)
 refine ZG rfl (fun hc1 => ?_) (fun hc1 => ?_)
 ·have hk1 : k < l.length := by have := dcT hc1; omega
  refine ZH (QH (ZM (QH (Qc ?_))))
  refine Rr (mvI rfl) ?_
  refine Rr (Js underlying23 sizeOf96 hp rfl rfl omg) ?_
  refine Rr (Jx isAgg96 sizeOf96 hp rfl (Jw rcz (by omega))) ?_
  refine Z2 rfl (JK zeroValue96) ?_
  intro b8 w11 x12 hge8 hb8
  replace hown := hown.mono (D' := fun g => n5 ≤ g ∧ g ≠ b8) (fun g h1 h2 => by omega)
  have hlt8 := hb8.lt
  change Box _ _ _ ([.bool _, .bool _, .int _ _, .int _ _, .int _ _, .int _ _]) at hb8
  have z13 := x12.size
  replace hX := hX.ex x12
  replace hXL7 := Bel.ex hXL7 x12
  replace hs11 := hs11.ext x12
  replace hown := hown.ext x12
  refine Rr (asI rfl) ?_
  refine Ja (v := .agg _) rfl sizeOf96 rfl rfl hb8 rfl rfl rfl ?_
  intro w14 c15 hb8
  change Box _ _ _ (encRaw _) at hb8
  have z16 := Bel.size c15
  replace hX := Bel.out hX c15 om2
  replace hXL7 := Bel.out hXL7 c15 om2
  replace hs11 := hs11.keep c15 om3
  replace hown := hown.keepD c15 om3
  refine Qg (QH (QH (Qc ?_)))
  refine Rr (mvI rfl) ?_
  refine Rr (ZZ rfl rfl) ?_
  refine Qg ?_
  refine ZG rfl (fun hc2 => ?_) (fun hc2 => ?_)
  ·skip
   refine Z4 (exAt_miss rfl (ZX (QH (Qc ?_))))
   refine Rr (Zt (v := t) rfl) ?_
   refine Rr (ZD (v := t) rfl) ?_
   refine Qg (ZJ ?_)
   refine ⟨_, ZF rfl rfl, ?_⟩
   exact ⟨⟨O, hown.mono (fun g h1 h2 => by omega), by omega, hOk⟩, hX⟩
  have hk10 : ¬ (k : Int) = 10 := ne_of_beq_false hc2
  refine ZH (QH (Qc ?_))
  refine Rr (ZN underlying96 rfl sizeOf4 rfl) ?_
  refine Rr (ZB isAgg4 rfl (hb8.at.get 0 rfl)) ?_
  refine Rr (ZN underlying96 rfl sizeOf5 rfl) ?_
  refine Rr (ZB isAgg5 rfl (hb8.at.get 2 rfl)) ?_
  refine Rr (o_rem8 (a := (l.getD k rcz).k.toNat) (b := 3) rfl rfl (by decide) (l.getD k rcz).k.toNat_lt) ?_
  refine Rr (JJ underlying5 underlying3 rfl (JT (by unfold I64; omega))) ?_
  refine Rr (Jr (p := 1) (b := (l.getD k rcz).k.toNat % 3) rfl rfl (by omega)) ?_
  refine Rr (ZN underlying96 rfl sizeOf5 rfl) ?_
  refine Rr (ZB isAgg5 rfl (hb8.at.get 3 rfl)) ?_
  refine Rr (o_rem8 (a := (l.getD k rcz).a.toNat) (b := 6) rfl rfl (by decide) (l.getD k rcz).a.toNat_lt) ?_
  refine Rr (JJ underlying5 underlying3 rfl (JT (by unfold I64; omega))) ?_
  refine Rr (Jr (p := 1) (b := (l.getD k rcz).a.toNat % 6) rfl rfl (by omega)) ?_
  refine Rr (ZN underlying96 rfl sizeOf5 rfl) ?_
  refine Rr (ZB isAgg5 rfl (hb8.at.get 4 rfl)) ?_
  refine Rr (o_rem8 (a := (l.getD k rcz).b.toNat) (b := 7) rfl rfl (by decide) (l.getD k rcz).b.toNat_lt) ?_
  refine Rr (JJ underlying5 underlying3 rfl (JT (by unfold I64; omega))) ?_
  refine Rr (Jr (p := 1) (b := (l.getD k rcz).b.toNat % 7) rfl rfl (by omega)) ?_
  refine Rr (Z7 (cells := encRo ⟨(l.getD k rcz).add, ((1 + (l.getD k rcz).k.toNat % 3 : Nat) : Int), ((1 + (l.getD k rcz).a.toNat % 6 : Nat) : Int), ((1 + (l.getD k rcz).b.toNat % 7 : Nat) : Int), 0, pz⟩) (vs := [(0, .bool _), (1, .int _ _), (2, .int _ _), (3, .int _ _)]) rfl (by kernel_rfl)) ?_
  refine Z8 rfl rfl zeroValue44 rfl sizeOf44 (fun _ => rfl) rfl rfl ?_
  intro b9 w17 x18 hge9 hb9
  replace hown := hown.mono (D' := fun g => n5 ≤ g ∧ g ≠ b8 ∧ g ≠ b9) (fun g h1 h2 => by omega)
  have hlt9 := hb9.lt
  change Box _ _ _ (encRo _) at hb9
  have z19 := x18.size
  replace hX := hX.ex x18
  replace hXL7 := Bel.ex hXL7 x18
  replace hs11 := hs11.ext x18
  replace hown := hown.ext x18
  replace hb8 := hb8.ext x18
  refine Qg (QH (QH (Qc ?_)))
  refine (Decidable.em ((l.getD k rcz).old = true)).elim (fun hold => ?_) (fun hold => ?_)
  ·refine Rr (ZN underlying96 rfl sizeOf4 rfl) ?_
   refine Rr (ZB isAgg4 rfl (hb8.at.get 1 rfl)) ?_
   refine Rr (mvB rfl) ?_
   refine ZP 2 41 rfl (cvB hold) ?_
   refine Rr (mvS rfl) ?_
   refine ZP 2 41 rfl (cvB hold) ?_
   refine Rr (Z0 underlying27 rfl) ?_
   refine ZP 2 41 rfl (cvB hold) ?_
   refine Rr (JY rfl rfl) ?_
   refine Rr (Jt (v := .bool _) (cvB hold) rfl) ?_
   refine Qg ?_
   refine ZG rfl (fun hc3 => ?_) (fun hc3 => ?_)
   ·have hTl : 0 < (thingsO M G L).length := by have := dcT hc3; omega
    refine QH (Qc ?_)
    refine Rr (mvS rfl) ?_
    refine Rr (ZN underlying96 rfl sizeOf5 rfl) ?_
    refine Rr (ZB isAgg5 rfl (hb8.at.get 3 rfl)) ?_
    refine Rr (JJ underlying5 underlying3 rfl (JT (by have := (l.getD k rcz).a.toNat_lt; unfold I64; omega))) ?_
    refine Rr (mvS rfl) ?_
    refine Rr (Z0 underlying27 rfl) ?_
    refine Rr (Jp (a := (l.getD k rcz).a.toNat) (b := (thingsO M G L).length) rfl rfl hTl (by have := (l.getD k rcz).a.toNat_lt; omega)) ?_
    refine Rr (Js (i := (l.getD k rcz).a.toNat % (thingsO M G L).length) underlying27 sizeOf44 hs11 rfl rfl (Nat.mod_lt _ hTl)) ?_
    refine Rr (Jx isAgg44 sizeOf44 hs11 rfl (Jw coz (Nat.mod_lt _ hTl))) ?_
    refine Ja (v := .agg _) rfl sizeOf44 rfl rfl hb9 rfl rfl rfl ?_
    intro w20 c21 hb9
    change Box _ _ _ (encRo _) at hb9
    have z22 := Bel.size c21
    replace hX := Bel.out hX c21 om2
    replace hXL7 := Bel.out hXL7 c21 om2
    replace hown := hown.keepD c21 om3
    replace hb8 := hb8.keep c21 om1
    refine Qg (QH (Qc ?_))
    refine Rr (ZN underlying96 rfl sizeOf4 rfl) ?_
    refine Rr (ZB isAgg4 rfl (hb8.at.get 0 rfl)) ?_
    refine Rr (ZN underlying44 rfl sizeOf4 rfl) ?_
    refine Jb (v := .bool _) rfl sizeOf4 rfl rfl hb9 rfl rfl rfl ?_
    intro w23 c24 hb9
    change Box _ _ _ ([.bool _, .int _ _, .int _ _, .int _ _, .int _ _, str _, str _, .bool _]) at hb9
    have z25 := Bel.size c24
    replace hX := Bel.out hX c24 om2
    replace hXL7 := Bel.out hXL7 c24 om2
    replace hown := hown.keepD c24 om3
    replace hb8 := hb8.keep c24 om1
    refine Qg (QH (QH (Qc ?_)))
    refine (Decidable.em (((thingsO M G L).getD ((l.getD k rcz).a.toNat % (thingsO M G L).length) coz).k = 1)).elim (fun hkd => ?_) (fun hkd => ?_)
    ·refine Rr (ZN underlying44 rfl sizeOf3 rfl) ?_
     refine Rr (ZB isAgg3 rfl (hb9.at.get 1 rfl)) ?_
     refine Rr (ZZ rfl rfl) ?_
     refine Rr (mvB rfl) ?_
     refine ZP 3 61 rfl (cvB (beq_iff_eq.2 hkd)) ?_
     refine Rr (ZN underlying96 rfl sizeOf5 rfl) ?_
     refine ZP 3 61 rfl (cvB (beq_iff_eq.2 hkd)) ?_
     refine Rr (ZB isAgg5 rfl (hb8.at.get 4 rfl)) ?_
     refine ZP 3 61 rfl (cvB (beq_iff_eq.2 hkd)) ?_
     refine Rr (o_rem8 (a := (l.getD k rcz).b.toNat) (b := 4) rfl rfl (by decide) (l.getD k rcz).b.toNat_lt) ?_
     refine ZP 3 61 rfl (cvB (beq_iff_eq.2 hkd)) ?_
     refine Rr (ZZ rfl rfl) ?_
     refine Rr (Jt (v := .bool _) (cvB (beq_iff_eq.2 hkd)) rfl) ?_
     refine Qg ?_
     refine ZG rfl (fun hc4 => ?_) (fun hc4 => ?_)
     ·skip
      refine Qc ?_
      refine Rr (ZN underlying96 rfl sizeOf5 rfl) ?_
      refine Rr (ZB isAgg5 rfl (hb8.at.get 5 rfl)) ?_
      refine Rr (o_rem8 (a := (l.getD k rcz).u.toNat) (b := 24) rfl rfl (by decide) (l.getD k rcz).u.toNat_lt) ?_
      refine Rr (JJ underlying5 underlying3 rfl (JT (by unfold I64; omega))) ?_
      refine Rr (ZN underlying44 rfl sizeOf3 rfl) ?_
      refine Jb (v := .int _ _) rfl sizeOf3 rfl rfl hb9 rfl rfl rfl ?_
      intro w26 c27 hb9
      change Box _ _ _ ([.bool _, .int _ _, .int _ _, .int _ _, .int _ _, str _, str _, .bool _]) at hb9
      have z28 := Bel.size c27
      replace hX := Bel.out hX c27 om2
      replace hXL7 := Bel.out hXL7 c27 om2
      replace hown := hown.keepD c27 om3
      refine Qg (QH (Qc ?_))
      refine Rr (Zt (v := t) rfl) ?_
      obtain ⟨o9, hb9, hp9, hk9⟩ := ro_packK hb9
      have hok9 : RoK o9 := ⟨by rw [hp9]; first | exact pz_ok | exact J0 _ | exact (things_ok hGk _ (gm (z := coz) (Nat.mod_lt _ hTl))), by rw [hk9]; (try dsimp only); first | omega | (have hq := JL (M := M) (G := G) (L := L) _ (gm (z := coz) (Nat.mod_lt (l.getD k rcz).a.toNat hTl)); omega), by rw [hk9]; (try dsimp only); first | omega | (have hq := JL (M := M) (G := G) (L := L) _ (gm (z := coz) (Nat.mod_lt (l.getD k rcz).a.toNat hTl)); omega)⟩
      refine Rr (ZO isAgg44 sizeOf44 rfl hb9.at rfl) ?_
      refine Jh (vs := [.agg _]) ([o9]) rfl ZV JW rfl rfl ⟨rfl, trivial⟩ rfl rfl rfl rfl ?_
      intro a74 w29 x30 hown74
      have z31 := x30.size
      replace hX := hX.ex x30
      replace hXL7 := Bel.ex hXL7 x30
      replace hown := hown.ext x30
      replace hown74 := hown74.mono (D' := fun g => n5 ≤ g) (fun g h1 h2 => by omega)
      refine Jd rfl ZV JW rfl rfl hown (hown74.slA ZV) rfl (by rw [List.length_singleton]; omega) omU ?_
      intro v75 w32 x33 hown
      have z34 := x33.size
      replace hX := Bel.out hX x33 om2
      replace hXL7 := Bel.out hXL7 x33 om2
      refine Rr (ZD (v := v75) rfl) ?_
      refine Qg (Z4 (ZX (Qc ?_)))
      refine Rr (Z1 rfl rfl omg) ?_
      refine Rr (mvI rfl) ?_
      refine Qg ?_
      refine ⟨(k + 1, v75, O ++ [o9]), ⟨sT, sT, trivial⟩, oT, ⟨?_, hXL7, ?_⟩, ?_⟩
      ·exact ⟨by show k + 1 ≤ l.length; omega, by show k + 1 ≤ 10; omega, by simp; omega, fun o h => (List.mem_append.1 h).elim (hOk o) (fun h => (List.mem_singleton.1 h) ▸ hok9)⟩
      ·exact hown.mono (fun g h1 h2 => by omega)
      ·show l.length - (k + 1) < l.length - k; omega
     skip
     refine ZH (QH (Qc ?_))
     refine Rr (Zt (v := t) rfl) ?_
     obtain ⟨o9, hb9, hp9, hk9⟩ := ro_packK hb9
     have hok9 : RoK o9 := ⟨by rw [hp9]; first | exact pz_ok | exact J0 _ | exact (things_ok hGk _ (gm (z := coz) (Nat.mod_lt _ hTl))), by rw [hk9]; (try dsimp only); first | omega | (have hq := JL (M := M) (G := G) (L := L) _ (gm (z := coz) (Nat.mod_lt (l.getD k rcz).a.toNat hTl)); omega), by rw [hk9]; (try dsimp only); first | omega | (have hq := JL (M := M) (G := G) (L := L) _ (gm (z := coz) (Nat.mod_lt (l.getD k rcz).a.toNat hTl)); omega)⟩
     refine Rr (ZO isAgg44 sizeOf44 rfl hb9.at rfl) ?_
     refine Jh (vs := [.agg _]) ([o9]) rfl ZV JW rfl rfl ⟨rfl, trivial⟩ rfl rfl rfl rfl ?_
     intro a74 w35 x36 hown74
     have z37 := x36.size
     replace hX := hX.ex x36
     replace hXL7 := Bel.ex hXL7 x36
     replace hown := hown.ext x36
     replace hown74 := hown74.mono (D' := fun g => n5 ≤ g) (fun g h1 h2 => by omega)
     refine Jd rfl ZV JW rfl rfl hown (hown74.slA ZV) rfl (by rw [List.length_singleton]; omega) omU ?_
     intro v75 w38 x39 hown
     have z40 := x39.size
     replace hX := Bel.out hX x39 om2
     replace hXL7 := Bel.out hXL7 x39 om2
     refine Rr (ZD (v := v75) rfl) ?_
     refine Qg (Z4 (ZX (Qc ?_)))
     refine Rr (Z1 rfl rfl omg) ?_
     refine Rr (mvI rfl) ?_
     refine Qg ?_
     refine ⟨(k + 1, v75, O ++ [o9]), ⟨sT, sT, trivial⟩, oT, ⟨?_, hXL7, ?_⟩, ?_⟩
     ·exact ⟨by show k + 1 ≤ l.length; omega, by show k + 1 ≤ 10; omega, by simp; omega, fun o h => (List.mem_append.1 h).elim (hOk o) (fun h => (List.mem_singleton.1 h) ▸ hok9)⟩
     ·exact hown.mono (fun g h1 h2 => by omega)
     ·show l.length - (k + 1) < l.length - k; omega
    refine Rr (ZN underlying44 rfl sizeOf3 rfl) ?_
    refine Rr (ZB isAgg3 rfl (hb9.at.get 1 rfl)) ?_
    refine Rr (ZZ rfl rfl) ?_
    refine Rr (mvB rfl) ?_
    refine ZR 3 61 rfl rfl (cvB (neF hkd)) rfl rfl ?_
    refine ZR 3 61 rfl rfl (cvB (neF hkd)) rfl rfl ?_
    refine ZR 3 61 rfl rfl (cvB (neF hkd)) rfl rfl ?_
    refine ZR 3 61 rfl rfl (cvB (neF hkd)) rfl rfl ?_
    refine Rr (Jo (v := .bool _) (cvB (neF hkd)) rfl) ?_
    refine Qg ?_
    refine ZY rfl ?_
    refine ZH (QH (Qc ?_))
    refine Rr (Zt (v := t) rfl) ?_
    obtain ⟨o9, hb9, hp9, hk9⟩ := ro_packK hb9
    have hok9 : RoK o9 := ⟨by rw [hp9]; first | exact pz_ok | exact J0 _ | exact (things_ok hGk _ (gm (z := coz) (Nat.mod_lt _ hTl))), by rw [hk9]; (try dsimp only); first | omega | (have hq := JL (M := M) (G := G) (L := L) _ (gm (z := coz) (Nat.mod_lt (l.getD k rcz).a.toNat hTl)); omega), by rw [hk9]; (try dsimp only); first | omega | (have hq := JL (M := M) (G := G) (L := L) _ (gm (z := coz) (Nat.mod_lt (l.getD k rcz).a.toNat hTl)); omega)⟩
    refine Rr (ZO isAgg44 sizeOf44 rfl hb9.at rfl) ?_
    refine Jh (vs := [.agg _]) ([o9]) rfl ZV JW rfl rfl ⟨rfl, trivial⟩ rfl rfl rfl rfl ?_
    intro a74 w41 x42 hown74
    have z43 := x42.size
    replace hX := hX.ex x42
    replace hXL7 := Bel.ex hXL7 x42
    replace hown := hown.ext x42
    replace hown74 := hown74.mono (D' := fun g => n5 ≤ g) (fun g h1 h2 => by omega)
    refine Jd rfl ZV JW rfl rfl hown (hown74.slA ZV) rfl (by rw [List.length_singleton]; omega) omU ?_
    intro v75 w44 x45 hown
    have z46 := x45.size
    replace hX := Bel.out hX x45 om2
    replace hXL7 := Bel.out hXL7 x45 om2
    refine Rr (ZD (v := v75) rfl) ?_
    refine Qg (Z4 (ZX (Qc ?_)))
    refine Rr (Z1 rfl rfl omg) ?_
    refine Rr (mvI rfl) ?_
    refine Qg ?_
    refine ⟨(k + 1, v75, O ++ [o9]), ⟨sT, sT, trivial⟩, oT, ⟨?_, hXL7, ?_⟩, ?_⟩
    ·exact ⟨by show k + 1 ≤ l.length; omega, by show k + 1 ≤ 10; omega, by simp; omega, fun o h => (List.mem_append.1 h).elim (hOk o) (fun h => (List.mem_singleton.1 h) ▸ hok9)⟩
    ·exact hown.mono (fun g h1 h2 => by omega)
    ·show l.length - (k + 1) < l.length - k; omega
   skip
   refine ZH (QH (QH (Qc ?_)))
   refine (Decidable.em (((1 + (l.getD k rcz).k.toNat % 3 : Nat) : Int) = 1)).elim (fun hk1e => ?_) (fun hk1e => ?_)
   ·refine Rr (ZN underlying44 rfl sizeOf3 rfl) ?_
    refine Rr (ZB isAgg3 rfl (hb9.at.get 1 rfl)) ?_
    refine Rr (ZZ rfl rfl) ?_
    refine Qg ?_
    refine Jc (cvB (beq_iff_eq.2 hk1e)) ?_
    refine Qc ?_
    refine Rr (ZN underlying96 rfl sizeOf5 rfl) ?_
    refine Rr (ZB isAgg5 rfl (hb8.at.get 5 rfl)) ?_
    refine Rr (o_rem8 (a := (l.getD k rcz).u.toNat) (b := 24) rfl rfl (by decide) (l.getD k rcz).u.toNat_lt) ?_
    refine Rr (JJ underlying5 underlying3 rfl (JT (by unfold I64; omega))) ?_
    refine Rr (ZN underlying44 rfl sizeOf3 rfl) ?_
    refine Jb (v := .int _ _) rfl sizeOf3 rfl rfl hb9 rfl rfl rfl ?_
    intro w47 c48 hb9
    change Box _ _ _ ([.bool _, .int _ _, .int _ _, .int _ _, .int _ _, str _, str _, .bool _]) at hb9
    have z49 := Bel.size c48
    replace hX := Bel.out hX c48 om2
    replace hXL7 := Bel.out hXL7 c48 om2
    replace hown := hown.keepD c48 om3
    refine Qg (QH (QH (Qc ?_)))
    refine Rr (ZN underlying44 rfl sizeOf3 rfl) ?_
    refine Rr (ZB isAgg3 rfl (hb9.at.get 1 rfl)) ?_
    refine Rr (ZZ rfl rfl) ?_
    refine Qg ?_
    refine ZY (cvB (neF (show ((1 + (l.getD k rcz).k.toNat % 3 : Nat) : Int) ≠ 2 by omega))) ?_
    refine ZH (QH (QH (Qc ?_)))
    refine Rr (ZN underlying44 rfl sizeOf3 rfl) ?_
    refine Rr (ZB isAgg3 rfl (hb9.at.get 1 rfl)) ?_
    refine Rr (ZZ rfl rfl) ?_
    refine Rr (mvB rfl) ?_
    refine ZR 3 95 rfl rfl (cvB (neF (show ((1 + (l.getD k rcz).k.toNat % 3 : Nat) : Int) ≠ 3 by omega))) rfl rfl ?_
    refine ZR 3 95 rfl rfl (cvB (neF (show ((1 + (l.getD k rcz).k.toNat % 3 : Nat) : Int) ≠ 3 by omega))) rfl rfl ?_
    refine ZR 3 95 rfl rfl (cvB (neF (show ((1 + (l.getD k rcz).k.toNat % 3 : Nat) : Int) ≠ 3 by omega))) rfl rfl ?_
    refine ZR 3 95 rfl rfl (cvB (neF (show ((1 + (l.getD k rcz).k.toNat % 3 : Nat) : Int) ≠ 3 by omega))) rfl rfl ?_
    refine ZR 3 95 rfl rfl (cvB (neF (show ((1 + (l.getD k rcz).k.toNat % 3 : Nat) : Int) ≠ 3 by omega))) rfl rfl ?_
    refine Rr (Jo (v := .bool _) (cvB (neF (show ((1 + (l.getD k rcz).k.toNat % 3 : Nat) : Int) ≠ 3 by omega))) rfl) ?_
    refine Qg ?_
    refine ZY rfl ?_
    refine ZH (Qc ?_)
    refine Rr (Zt (v := t) rfl) ?_
    obtain ⟨o9, hb9, hp9, hk9⟩ := ro_packK hb9
    have hok9 : RoK o9 := ⟨by rw [hp9]; first | exact pz_ok | exact J0 _ | exact (things_ok hGk _ (gm (z := coz) (Nat.mod_lt _ hTl))), by rw [hk9]; (try dsimp only); first | omega | (have hq := JL (M := M) (G := G) (L := L) _ (gm (z := coz) (Nat.mod_lt (l.getD k rcz).a.toNat hTl)); omega), by rw [hk9]; (try dsimp only); first | omega | (have hq := JL (M := M) (G := G) (L := L) _ (gm (z := coz) (Nat.mod_lt (l.getD k rcz).a.toNat hTl)); omega)⟩
    refine Rr (ZO isAgg44 sizeOf44 rfl hb9.at rfl) ?_
    refine Jh (vs := [.agg _]) ([o9]) rfl ZV JW rfl rfl ⟨rfl, trivial⟩ rfl rfl rfl rfl ?_
    intro a109 w50 x51 hown109
    have z52 := x51.size
    replace hX := hX.ex x51
    replace hXL7 := Bel.ex hXL7 x51
    replace hown := hown.ext x51
    replace hown109 := hown109.mono (D' := fun g => n5 ≤ g) (fun g h1 h2 => by omega)
    refine Jd rfl ZV JW rfl rfl hown (hown109.slA ZV) rfl (by rw [List.length_singleton]; omega) omU ?_
    intro v110 w53 x54 hown
    have z55 := x54.size
    replace hX := Bel.out hX x54 om2
    replace hXL7 := Bel.out hXL7 x54 om2
    refine Rr (ZD (v := v110) rfl) ?_
    refine Qg (Qc ?_)
    refine Rr (Z1 rfl rfl omg) ?_
    refine Rr (mvI rfl) ?_
    refine Qg ?_
    refine ⟨(k + 1, v110, O ++ [o9]), ⟨sT, sT, trivial⟩, oT, ⟨?_, hXL7, ?_⟩, ?_⟩
    ·exact ⟨by show k + 1 ≤ l.length; omega, by show k + 1 ≤ 10; omega, by simp; omega, fun o h => (List.mem_append.1 h).elim (hOk o) (fun h => (List.mem_singleton.1 h) ▸ hok9)⟩
    ·exact hown.mono (fun g h1 h2 => by omega)
    ·show l.length - (k + 1) < l.length - k; omega
   refine Rr (ZN underlying44 rfl sizeOf3 rfl) ?_
   refine Rr (ZB isAgg3 rfl (hb9.at.get 1 rfl)) ?_
   refine Rr (ZZ rfl rfl) ?_
   refine Qg ?_
   refine ZY (cvB (neF hk1e)) ?_
   refine ZH (QH (QH (Qc ?_)))
   refine (Decidable.em (((1 + (l.getD k rcz).k.toNat % 3 : Nat) : Int) = 2)).elim (fun hk2e => ?_) (fun hk2e => ?_)
   ·refine Rr (ZN underlying44 rfl sizeOf3 rfl) ?_
    refine Rr (ZB isAgg3 rfl (hb9.at.get 1 rfl)) ?_
    refine Rr (ZZ rfl rfl) ?_
    refine Qg ?_
    refine Jc (cvB (beq_iff_eq.2 hk2e)) ?_
    refine Qc ?_
    refine Rr (ZN underlying96 rfl sizeOf5 rfl) ?_
    refine Rr (ZB isAgg5 rfl (hb8.at.get 4 rfl)) ?_
    refine ZC rfl (ZK call38 rfl) (Ok.mono (perm24_ok _ (l.getD k rcz).b) ?_)
    rintro _ w56 ⟨rfl, x57⟩
    have z58 := x57.size
    replace hX := hX.ex x57
    replace hXL7 := Bel.ex hXL7 x57
    replace hown := hown.ext x57
    replace hb9 := hb9.ext x57
    refine Rr (ZN underlying44 rfl sizeOf3 rfl) ?_
    refine Jb (v := .int _ _) rfl sizeOf3 rfl rfl hb9 rfl rfl rfl ?_
    intro w59 c60 hb9
    change Box _ _ _ ([.bool _, .int _ _, .int _ _, .int _ _, .int _ _, str _, str _, .bool _]) at hb9
    have z61 := Bel.size c60
    replace hX := Bel.out hX c60 om2
    replace hXL7 := Bel.out hXL7 c60 om2
    replace hown := hown.keepD c60 om3
    refine Rr (ZN underlying44 rfl sizeOf42 rfl) ?_
    refine Jb (v := .agg _) rfl sizeOf42 rfl rfl hb9 rfl rfl rfl ?_
    intro w62 c63 hb9
    change Box _ _ _ ([.bool _, .int _ _, .int _ _, .int _ _, .int _ _, str _, str _, .bool _]) at hb9
    have z64 := Bel.size c63
    replace hX := Bel.out hX c63 om2
    replace hXL7 := Bel.out hXL7 c63 om2
    replace hown := hown.keepD c63 om3
    refine Qg (QH (QH (Qc ?_)))
    refine Rr (ZN underlying44 rfl sizeOf3 rfl) ?_
    refine Rr (ZB isAgg3 rfl (hb9.at.get 1 rfl)) ?_
    refine Rr (ZZ rfl rfl) ?_
    refine Rr (mvB rfl) ?_
    refine ZR 3 95 rfl rfl (cvB (neF (show ((1 + (l.getD k rcz).k.toNat % 3 : Nat) : Int) ≠ 3 by omega))) rfl rfl ?_
    refine ZR 3 95 rfl rfl (cvB (neF (show ((1 + (l.getD k rcz).k.toNat % 3 : Nat) : Int) ≠ 3 by omega))) rfl rfl ?_
    refine ZR 3 95 rfl rfl (cvB (neF (show ((1 + (l.getD k rcz).k.toNat % 3 : Nat) : Int) ≠ 3 by omega))) rfl rfl ?_
    refine ZR 3 95 rfl rfl (cvB (neF (show ((1 + (l.getD k rcz).k.toNat % 3 : Nat) : Int) ≠ 3 by omega))) rfl rfl ?_
    refine ZR 3 95 rfl rfl (cvB (neF (show ((1 + (l.getD k rcz).k.toNat % 3 : Nat) : Int) ≠ 3 by omega))) rfl rfl ?_
    refine Rr (Jo (v := .bool _) (cvB (neF (show ((1 + (l.getD k rcz).k.toNat % 3 : Nat) : Int) ≠ 3 by omega))) rfl) ?_
    refine Qg ?_
    refine ZY rfl ?_
    refine ZH (Qc ?_)
    refine Rr (Zt (v := t) rfl) ?_
    obtain ⟨o9, hb9, hp9, hk9⟩ := ro_packK hb9
    have hok9 : RoK o9 := ⟨by rw [hp9]; first | exact pz_ok | exact J0 _ | exact (things_ok hGk _ (gm (z := coz) (Nat.mod_lt _ hTl))), by rw [hk9]; (try dsimp only); first | omega | (have hq := JL (M := M) (G := G) (L := L) _ (gm (z := coz) (Nat.mod_lt (l.getD k rcz).a.toNat hTl)); omega), by rw [hk9]; (try dsimp only); first | omega | (have hq := JL (M := M) (G := G) (L := L) _ (gm (z := coz) (Nat.mod_lt (l.getD k rcz).a.toNat hTl)); omega)⟩
    refine Rr (ZO isAgg44 sizeOf44 rfl hb9.at rfl) ?_
    refine Jh (vs := [.agg _]) ([o9]) rfl ZV JW rfl rfl ⟨rfl, trivial⟩ rfl rfl rfl rfl ?_
    intro a109 w65 x66 hown109
    have z67 := x66.size
    replace hX := hX.ex x66
    replace hXL7 := Bel.ex hXL7 x66
    replace hown := hown.ext x66
    replace hown109 := hown109.mono (D' := fun g => n5 ≤ g) (fun g h1 h2 => by omega)
    refine Jd rfl ZV JW rfl rfl hown (hown109.slA ZV) rfl (by rw [List.length_singleton]; omega) omU ?_
    intro v110 w68 x69 hown
    have z70 := x69.size
    replace hX := Bel.out hX x69 om2
    replace hXL7 := Bel.out hXL7 x69 om2
    refine Rr (ZD (v := v110) rfl) ?_
    refine Qg (Qc ?_)
    refine Rr (Z1 rfl rfl omg) ?_
    refine Rr (mvI rfl) ?_
    refine Qg ?_
    refine ⟨(k + 1, v110, O ++ [o9]), ⟨sT, sT, trivial⟩, oT, ⟨?_, hXL7, ?_⟩, ?_⟩
    ·exact ⟨by show k + 1 ≤ l.length; omega, by show k + 1 ≤ 10; omega, by simp; omega, fun o h => (List.mem_append.1 h).elim (hOk o) (fun h => (List.mem_singleton.1 h) ▸ hok9)⟩
    ·exact hown.mono (fun g h1 h2 => by omega)
    ·show l.length - (k + 1) < l.length - k; omega
   refine Rr (ZN underlying44 rfl sizeOf3 rfl) ?_
   refine Rr (ZB isAgg3 rfl (hb9.at.get 1 rfl)) ?_
   refine Rr (ZZ rfl rfl) ?_
   refine Qg ?_
   refine ZY (cvB (neF hk2e)) ?_
   refine ZH (QH (QH (Qc ?_)))
   refine Rr (ZN underlying44 rfl sizeOf3 rfl) ?_
   refine Rr (ZB isAgg3 rfl (hb9.at.get 1 rfl)) ?_
   refine Rr (ZZ rfl rfl) ?_
   refine Rr (mvB rfl) ?_
   refine ZP 3 95 rfl (cvB (beq_iff_eq.2 (show ((1 + (l.getD k rcz).k.toNat % 3 : Nat) : Int) = 3 by omega))) ?_
   refine Rr (ZN underlying44 rfl sizeOf3 rfl) ?_
   refine ZP 3 95 rfl (cvB (beq_iff_eq.2 (show ((1 + (l.getD k rcz).k.toNat % 3 : Nat) : Int) = 3 by omega))) ?_
   refine Rr (ZB isAgg3 rfl (hb9.at.get 2 rfl)) ?_
   refine ZP 3 95 rfl (cvB (beq_iff_eq.2 (show ((1 + (l.getD k rcz).k.toNat % 3 : Nat) : Int) = 3 by omega))) ?_
   refine Rr (ZN underlying44 rfl sizeOf3 rfl) ?_
   refine ZP 3 95 rfl (cvB (beq_iff_eq.2 (show ((1 + (l.getD k rcz).k.toNat % 3 : Nat) : Int) = 3 by omega))) ?_
   refine Rr (ZB isAgg3 rfl (hb9.at.get 3 rfl)) ?_
   refine ZP 3 95 rfl (cvB (beq_iff_eq.2 (show ((1 + (l.getD k rcz).k.toNat % 3 : Nat) : Int) = 3 by omega))) ?_
   refine Rr (ZZ rfl rfl) ?_
   refine Rr (Jt (v := .bool _) (cvB (beq_iff_eq.2 (show ((1 + (l.getD k rcz).k.toNat % 3 : Nat) : Int) = 3 by omega))) rfl) ?_
   refine Qg ?_
   refine ZG rfl (fun hc13 => ?_) (fun hc13 => ?_)
   ·skip
    refine Qc ?_
    refine Rr (ZN underlying44 rfl sizeOf3 rfl) ?_
    refine Rr (ZB isAgg3 rfl (hb9.at.get 2 rfl)) ?_
    refine Rr (Jp (a := (1 + (l.getD k rcz).a.toNat % 6)) (b := 6) rfl rfl (by decide) (by omega)) ?_
    refine Rr (Jr (p := 1) (b := (1 + (l.getD k rcz).a.toNat % 6) % 6) rfl rfl (by omega)) ?_
    refine Rr (ZN underlying44 rfl sizeOf3 rfl) ?_
    refine Jb (v := .int _ _) rfl sizeOf3 rfl rfl hb9 rfl rfl rfl ?_
    intro w71 c72 hb9
    change Box _ _ _ ([.bool _, .int _ _, .int _ _, .int _ _, .int _ _, str _, str _, .bool _]) at hb9
    have z73 := Bel.size c72
    replace hX := Bel.out hX c72 om2
    replace hXL7 := Bel.out hXL7 c72 om2
    replace hown := hown.keepD c72 om3
    refine Qg (Qc ?_)
    refine Rr (Zt (v := t) rfl) ?_
    obtain ⟨o9, hb9, hp9, hk9⟩ := ro_packK hb9
    have hok9 : RoK o9 := ⟨by rw [hp9]; first | exact pz_ok | exact J0 _ | exact (things_ok hGk _ (gm (z := coz) (Nat.mod_lt _ hTl))), by rw [hk9]; (try dsimp only); first | omega | (have hq := JL (M := M) (G := G) (L := L) _ (gm (z := coz) (Nat.mod_lt (l.getD k rcz).a.toNat hTl)); omega), by rw [hk9]; (try dsimp only); first | omega | (have hq := JL (M := M) (G := G) (L := L) _ (gm (z := coz) (Nat.mod_lt (l.getD k rcz).a.toNat hTl)); omega)⟩
    refine Rr (ZO isAgg44 sizeOf44 rfl hb9.at rfl) ?_
    refine Jh (vs := [.agg _]) ([o9]) rfl ZV JW rfl rfl ⟨rfl, trivial⟩ rfl rfl rfl rfl ?_
    intro a109 w74 x75 hown109
    have z76 := x75.size
    replace hX := hX.ex x75
    replace hXL7 := Bel.ex hXL7 x75
    replace hown := hown.ext x75
    replace hown109 := hown109.mono (D' := fun g => n5 ≤ g) (fun g h1 h2 => by omega)
    refine Jd rfl ZV JW rfl rfl hown (hown109.slA ZV) rfl (by rw [List.length_singleton]; omega) omU ?_
    intro v110 w77 x78 hown
    have z79 := x78.size
    replace hX := Bel.out hX x78 om2
    replace hXL7 := Bel.out hXL7 x78 om2
    refine Rr (ZD (v := v110) rfl) ?_
    refine Qg (Qc ?_)
    refine Rr (Z1 rfl rfl omg) ?_
    refine Rr (mvI rfl) ?_
    refine Qg ?_
    refine ⟨(k + 1, v110, O ++ [o9]), ⟨sT, sT, trivial⟩, oT, ⟨?_, hXL7, ?_⟩, ?_⟩
    ·exact ⟨by show k + 1 ≤ l.length; omega, by show k + 1 ≤ 10; omega, by simp; omega, fun o h => (List.mem_append.1 h).elim (hOk o) (fun h => (List.mem_singleton.1 h) ▸ hok9)⟩
    ·exact hown.mono (fun g h1 h2 => by omega)
    ·show l.length - (k + 1) < l.length - k; omega
   skip
   refine ZH (Qc ?_)
   refine Rr (Zt (v := t) rfl) ?_
   obtain ⟨o9, hb9, hp9, hk9⟩ := ro_packK hb9
   have hok9 : RoK o9 := ⟨by rw [hp9]; first | exact pz_ok | exact J0 _ | exact (things_ok hGk _ (gm (z := coz) (Nat.mod_lt _ hTl))), by rw [hk9]; (try dsimp only); first | omega | (have hq := JL (M := M) (G := G) (L := L) _ (gm (z := coz) (Nat.mod_lt (l.getD k rcz).a.toNat hTl)); omega), by rw [hk9]; (try dsimp only); first | omega | (have hq := JL (M := M) (G := G) (L := L) _ (gm (z := coz) (Nat.mod_lt (l.getD k rcz).a.toNat hTl)); omega)⟩
   refine Rr (ZO isAgg44 sizeOf44 rfl hb9.at rfl) ?_
   refine Jh (vs := [.agg _]) ([o9]) rfl ZV JW rfl rfl ⟨rfl, trivial⟩ rfl rfl rfl rfl ?_
   intro a109 w80 x81 hown109
   have z82 := x81.size
   replace hX := hX.ex x81
   replace hXL7 := Bel.ex hXL7 x81
   replace hown := hown.ext x81
   replace hown109 := hown109.mono (D' := fun g => n5 ≤ g) (fun g h1 h2 => by omega)
   refine Jd rfl ZV JW rfl rfl hown (hown109.slA ZV) rfl (by rw [List.length_singleton]; omega) omU ?_
   intro v110 w83 x84 hown
   have z85 := x84.size
   replace hX := Bel.out hX x84 om2
   replace hXL7 := Bel.out hXL7 x84 om2
   refine Rr (ZD (v := v110) rfl) ?_
   refine Qg (Qc ?_)
   refine Rr (Z1 rfl rfl omg) ?_
   refine Rr (mvI rfl) ?_
   refine Qg ?_
   refine ⟨(k + 1, v110, O ++ [o9]), ⟨sT, sT, trivial⟩, oT, ⟨?_, hXL7, ?_⟩, ?_⟩
   ·exact ⟨by show k + 1 ≤ l.length; omega, by show k + 1 ≤ 10; omega, by simp; omega, fun o h => (List.mem_append.1 h).elim (hOk o) (fun h => (List.mem_singleton.1 h) ▸ hok9)⟩
   ·exact hown.mono (fun g h1 h2 => by omega)
   ·show l.length - (k + 1) < l.length - k; omega
  refine Rr (ZN underlying96 rfl sizeOf4 rfl) ?_
  refine Rr (ZB isAgg4 rfl (hb8.at.get 1 rfl)) ?_
  refine Rr (mvB rfl) ?_
  refine ZR 2 41 rfl rfl (cvB (Bool.eq_false_iff.2 hold)) rfl rfl ?_
  refine ZR 2 41 rfl rfl (cvB (Bool.eq_false_iff.2 hold)) rfl rfl ?_
  refine ZR 2 41 rfl rfl (cvB (Bool.eq_false_iff.2 hold)) rfl rfl ?_
  refine Rr (Jo (v := .bool _) (cvB (Bool.eq_false_iff.2 hold)) rfl) ?_
  refine Qg ?_
  refine ZY rfl ?_
  refine ZH (QH (QH (Qc ?_)))
  refine (Decidable.em (((1 + (l.getD k rcz).k.toNat % 3 : Nat) : Int) = 1)).elim (fun hk1e => ?_) (fun hk1e => ?_)
  ·refine Rr (ZN underlying44 rfl sizeOf3 rfl) ?_
   refine Rr (ZB isAgg3 rfl (hb9.at.get 1 rfl)) ?_
   refine Rr (ZZ rfl rfl) ?_
   refine Qg ?_
   refine Jc (cvB (beq_iff_eq.2 hk1e)) ?_
   refine Qc ?_
   refine Rr (ZN underlying96 rfl sizeOf5 rfl) ?_
   refine Rr (ZB isAgg5 rfl (hb8.at.get 5 rfl)) ?_
   refine Rr (o_rem8 (a := (l.getD k rcz).u.toNat) (b := 24) rfl rfl (by decide) (l.getD k rcz).u.toNat_lt) ?_
   refine Rr (JJ underlying5 underlying3 rfl (JT (by unfold I64; omega))) ?_
   refine Rr (ZN underlying44 rfl sizeOf3 rfl) ?_
   refine Jb (v := .int _ _) rfl sizeOf3 rfl rfl hb9 rfl rfl rfl ?_
   intro w86 c87 hb9
   change Box _ _ _ ([.bool _, .int _ _, .int _ _, .int _ _, .int _ _, str _, str _, .bool _]) at hb9
   have z88 := Bel.size c87
   replace hX := Bel.out hX c87 om2
   replace hXL7 := Bel.out hXL7 c87 om2
   replace hown := hown.keepD c87 om3
   refine Qg (QH (QH (Qc ?_)))
   refine Rr (ZN underlying44 rfl sizeOf3 rfl) ?_
   refine Rr (ZB isAgg3 rfl (hb9.at.get 1 rfl)) ?_
   refine Rr (ZZ rfl rfl) ?_
   refine Qg ?_
   refine ZY (cvB (neF (show ((1 + (l.getD k rcz).k.toNat % 3 : Nat) : Int) ≠ 2 by omega))) ?_
   refine ZH (QH (QH (Qc ?_)))
   refine Rr (ZN underlying44 rfl sizeOf3 rfl) ?_
   refine Rr (ZB isAgg3 rfl (hb9.at.get 1 rfl)) ?_
   refine Rr (ZZ rfl rfl) ?_
   refine Rr (mvB rfl) ?_
   refine ZR 3 95 rfl rfl (cvB (neF (show ((1 + (l.getD k rcz).k.toNat % 3 : Nat) : Int) ≠ 3 by omega))) rfl rfl ?_
   refine ZR 3 95 rfl rfl (cvB (neF (show ((1 + (l.getD k rcz).k.toNat % 3 : Nat) : Int) ≠ 3 by omega))) rfl rfl ?_
   refine ZR 3 95 rfl rfl (cvB (neF (show ((1 + (l.getD k rcz).k.toNat % 3 : Nat) : Int) ≠ 3 by omega))) rfl rfl ?_
   refine ZR 3 95 rfl rfl (cvB (neF (show ((1 + (l.getD k rcz).k.toNat % 3 : Nat) : Int) ≠ 3 by omega))) rfl rfl ?_
   refine ZR 3 95 rfl rfl (cvB (neF (show ((1 + (l.getD k rcz).k.toNat % 3 : Nat) : Int) ≠ 3 by omega))) rfl rfl ?_
   refine Rr (Jo (v := .bool _) (cvB (neF (show ((1 + (l.getD k rcz).k.toNat % 3 : Nat) : Int) ≠ 3 by omega))) rfl) ?_
   refine Qg ?_
   refine ZY rfl ?_
   refine ZH (Qc ?_)
   refine Rr (Zt (v := t) rfl) ?_
   obtain ⟨o9, hb9, hp9, hk9⟩ := ro_packK hb9
   have hok9 : RoK o9 := ⟨by rw [hp9]; first | exact pz_ok | exact J0 _ | exact (things_ok hGk _ (gm (z := coz) (Nat.mod_lt _ hTl))), by rw [hk9]; (try dsimp only); first | omega | (have hq := JL (M := M) (G := G) (L := L) _ (gm (z := coz) (Nat.mod_lt (l.getD k rcz).a.toNat hTl)); omega), by rw [hk9]; (try dsimp only); first | omega | (have hq := JL (M := M) (G := G) (L := L) _ (gm (z := coz) (Nat.mod_lt (l.getD k rcz).a.toNat hTl)); omega)⟩
   refine Rr (ZO isAgg44 sizeOf44 rfl hb9.at rfl) ?_
   refine Jh (vs := [.agg _]) ([o9]) rfl ZV JW rfl rfl ⟨rfl, trivial⟩ rfl rfl rfl rfl ?_
   intro a109 w89 x90 hown109
   have z91 := x90.size
   replace hX := hX.ex x90
   replace hXL7 := Bel.ex hXL7 x90
   replace hown := hown.ext x90
   replace hown109 := hown109.mono (D' := fun g => n5 ≤ g) (fun g h1 h2 => by omega)
   refine Jd rfl ZV JW rfl rfl hown (hown109.slA ZV) rfl (by rw [List.length_singleton]; omega) omU ?_
   intro v110 w92 x93 hown
   have z94 := x93.size
   replace hX := Bel.out hX x93 om2
   replace hXL7 := Bel.out hXL7 x93 om2
   refine Rr (ZD (v := v110) rfl) ?_
   refine Qg (Qc ?_)
   refine Rr (Z1 rfl rfl omg) ?_
   refine Rr (mvI rfl) ?_
   refine Qg ?_
   refine ⟨(k + 1, v110, O ++ [o9]), ⟨sT, sT, trivial⟩, oT, ⟨?_, hXL7, ?_⟩, ?_⟩
   ·exact ⟨by show k + 1 ≤ l.length; omega, by show k + 1 ≤ 10; omega, by simp; omega, fun o h => (List.mem_append.1 h).elim (hOk o) (fun h => (List.mem_singleton.1 h) ▸ hok9)⟩
   ·exact hown.mono (fun g h1 h2 => by omega)
   ·show l.length - (k + 1) < l.length - k; omega
  refine Rr (ZN underlying44 rfl sizeOf3 rfl) ?_
  refine Rr (ZB isAgg3 rfl (hb9.at.get 1 rfl)) ?_
  refine Rr (ZZ rfl rfl) ?_
  refine Qg ?_
  refine ZY (cvB (neF hk1e)) ?_
  refine ZH (QH (QH (Qc ?_)))
  refine (Decidable.em (((1 + (l.getD k rcz).k.toNat % 3 : Nat) : Int) = 2)).elim (fun hk2e => ?_) (fun hk2e => ?_)
  ·refine Rr (ZN underlying44 rfl sizeOf3 rfl) ?_
   refine Rr (ZB isAgg3 rfl (hb9.at.get 1 rfl)) ?_
   refine Rr (ZZ rfl rfl) ?_
   refine Qg ?_
   refine Jc (cvB (beq_iff_eq.2 hk2e)) ?_
   refine Qc ?_
   refine Rr (ZN underlying96 rfl sizeOf5 rfl) ?_
   refine Rr (ZB isAgg5 rfl (hb8.at.get 4 rfl)) ?_
   refine ZC rfl (ZK call38 rfl) (Ok.mono (perm24_ok _ (l.getD k rcz).b) ?_)
   rintro _ w95 ⟨rfl, x96⟩
   have z97 := x96.size
   replace hX := hX.ex x96
   replace hXL7 := Bel.ex hXL7 x96
   replace hown := hown.ext x96
   replace hb9 := hb9.ext x96
   refine Rr (ZN underlying44 rfl sizeOf3 rfl) ?_
   refine Jb (v := .int _ _) rfl sizeOf3 rfl rfl hb9 rfl rfl rfl ?_
   intro w98 c99 hb9
   change Box _ _ _ ([.bool _, .int _ _, .int _ _, .int _ _, .int _ _, str _, str _, .bool _]) at hb9
   have z100 := Bel.size c99
   replace hX := Bel.out hX c99 om2
   replace hXL7 := Bel.out hXL7 c99 om2
   replace hown := hown.keepD c99 om3
   refine Rr (ZN underlying44 rfl sizeOf42 rfl) ?_
   refine Jb (v := .agg _) rfl sizeOf42 rfl rfl hb9 rfl rfl rfl ?_
   intro w101 c102 hb9
   change Box _ _ _ ([.bool _, .int _ _, .int _ _, .int _ _, .int _ _, str _, str _, .bool _]) at hb9
   have z103 := Bel.size c102
   replace hX := Bel.out hX c102 om2
   replace hXL7 := Bel.out hXL7 c102 om2
   replace hown := hown.keepD c102 om3
   refine Qg (QH (QH (Qc ?_)))
   refine Rr (ZN underlying44 rfl sizeOf3 rfl) ?_
   refine Rr (ZB isAgg3 rfl (hb9.at.get 1 rfl)) ?_
   refine Rr (ZZ rfl rfl) ?_
   refine Rr (mvB rfl) ?_
   refine ZR 3 95 rfl rfl (cvB (neF (show ((1 + (l.getD k rcz).k.toNat % 3 : Nat) : Int) ≠ 3 by omega))) rfl rfl ?_
   refine ZR 3 95 rfl rfl (cvB (neF (show ((1 + (l.getD k rcz).k.toNat % 3 : Nat) : Int) ≠ 3 by omega))) rfl rfl ?_
   refine ZR 3 95 rfl rfl (cvB (neF (show ((1 + (l.getD k rcz).k.toNat % 3 : Nat) : Int) ≠ 3 by omega))) rfl rfl ?_
   refine ZR 3 95 rfl rfl (cvB (neF (show ((1 + (l.getD k rcz).k.toNat % 3 : Nat) : Int) ≠ 3 by omega))) rfl rfl ?_
   refine ZR 3 95 rfl rfl (cvB (neF (show ((1 + (l.getD k rcz).k.toNat % 3 : Nat) : Int) ≠ 3 by omega))) rfl rfl ?_
   refine Rr (Jo (v := .bool _) (cvB (neF (show ((1 + (l.getD k rcz).k.toNat % 3 : Nat) : Int) ≠ 3 by omega))) rfl) ?_
   refine Qg ?_
   refine ZY rfl ?_
   refine ZH (Qc ?_)
   refine Rr (Zt (v := t) rfl) ?_
   obtain ⟨o9, hb9, hp9, hk9⟩ := ro_packK hb9
   have hok9 : RoK o9 := ⟨by rw [hp9]; first | exact pz_ok | exact J0 _ | exact (things_ok hGk _ (gm (z := coz) (Nat.mod_lt _ hTl))), by rw [hk9]; (try dsimp only); first | omega | (have hq := JL (M := M) (G := G) (L := L) _ (gm (z := coz) (Nat.mod_lt (l.getD k rcz).a.toNat hTl)); omega), by rw [hk9]; (try dsimp only); first | omega | (have hq := JL (M := M) (G := G) (L := L) _ (gm (z := coz) (Nat.mod_lt (l.getD k rcz).a.toNat hTl)); omega)⟩
   refine Rr (ZO isAgg44 sizeOf44 rfl hb9.at rfl) ?_
   refine Jh (vs := [.agg _]) ([o9]) rfl ZV JW rfl rfl ⟨rfl, trivial⟩ rfl rfl rfl rfl ?_
   intro a109 w104 x105 hown109
   have z106 := x105.size
   replace hX := hX.ex x105
   replace hXL7 := Bel.ex hXL7 x105
   replace hown := hown.ext x105
   replace hown109 := hown109.mono (D' := fun g => n5 ≤ g) (fun g h1 h2 => by omega)
   refine Jd rfl ZV JW rfl rfl hown (hown109.slA ZV) rfl (by rw [List.length_singleton]; omega) omU ?_
   intro v110 w107 x108 hown
   have z109 := x108.size
   replace hX := Bel.out hX x108 om2
   replace hXL7 := Bel.out hXL7 x108 om2
   refine Rr (ZD (v := v110) rfl) ?_
   refine Qg (Qc ?_)
   refine Rr (Z1 rfl rfl omg) ?_
   refine Rr (mvI rfl) ?_
   refine Qg ?_
   refine ⟨(k + 1, v110, O ++ [o9]), ⟨sT, sT, trivial⟩, oT, ⟨?_, hXL7, ?_⟩, ?_⟩
   ·exact ⟨by show k + 1 ≤ l.length; omega, by show k + 1 ≤ 10; omega, by simp; omega, fun o h => (List.mem_append.1 h).elim (hOk o) (fun h => (List.mem_singleton.1 h) ▸ hok9)⟩
   ·exact hown.mono (fun g h1 h2 => by omega)
   ·show l.length - (k + 1) < l.length - k; omega
  refine Rr (ZN underlying44 rfl sizeOf3 rfl) ?_
  refine Rr (ZB isAgg3 rfl (hb9.at.get 1 rfl)) ?_
  refine Rr (ZZ rfl rfl) ?_
  refine Qg ?_
  refine ZY (cvB (neF hk2e)) ?_
  refine ZH (QH (QH (Qc ?_)))
  refine Rr (ZN underlying44 rfl sizeOf3 rfl) ?_
  refine Rr (ZB isAgg3 rfl (hb9.at.get 1 rfl)) ?_
  refine Rr (ZZ rfl rfl) ?_
  refine Rr (mvB rfl) ?_
  refine ZP 3 95 rfl (cvB (beq_iff_eq.2 (show ((1 + (l.getD k rcz).k.toNat % 3 : Nat) : Int) = 3 by omega))) ?_
  refine Rr (ZN underlying44 rfl sizeOf3 rfl) ?_
  refine ZP 3 95 rfl (cvB (beq_iff_eq.2 (show ((1 + (l.getD k rcz).k.toNat % 3 : Nat) : Int) = 3 by omega))) ?_
  refine Rr (ZB isAgg3 rfl (hb9.at.get 2 rfl)) ?_
  refine ZP 3 95 rfl (cvB (beq_iff_eq.2 (show ((1 + (l.getD k rcz).k.toNat % 3 : Nat) : Int) = 3 by omega))) ?_
  refine Rr (ZN underlying44 rfl sizeOf3 rfl) ?_
  refine ZP 3 95 rfl (cvB (beq_iff_eq.2 (show ((1 + (l.getD k rcz).k.toNat % 3 : Nat) : Int) = 3 by omega))) ?_
  refine Rr (ZB isAgg3 rfl (hb9.at.get 3 rfl)) ?_
  refine ZP 3 95 rfl (cvB (beq_iff_eq.2 (show ((1 + (l.getD k rcz).k.toNat % 3 : Nat) : Int) = 3 by omega))) ?_
  refine Rr (ZZ rfl rfl) ?_
  refine Rr (Jt (v := .bool _) (cvB (beq_iff_eq.2 (show ((1 + (l.getD k rcz).k.toNat % 3 : Nat) : Int) = 3 by omega))) rfl) ?_
  refine Qg ?_
  refine ZG rfl (fun hc22 => ?_) (fun hc22 => ?_)
  ·skip
   refine Qc ?_
   refine Rr (ZN underlying44 rfl sizeOf3 rfl) ?_
   refine Rr (ZB isAgg3 rfl (hb9.at.get 2 rfl)) ?_
   refine Rr (Jp (a := (1 + (l.getD k rcz).a.toNat % 6)) (b := 6) rfl rfl (by decide) (by omega)) ?_
   refine Rr (Jr (p := 1) (b := (1 + (l.getD k rcz).a.toNat % 6) % 6) rfl rfl (by omega)) ?_
   refine Rr (ZN underlying44 rfl sizeOf3 rfl) ?_
   refine Jb (v := .int _ _) rfl sizeOf3 rfl rfl hb9 rfl rfl rfl ?_
   intro w110 c111 hb9
   change Box _ _ _ ([.bool _, .int _ _, .int _ _, .int _ _, .int _ _, str _, str _, .bool _]) at hb9
   have z112 := Bel.size c111
   replace hX := Bel.out hX c111 om2
   replace hXL7 := Bel.out hXL7 c111 om2
   replace hown := hown.keepD c111 om3
   refine Qg (Qc ?_)
   refine Rr (Zt (v := t) rfl) ?_
   obtain ⟨o9, hb9, hp9, hk9⟩ := ro_packK hb9
   have hok9 : RoK o9 := ⟨by rw [hp9]; first | exact pz_ok | exact J0 _ | exact (things_ok hGk _ (gm (z := coz) (Nat.mod_lt _ hTl))), by rw [hk9]; (try dsimp only); first | omega | (have hq := JL (M := M) (G := G) (L := L) _ (gm (z := coz) (Nat.mod_lt (l.getD k rcz).a.toNat hTl)); omega), by rw [hk9]; (try dsimp only); first | omega | (have hq := JL (M := M) (G := G) (L := L) _ (gm (z := coz) (Nat.mod_lt (l.getD k rcz).a.toNat hTl)); omega)⟩
   refine Rr (ZO isAgg44 sizeOf44 rfl hb9.at rfl) ?_
   refine Jh (vs := [.agg _]) ([o9]) rfl ZV JW rfl rfl ⟨rfl, trivial⟩ rfl rfl rfl rfl ?_
   intro a109 w113 x114 hown109
   have z115 := x114.size
   replace hX := hX.ex x114
   replace hXL7 := Bel.ex hXL7 x114
   replace hown := hown.ext x114
   replace hown109 := hown109.mono (D' := fun g => n5 ≤ g) (fun g h1 h2 => by omega)
   refine Jd rfl ZV JW rfl rfl hown (hown109.slA ZV) rfl (by rw [List.length_singleton]; omega) omU ?_
   intro v110 w116 x117 hown
   have z118 := x117.size
   replace hX := Bel.out hX x117 om2
   replace hXL7 := Bel.out hXL7 x117 om2
   refine Rr (ZD (v := v110) rfl) ?_
   refine Qg (Qc ?_)
   refine Rr (Z1 rfl rfl omg) ?_
   refine Rr (mvI rfl) ?_
   refine Qg ?_
   refine ⟨(k + 1, v110, O ++ [o9]), ⟨sT, sT, trivial⟩, oT, ⟨?_, hXL7, ?_⟩, ?_⟩
   ·exact ⟨by show k + 1 ≤ l.length; omega, by show k + 1 ≤ 10; omega, by simp; omega, fun o h => (List.mem_append.1 h).elim (hOk o) (fun h => (List.mem_singleton.1 h) ▸ hok9)⟩
   ·exact hown.mono (fun g h1 h2 => by omega)
   ·show l.length - (k + 1) < l.length - k; omega
  skip
  refine ZH (Qc ?_)
  refine Rr (Zt (v := t) rfl) ?_
  obtain ⟨o9, hb9, hp9, hk9⟩ := ro_packK hb9
  have hok9 : RoK o9 := ⟨by rw [hp9]; first | exact pz_ok | exact J0 _ | exact (things_ok hGk _ (gm (z := coz) (Nat.mod_lt _ hTl))), by rw [hk9]; (try dsimp only); first | omega | (have hq := JL (M := M) (G := G) (L := L) _ (gm (z := coz) (Nat.mod_lt (l.getD k rcz).a.toNat hTl)); omega), by rw [hk9]; (try dsimp only); first | omega | (have hq := JL (M := M) (G := G) (L := L) _ (gm (z := coz) (Nat.mod_lt (l.getD k rcz).a.toNat hTl)); omega)⟩
  refine Rr (ZO isAgg44 sizeOf44 rfl hb9.at rfl) ?_
  refine Jh (vs := [.agg _]) ([o9]) rfl ZV JW rfl rfl ⟨rfl, trivial⟩ rfl rfl rfl rfl ?_
  intro a109 w119 x120 hown109
  have z121 := x120.size
  replace hX := hX.ex x120
  replace hXL7 := Bel.ex hXL7 x120
  replace hown := hown.ext x120
  replace hown109 := hown109.mono (D' := fun g => n5 ≤ g) (fun g h1 h2 => by omega)
  refine Jd rfl ZV JW rfl rfl hown (hown109.slA ZV) rfl (by rw [List.length_singleton]; omega) omU ?_
  intro v110 w122 x123 hown
  have z124 := x123.size
  replace hX := Bel.out hX x123 om2
  replace hXL7 := Bel.out hXL7 x123 om2
  refine Rr (ZD (v := v110) rfl) ?_
  refine Qg (Qc ?_)
  refine Rr (Z1 rfl rfl omg) ?_
  refine Rr (mvI rfl) ?_
  refine Qg ?_
  refine ⟨(k + 1, v110, O ++ [o9]), ⟨sT, sT, trivial⟩, oT, ⟨?_, hXL7, ?_⟩, ?_⟩
  ·exact ⟨by show k + 1 ≤ l.length; omega, by show k + 1 ≤ 10; omega, by simp; omega, fun o h => (List.mem_append.1 h).elim (hOk o) (fun h => (List.mem_singleton.1 h) ▸ hok9)⟩
  ·exact hown.mono (fun g h1 h2 => by omega)
  ·show l.length - (k + 1) < l.length - k; omega
 skip
 refine Z4 (ZX (QH (Qc ?_)))
 refine Rr (Zt (v := t) rfl) ?_
 refine Rr (ZD (v := t) rfl) ?_
 refine Qg (ZJ ?_)
 refine ⟨_, ZF rfl rfl, ?_⟩
 exact ⟨⟨O, hown.mono (fun g h1 h2 => by omega), by omega, hOk⟩, hX⟩

