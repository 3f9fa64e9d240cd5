/- Walks, printed by program: each theorem says what a function of the translation returns. -/
import Derived.Test.YtncmjgmlnnenhaaGreatDoorWrset
import Derived.Test.YtncmjgmlnnenhaaGreatDoorWsb
namespace Go.Proofs.YtncmjgmlnnenhaaGreatDoor
open Go Go.Lx Go.RowKit
set_option maxRecDepth 100000
set_option linter.unusedVariables false
set_option linter.unusedSimpArgs false
set_option linter.unnecessarySimpa false
def RdS (w : World) (q : Value) (e : Int) : Option (List RS) → Prop
  | some m => e = 0 ∧ BkIs w q m
  | none => e = 6 ∧ q = .pointer none
theorem badS_iff {s : RSt} {m : List RS} : badS s m = true ↔ ((rdSs s).1.2 ≠ 0 ∨ (rdSs s).2.n ≤ lastN m ∨ (rdSs s).2.u < 1 ∨ hasW (rdSs s).2.x 0 = true) := by
  simp only [badS, Bool.or_eq_true, bne_iff_ne, decide_eq_true_eq]
theorem badS_not {s : RSt} {m : List RS} (h1 : (rdSs s).1.2 = 0) (h2 : ¬ (rdSs s).2.n ≤ lastN m) (h3 : ¬ (rdSs s).2.u < 1) (h4 : ¬ hasW (rdSs s).2.x 0 = true) : ¬ badS s m = true := fun h => by
  rcases badS_iff.1 h with h | h | h | h
  · exact h h1
  · exact h2 h
  · exact h3 h
  · exact h4 h
theorem rsGo_bad {n k : Nat} {s : RSt} {m : List RS} {r : Option (RSt × List RS)} (hrd : r = rsGo (n - k) s m) (hk : k < n) (hb : badS s m = true) : r = none := by
  rw [hrd, show n - k = (n - (k + 1)) + 1 by omega, rsGo, if_pos hb]
theorem rsGo_on {n k : Nat} {s : RSt} {m : List RS} {r : Option (RSt × List RS)} (hrd : r = rsGo (n - k) s m) (hk : k < n) (hb : ¬ badS s m = true) : r = rsGo (n - (k + 1)) (rdSs s).1 (m ++ [(rdSs s).2]) := by
  rw [hrd, show n - k = (n - (k + 1)) + 1 by omega, rsGo, if_neg hb]
theorem readS_bad {p : List UInt8} (h : rsGo (countS (p, 0) 64).2 (countS (p, 0) 64).1 [] = none) : readS p = none := by rw [readS, h]
theorem readS_end1 {p : List UInt8} {s : RSt} {m : List RS} (h : rsGo (countS (p, 0) 64).2 (countS (p, 0) 64).1 [] = some (s, m)) (he : endS s ≠ 0) : readS p = none := by rw [readS, h]; simp only; rw [if_pos (.inl he)]
theorem readS_end2 {p : List UInt8} {s : RSt} {m : List RS} (h : rsGo (countS (p, 0) 64).2 (countS (p, 0) 64).1 [] = some (s, m)) (he : bytesM m ≠ p) : readS p = none := by rw [readS, h]; simp only; rw [if_pos (.inr he)]
theorem readS_end3 {p : List UInt8} {s : RSt} {m : List RS} (h : rsGo (countS (p, 0) 64).2 (countS (p, 0) 64).1 [] = some (s, m)) (he : ¬ endS s ≠ 0) (hq : ¬ bytesM m ≠ p) : readS p = some m := by rw [readS, h]; simp only; rw [if_neg (fun h => h.elim he hq)]
theorem count64 (s : RSt) : (countS s 64).2 ≤ 64 := by
  unfold countS
  split
  · split
    · simp
    split
    · simp
    · simp only; omega
  · simp
theorem uintS_dec2 (s : RSt) (most : W64) : (uintS s most).1.1.length ≤ s.1.length := by
  unfold uintS
  split
  · split
    · exact Nat.le_refl _
    split
    · exact Nat.le_refl _
    · simp only [List.length_drop]; omega
  · exact Nat.le_refl _
theorem countS_dec2 (s : RSt) (most : Nat) : (countS s most).1.1.length ≤ s.1.length := by
  unfold countS
  split
  · split
    · exact Nat.le_refl _
    split
    · exact Nat.le_refl _
    · simp only [List.length_drop]; omega
  · exact Nat.le_refl _
theorem bytesS_dec2 (s : RSt) (most : Nat) : (bytesS s most).1.1.length ≤ s.1.length := by
  unfold bytesS
  split
  · split
    · exact Nat.le_refl _
    split
    · exact Nat.le_refl _
    split
    · exact Nat.le_refl _
    · simp only [List.length_drop]; omega
  · exact Nat.le_refl _
theorem setS_dec2 (s : RSt) : (setS s).1.1.length ≤ s.1.length := by
  have h := bytesS_dec2 s 512
  unfold setS
  split
  · simp only
    split
    · split
      · exact Nat.le_refl _
      split
      · exact Nat.le_refl _
      · exact h
    · exact h
  · exact Nat.le_refl _
theorem lastN_map (l : List SE) : lastN (l.map SE.rs) = if 0 < l.length then (l.getD (l.length - 1) sez).n else 0 := by
  rw [lastN, List.length_map, rs_get]; rfl
theorem snewF_ok (w : World) : Ok Tryz.prog 30 #[] w fun v w' => ∃ b, v = .pointer (some ⟨b, 0, none⟩) ∧ w.heap.size ≤ b ∧ Box w' b 91 [.slice none 0 0] ∧ Ext False w w' := by
  refine Ok_of_W 3 Tryz.func30 rfl rfl rfl ?_
  have hX : Ext False w w := Bel.refl _ _
  refine W_seq (W_region ?_)
  refine Rg_run rfl o_assignc ?_
  refine Rg_nil (W_seq (W_region ?_))
  refine Rg_run rfl (o_build (cells := [.slice none 0 0]) (vs := []) rfl (by kernel_rfl)) ?_
  refine Rg_newB rfl (o_box (v := .agg _) rfl) ?_
  intro b2 w1 x2 hge2 hb2
  have hlt2 := hb2.lt
  have z3 := Bel.size x2
  replace hX := Bel.ex hX x2
  refine Rg_run rfl (o_assignh (v := .pointer _) rfl) ?_
  refine Rg_nil (W_ret ?_)
  refine ⟨_, res_tmp rfl rfl, ?_⟩
  change Box _ _ _ [.slice none 0 0] at hb2
  exact ⟨b2, rfl, by omega, hb2, hX⟩

theorem srd_ok (v0 : Value) (G : Nat → Prop) (p : List UInt8) (w : World) (hp : Rd encB 1 G w v0 p) (hl : p.length ≤ 1000000) : Ok Tryz.prog 19 #[v0] w fun v w' => (∃ q e, v = .tuple #[q, .int .i64 e] ∧ RdS w' q e (readS p)) ∧ Ext False w w' := by
  obtain ⟨ap, cp, rfl, hp⟩ := hp
  replace hp := hp.mono (F' := fun g => g < w.heap.size) (fun g h1 h2 => h1)
  have hcl := count64 (p, 0)
  have hcd := countS_dec2 (p, 0) 64
  refine Ok_of_W 80 Tryz.func19 rfl rfl rfl ?_
  have hX : Ext False w w := Bel.refl _ _
  refine W_seq (W_region ?_)
  refine Rg_run rfl o_assignc ?_
  refine Rg_run rfl o_assignc ?_
  refine Rg_nil (W_seq (W_region ?_))
  refine Rg_run rfl (o_moveh (v := .slice _ _ _) rfl) ?_
  refine Rg_enter rfl (o_call1 Tryz.call52 rfl) (Ok.mono (rnew_ok _ _ p _ ⟨_, _, rfl, hp⟩ (by omega)) ?_)
  rintro v10 w1 ⟨hownr, x2⟩
  have z3 := Bel.size x2
  replace hX := Bel.ex hX x2
  replace hp := hp.ext x2
  obtain ⟨n1, hn1⟩ : ∃ n, n = w1.heap.size := ⟨_, rfl⟩
  replace hownr := hownr.mono (D' := fun g => w.heap.size ≤ g ∧ g < n1) (fun g h1 h2 => ⟨by omega, by omega⟩)
  refine Rg_enter rfl (o_call0 Tryz.call30) (Ok.mono (snewF_ok _) ?_)
  rintro _ w4 ⟨b11, rfl, hge11, hbx, x5⟩
  have z6 := Bel.size x5
  replace hX := Bel.ex hX x5
  replace hp := hp.ext x5
  replace hownr := hownr.ext x5
  refine Rg_run rfl (o_assignh (v := v10) rfl) ?_
  refine Rg_run rfl (o_assignh (v := .pointer (some ⟨b11, 0, none⟩)) rfl) ?_
  refine Rg_nil (W_seq (W_seq (W_region ?_)))
  refine Rg_run rfl (o_moveh (v := v10) rfl) ?_
  obtain ⟨n2, hn2⟩ : ∃ n, n = w4.heap.size := ⟨_, rfl⟩
  have hbxl := hbx.lt
  refine Rg_enter rfl (o_call2 Tryz.call53 rfl rfl) (Ok.mono (hownr.wk (rcount_ok v10 _ (p, 0) 64 (by omega) _ hownr (by simp only; omega))) ?_)
  rintro _ w7 ⟨rfl, hownr, x8⟩
  have z9 := Bel.size x8
  replace hX := Bel.out hX x8 (fun g h1 h2 => by first | exact h2 | omega)
  replace hp := hp.keep x8 (fun g h1 h2 h3 => by omega)
  replace hbx := hbx.keep x8 (fun h => by omega)
  refine Rg_run rfl o_movec ?_
  refine Rg_nil (W_block ?_)
  refine W_for (α := Nat × RSt × List SE × Option Addr × Nat) [(2, 3), (6, 8), (14, 68)] (fun q => [(14, .int .i64 (q.1 : Int))]) (fun q w' => (q.1 ≤ (countS (p, 0) 64).2 ∧ OkM (q.2.2.1.map SE.rs) ∧ rsGo (countS (p, 0) 64).2 (countS (p, 0) 64).1 [] = rsGo ((countS (p, 0) 64).2 - q.1) q.2.1 (q.2.2.1.map SE.rs) ∧ q.2.1.1.length ≤ 1000000) ∧ Bel False (fun g => w.heap.size ≤ g) w7 w' ∧ (Rr 164 (fun g => w.heap.size ≤ g ∧ g < n1) w' v10 q.2.1 ∧ Box w' b11 91 [.slice q.2.2.2.1 q.2.2.1.length q.2.2.2.2] ∧ Own encSe 3 38 (fun g => n2 ≤ g) w' (.slice q.2.2.2.1 q.2.2.1.length q.2.2.2.2) q.2.2.1 ∧ SesAt (fun g => n2 ≤ g ∧ ¬ (Value.slice q.2.2.2.1 q.2.2.1.length q.2.2.2.2).ownBlock = some g) w' q.2.2.1)) (fun q => (countS (p, 0) 64).2 - q.1) (0, (countS (p, 0) 64).1, [], none, 0) ⟨rfl, trivial⟩ ⟨⟨Nat.zero_le _, OkM.nil, rfl, by simp only at hcd ⊢; omega⟩, Bel.refl _ _, ⟨hownr, hbx, Own.nil _ _, SesAt.nil⟩⟩ ?_
  rintro ⟨k, s, l, a, c⟩ fb12 w11 ⟨⟨hk, hm, hrd, hsl⟩, hXL10, ⟨hownr, hbx, hownl, hws⟩⟩
  dsimp only at *
  have z13 := Bel.size hXL10
  replace hX := Bel.out hX hXL10 (fun g h1 h2 => by first | exact h2 | omega)
  replace hp := hp.keep hXL10 (fun g h1 h2 h3 => by omega)
  obtain ⟨n5, hn5⟩ : ∃ n, n = w11.heap.size := ⟨_, rfl⟩
  have hol : ∀ g, (Value.slice a l.length c).ownBlock = some g → n2 ≤ g ∧ g < n5 := fun g hg => ⟨hownl.loc g hg, by rw [hn5]; exact hownl.lt g hg⟩
  have hml := hm.len
  rw [List.length_map] at hml
  have hd1 := uintS_dec2 s (BitVec.ofNat 64 64); have hd2 := uintS_dec2 (uintS s (BitVec.ofNat 64 64)).1 (BitVec.ofNat 64 256); have hd3 := setS_dec2 (uintS (uintS s (BitVec.ofNat 64 64)).1 (BitVec.ofNat 64 256)).1
  refine W_seq (W_region ?_)
  refine Rg_run rfl (o_lss rfl rfl) ?_
  refine Rg_nil (W_seq ?_)
  refine W_cond rfl (fun hc1 => ?_) (fun hc1 => ?_)
  · skip
    replace hc1 := of_decide_eq_true hc1
    have hkN : k < (countS (p, 0) 64).2 := by omega
    refine W_skip (W_seq (W_block (W_seq (W_region ?_))))
    refine Rg_run rfl (o_moveh (v := v10) rfl) ?_
    refine Rg_enter rfl (o_call2 Tryz.call54 rfl rfl) (Ok.mono (hownr.wk (rnumber_ok v10 _ s 64 (by omega) _ hownr (by omega))) ?_)
    rintro _ w14 ⟨rfl, hownr, x15⟩
    have z16 := Bel.size x15
    replace hX := Bel.out hX x15 (fun g h1 h2 => by first | exact h2 | omega)
    replace hXL10 := Bel.out hXL10 x15 (fun g h1 h2 => by first | exact h2 | omega)
    replace hbx := hbx.keep x15 (fun h => by omega)
    replace hownl := hownl.keepD x15 (fun g h1 h2 h3 => by omega)
    replace hws := hws.keep x15 (fun g h1 h2 h3 => by first | omega | exact h2.2 h3.2.2)
    refine Rg_run rfl (o_moveh (v := v10) rfl) ?_
    refine Rg_enter rfl (o_call2 Tryz.call54 rfl rfl) (Ok.mono (hownr.wk (rnumber_ok v10 _ (uintS s (BitVec.ofNat 64 64)).1 256 (by omega) _ hownr (by omega))) ?_)
    rintro _ w17 ⟨rfl, hownr, x18⟩
    have z19 := Bel.size x18
    replace hX := Bel.out hX x18 (fun g h1 h2 => by first | exact h2 | omega)
    replace hXL10 := Bel.out hXL10 x18 (fun g h1 h2 => by first | exact h2 | omega)
    replace hbx := hbx.keep x18 (fun h => by omega)
    replace hownl := hownl.keepD x18 (fun g h1 h2 h3 => by omega)
    replace hws := hws.keep x18 (fun g h1 h2 h3 => by first | omega | exact h2.2 h3.2.2)
    refine Rg_run rfl (o_moveh (v := v10) rfl) ?_
    refine Rg_enter rfl (o_call2 Tryz.call55 rfl rfl) (Ok.mono (hownr.wk (rset_ok v10 _ (uintS (uintS s (BitVec.ofNat 64 64)).1 (BitVec.ofNat 64 256)).1 _ hownr (by omega))) ?_)
    rintro _ w20 ⟨⟨a21, c21, rfl, hq21⟩, hownr, x21⟩
    replace hownl := hownl.mono (D' := fun g => n2 ≤ g ∧ ¬ (w17.heap.size ≤ g ∧ g < w20.heap.size)) (fun g h1 h2 => by omega)
    have z22 := Bel.size x21
    replace hX := Bel.out hX x21 (fun g h1 h2 => by first | exact h2 | omega)
    replace hXL10 := Bel.out hXL10 x21 (fun g h1 h2 => by first | exact h2 | omega)
    replace hbx := hbx.keep x21 (fun h => by omega)
    replace hownl := hownl.keepD x21 (fun g h1 h2 h3 => by omega)
    replace hws := hws.keep x21 (fun g h1 h2 h3 => by first | omega | exact h2.2 h3.2.2)
    refine Rg_run rfl (o_build (cells := encSe (⟨((uintS s (BitVec.ofNat 64 64)).2.toNat : Int), ((uintS (uintS s (BitVec.ofNat 64 64)).1 (BitVec.ofNat 64 256)).2.toNat : Int), a21, c21, (setS (uintS (uintS s (BitVec.ofNat 64 64)).1 (BitVec.ofNat 64 256)).1).2⟩ : SE)) (vs := [(0, .int _ _), (1, .int _ _), (2, .agg _)]) rfl (by kernel_rfl)) ?_
    refine Rg_alst rfl rfl Tryz.zeroValue38 rfl Tryz.sizeOf38 (fun _ => rfl) rfl rfl ?_
    intro b6 w23 x24 hge6 hb6
    replace hownl := hownl.mono (D' := fun g => n2 ≤ g ∧ ¬ (w17.heap.size ≤ g ∧ g < w20.heap.size) ∧ g ≠ b6) (fun g h1 h2 => by omega)
    have hlt6 := hb6.lt
    change Box _ _ _ (encSe _) at hb6
    have z25 := Bel.size x24
    replace hX := Bel.ex hX x24
    replace hXL10 := Bel.ex hXL10 x24
    replace hownr := hownr.ext x24
    replace hbx := hbx.ext x24
    replace hownl := hownl.ext x24
    replace hws := hws.ext x24
    replace hq21 := hq21.ext x24
    refine Rg_nil (W_seq (W_region ?_))
    refine Rg_run rfl o_assignc ?_
    refine Rg_nil (W_seq (W_seq (W_region ?_)))
    refine Rg_run rfl (o_moveh (v := .pointer (some ⟨b11, 0, none⟩)) rfl) ?_
    refine Rg_run rfl (o_nilc rfl) ?_
    refine Rg_run rfl (o_fa Tryz.underlying91 rfl Tryz.sizeOf32 rfl) ?_
    refine Rg_run rfl (o_load1 Tryz.isAgg32 rfl (hbx.at.get 0 rfl)) ?_
    refine Rg_run rfl (o_llen Tryz.underlying32 rfl) ?_
    refine Rg_run rfl (o_assignh (v := .int _ _) rfl) ?_
    refine Rg_nil (W_seq (W_region ?_))
    refine Rg_run rfl (o_moveh (v := .int _ _) rfl) ?_
    refine Rg_run rfl (o_gtr rfl rfl) ?_
    refine Rg_nil ?_
    refine W_cond rfl (fun hc2 => ?_) (fun hc2 => ?_)
    · skip
      replace hc2 : 0 < l.length := by have := of_decide_eq_true hc2; omega
      refine W_region ?_
      refine Rg_run rfl (o_moveh (v := .pointer (some ⟨b11, 0, none⟩)) rfl) ?_
      refine Rg_run rfl (o_nilc rfl) ?_
      refine Rg_run rfl (o_fa Tryz.underlying91 rfl Tryz.sizeOf32 rfl) ?_
      refine Rg_run rfl (o_load1 Tryz.isAgg32 rfl (hbx.at.get 0 rfl)) ?_
      refine Rg_run rfl (o_moveh (v := .int _ _) rfl) ?_
      refine Rg_run rfl (o_subN (p := l.length) (b := 1) rfl rfl (by omega) (by omega)) ?_
      refine Rg_run rfl (o_iaR Tryz.underlying32 Tryz.sizeOf38 (hownl.slA encSe_ok) rfl rfl (by first | omega | (unfold I64; omega) | (simp; done) | (simp; omega) | (simp at *; omega))) ?_
      refine Rg_run rfl (o_faE Tryz.underlying38 rfl Tryz.sizeOf3 (hownl.slA encSe_ok) rfl (getE sez (by omega))) ?_
      refine Rg_run rfl (o_ldE (j := 0) Tryz.isAgg3 (hownl.slA encSe_ok) rfl (getE sez (by omega)) rfl) ?_
      refine Rg_run rfl (o_assignh (v := .int _ _) rfl) ?_
      refine Rg_nil (W_seq (W_seq (W_region ?_)))
      have hlast : lastN (l.map SE.rs) = (l.getD (l.length - 1) sez).n := by rw [lastN_map, if_pos hc2]
      refine Rg_run rfl (o_moveh (v := v10) rfl) ?_
      refine Rg_enter rfl (o_call1 Tryz.call56 rfl) (Ok.mono (rerr_ok v10 _ (setS (uintS (uintS s (BitVec.ofNat 64 64)).1 (BitVec.ofNat 64 256)).1).1 _ hownr) ?_)
      rintro _ w26 ⟨rfl, x27⟩
      have z28 := Bel.size x27
      replace hX := Bel.ex hX x27
      replace hXL10 := Bel.ex hXL10 x27
      replace hownr := hownr.ext x27
      replace hbx := hbx.ext x27
      replace hownl := hownl.ext x27
      replace hws := hws.ext x27
      replace hq21 := hq21.ext x27
      replace hb6 := hb6.ext x27
      refine Rg_run rfl (o_neq rfl rfl) ?_
      refine (Decidable.em ((setS (uintS (uintS s (BitVec.ofNat 64 64)).1 (BitVec.ofNat 64 256)).1).1.2 = 0)).elim (fun he1 => ?_) (fun he1 => ?_)
      · skip
        refine Rg_run rfl (o_moveh (v := .bool _) rfl) ?_
        refine Rg_on 3 42 rfl (congrArg Value.bool (show ((setS (uintS (uintS s (BitVec.ofNat 64 64)).1 (BitVec.ofNat 64 256)).1).1.2 != 0) = false by rw [he1]; rfl)) ?_
        refine Rg_run rfl (o_fa Tryz.underlying38 rfl Tryz.sizeOf3 rfl) ?_
        refine Rg_on 3 42 rfl (congrArg Value.bool (show ((setS (uintS (uintS s (BitVec.ofNat 64 64)).1 (BitVec.ofNat 64 256)).1).1.2 != 0) = false by rw [he1]; rfl)) ?_
        refine Rg_run rfl (o_load1 Tryz.isAgg3 rfl (hb6.at.get 0 rfl)) ?_
        refine Rg_on 3 42 rfl (congrArg Value.bool (show ((setS (uintS (uintS s (BitVec.ofNat 64 64)).1 (BitVec.ofNat 64 256)).1).1.2 != 0) = false by rw [he1]; rfl)) ?_
        refine Rg_run rfl (o_moveh (v := .int _ _) rfl) ?_
        refine Rg_on 3 42 rfl (congrArg Value.bool (show ((setS (uintS (uintS s (BitVec.ofNat 64 64)).1 (BitVec.ofNat 64 256)).1).1.2 != 0) = false by rw [he1]; rfl)) ?_
        refine Rg_run rfl (o_leq rfl rfl) ?_
        refine Rg_run rfl (o_pickF (v := .bool _) (congrArg Value.bool (show ((setS (uintS (uintS s (BitVec.ofNat 64 64)).1 (BitVec.ofNat 64 256)).1).1.2 != 0) = false by rw [he1]; rfl)) rfl) ?_
        refine (Decidable.em (((uintS s (BitVec.ofNat 64 64)).2.toNat : Int) ≤ (l.getD (l.length - 1) sez).n)).elim (fun he2 => ?_) (fun he2 => ?_)
        · skip
          refine Rg_run rfl (o_moveh (v := .bool _) rfl) ?_
          refine Rg_off 9 48 rfl rfl (congrArg Value.bool (decide_eq_true he2)) rfl rfl ?_
          refine Rg_off 9 48 rfl rfl (congrArg Value.bool (decide_eq_true he2)) rfl rfl ?_
          refine Rg_off 9 48 rfl rfl (congrArg Value.bool (decide_eq_true he2)) rfl rfl ?_
          refine Rg_run rfl (o_pickT (v := .bool _) (congrArg Value.bool (decide_eq_true he2)) rfl) ?_
          refine Rg_run rfl (o_moveh (v := .bool _) rfl) ?_
          refine Rg_off 14 53 rfl rfl rfl rfl rfl ?_
          refine Rg_off 14 53 rfl rfl rfl rfl rfl ?_
          refine Rg_off 14 53 rfl rfl rfl rfl rfl ?_
          refine Rg_run rfl (o_pickT (v := .bool _) rfl rfl) ?_
          refine Rg_nil ?_
          refine W_cond_true rfl ?_
          refine W_seq (W_region ?_)
          refine Rg_run rfl o_assignc ?_
          refine Rg_run rfl o_assignc ?_
          refine Rg_nil (W_ret ?_)
          refine ⟨_, res_tmp2 rfl rfl rfl, ?_⟩
          have hb : badS s (l.map SE.rs) = true := badS_iff.2 (.inr (.inl (by show ((uintS s (BitVec.ofNat 64 64)).2.toNat : Int) ≤ _; rw [hlast]; exact he2)))
          exact ⟨⟨_, _, rfl, (by rw [readS_bad (rsGo_bad hrd hkN hb)]; exact ⟨rfl, rfl⟩)⟩, hX⟩
        refine Rg_run rfl (o_moveh (v := .bool _) rfl) ?_
        refine Rg_on 9 48 rfl (congrArg Value.bool (decide_eq_false he2)) ?_
        refine Rg_run rfl (o_fa Tryz.underlying38 rfl Tryz.sizeOf3 rfl) ?_
        refine Rg_on 9 48 rfl (congrArg Value.bool (decide_eq_false he2)) ?_
        refine Rg_run rfl (o_load1 Tryz.isAgg3 rfl (hb6.at.get 1 rfl)) ?_
        refine Rg_on 9 48 rfl (congrArg Value.bool (decide_eq_false he2)) ?_
        refine Rg_run rfl (o_lss rfl rfl) ?_
        refine Rg_run rfl (o_pickF (v := .bool _) (congrArg Value.bool (decide_eq_false he2)) rfl) ?_
        refine (Decidable.em (((uintS (uintS s (BitVec.ofNat 64 64)).1 (BitVec.ofNat 64 256)).2.toNat : Int) < 1)).elim (fun he3 => ?_) (fun he3 => ?_)
        · skip
          refine Rg_run rfl (o_moveh (v := .bool _) rfl) ?_
          refine Rg_off 14 53 rfl rfl (congrArg Value.bool (decide_eq_true he3)) rfl rfl ?_
          refine Rg_off 14 53 rfl rfl (congrArg Value.bool (decide_eq_true he3)) rfl rfl ?_
          refine Rg_off 14 53 rfl rfl (congrArg Value.bool (decide_eq_true he3)) rfl rfl ?_
          refine Rg_run rfl (o_pickT (v := .bool _) (congrArg Value.bool (decide_eq_true he3)) rfl) ?_
          refine Rg_nil ?_
          refine W_cond_true rfl ?_
          refine W_seq (W_region ?_)
          refine Rg_run rfl o_assignc ?_
          refine Rg_run rfl o_assignc ?_
          refine Rg_nil (W_ret ?_)
          refine ⟨_, res_tmp2 rfl rfl rfl, ?_⟩
          have hb : badS s (l.map SE.rs) = true := badS_iff.2 (.inr (.inr (.inl he3)))
          exact ⟨⟨_, _, rfl, (by rw [readS_bad (rsGo_bad hrd hkN hb)]; exact ⟨rfl, rfl⟩)⟩, hX⟩
        refine Rg_run rfl (o_moveh (v := .bool _) rfl) ?_
        refine Rg_on 14 53 rfl (congrArg Value.bool (decide_eq_false he3)) ?_
        refine Rg_run rfl (o_fa Tryz.underlying38 rfl Tryz.sizeOf36 rfl) ?_
        refine Rg_on 14 53 rfl (congrArg Value.bool (decide_eq_false he3)) ?_
        refine Rg_run rfl (o_loadS Tryz.isAgg36 Tryz.sizeOf36 rfl (hb6.at.sub 2 1) rfl) ?_
        refine Rg_on 14 53 rfl (congrArg Value.bool (decide_eq_false he3)) ?_
        refine Rg_enter rfl (o_call2 Tryz.call46 rfl rfl) (Ok.mono (bhas_ok _ ⟨a21, c21, (setS (uintS (uintS s (BitVec.ofNat 64 64)).1 (BitVec.ofNat 64 256)).1).2⟩ _ hq21 _ (by unfold I64; omega)) ?_)
        rintro _ w29 ⟨rfl, x30⟩
        have z31 := Bel.size x30
        replace hX := Bel.ex hX x30
        replace hXL10 := Bel.ex hXL10 x30
        replace hownr := hownr.ext x30
        replace hbx := hbx.ext x30
        replace hownl := hownl.ext x30
        replace hws := hws.ext x30
        replace hq21 := hq21.ext x30
        replace hb6 := hb6.ext x30
        refine (Decidable.em (hasW (setS (uintS (uintS s (BitVec.ofNat 64 64)).1 (BitVec.ofNat 64 256)).1).2 0 = true)).elim (fun he4 => ?_) (fun he4 => ?_)
        · skip
          refine Rg_run rfl (o_pickF (v := .bool _) (congrArg Value.bool (decide_eq_false he3)) rfl) ?_
          refine Rg_nil ?_
          refine W_cond_true (congrArg Value.bool he4) ?_
          refine W_seq (W_region ?_)
          refine Rg_run rfl o_assignc ?_
          refine Rg_run rfl o_assignc ?_
          refine Rg_nil (W_ret ?_)
          refine ⟨_, res_tmp2 rfl rfl rfl, ?_⟩
          have hb : badS s (l.map SE.rs) = true := badS_iff.2 (.inr (.inr (.inr he4)))
          exact ⟨⟨_, _, rfl, (by rw [readS_bad (rsGo_bad hrd hkN hb)]; exact ⟨rfl, rfl⟩)⟩, hX⟩
        refine Rg_run rfl (o_pickF (v := .bool _) (congrArg Value.bool (decide_eq_false he3)) rfl) ?_
        refine Rg_nil ?_
        refine W_cond_false (congrArg Value.bool (show hasW (setS (uintS (uintS s (BitVec.ofNat 64 64)).1 (BitVec.ofNat 64 256)).1).2 0 = false by simpa using he4)) ?_
        refine W_skip ?_
        obtain ⟨n6, hn6⟩ : ∃ n, n = w29.heap.size := ⟨_, rfl⟩
        replace hws := hws.mono (F' := fun g => (n2 ≤ g ∧ g < n6) ∧ ¬ (Value.slice a l.length c).ownBlock = some g) (fun g h1 h2 => ⟨⟨h2.1, by omega⟩, h2.2⟩)
        replace hq21 := hq21.mono (F' := fun g => n5 ≤ g ∧ g < n6) (fun g h1 h2 => ⟨by omega, by omega⟩)
        apply W_drawC (β := False) (fun b => if (Value.slice a l.length c).ownBlock = some b then 1 else 0) [peqC _, peqC _, peqC _, peqC _, peqC _, peqC _, (fun v w c => ∃ a, v = .slice a 1 1 ∧ postOwn encSe 3 38 2 [(⟨((uintS s (BitVec.ofNat 64 64)).2.toNat : Int), ((uintS (uintS s (BitVec.ofNat 64 64)).1 (BitVec.ofNat 64 256)).2.toNat : Int), a21, c21, (setS (uintS (uintS s (BitVec.ofNat 64 64)).1 (BitVec.ofNat 64 256)).1).2⟩ : SE)] v w c), (postOwn encSe 3 38 1 (l ++ [(⟨((uintS s (BitVec.ofNat 64 64)).2.toNat : Int), ((uintS (uintS s (BitVec.ofNat 64 64)).1 (BitVec.ofNat 64 256)).2.toNat : Int), a21, c21, (setS (uintS (uintS s (BitVec.ofNat 64 64)).1 (BitVec.ofNat 64 256)).1).2⟩ : SE)])), peqC _, peqC _] [0, 0, 0, 0, 0, 0, 2, 1, 0, 0] 10 mixed (by kernel_rfl) (by kernel_rfl) rfl ⟨peqC_stable _ _, peqC_stable _ _, peqC_stable _ _, peqC_stable _ _, peqC_stable _ _, peqC_stable _ _, (postBs_stable), (postOwn_stable), peqC_stable _ _, peqC_stable _ _, trivial⟩ ?ob11 ?fin11
        case ob11 =>
          refine OblC_cons (fun w32 c34 x33 hc035 hk36 => ?_) ?_
          · skip
            replace x33 := Bel.mono x33 (D' := fun g => n2 ≤ g ∧ g < n5 ∧ (Value.slice a l.length c).ownBlock = some g) (fun g hg h => (by have h1 := Classical.byContradiction (p := (Value.slice a l.length c).ownBlock = some g) (fun hn => h (if_neg hn)); exact ⟨(hol g h1).1, (hol g h1).2, h1⟩))
            have z37 := Bel.size x33
            refine bindC_nil ?_
            exact OpC_v rfl (o_moveh (v := .pointer (some ⟨b11, 0, none⟩)) rfl)
          refine OblC_cons (fun w38 c40 x39 hc041 hk42 => ?_) ?_
          · skip
            replace x39 := Bel.mono x39 (D' := fun g => n2 ≤ g ∧ g < n5 ∧ (Value.slice a l.length c).ownBlock = some g) (fun g hg h => (by have h1 := Classical.byContradiction (p := (Value.slice a l.length c).ownBlock = some g) (fun hn => h (if_neg hn)); exact ⟨(hol g h1).1, (hol g h1).2, h1⟩))
            have z43 := Bel.size x39
            refine bindC_nil ?_
            exact OpC_v rfl (o_moveh (v := .pointer (some ⟨b11, 0, none⟩)) rfl)
          refine OblC_cons (fun w44 c46 x45 hc047 hk48 => ?_) ?_
          · skip
            replace x45 := Bel.mono x45 (D' := fun g => n2 ≤ g ∧ g < n5 ∧ (Value.slice a l.length c).ownBlock = some g) (fun g hg h => (by have h1 := Classical.byContradiction (p := (Value.slice a l.length c).ownBlock = some g) (fun hn => h (if_neg hn)); exact ⟨(hol g h1).1, (hol g h1).2, h1⟩))
            have z49 := Bel.size x45
            refine bindC_eq (bindC_nil ?_)
            exact OpC_v rfl (o_nilc rfl)
          refine OblC_cons (fun w50 c52 x51 hc053 hk54 => ?_) ?_
          · skip
            replace x51 := Bel.mono x51 (D' := fun g => n2 ≤ g ∧ g < n5 ∧ (Value.slice a l.length c).ownBlock = some g) (fun g hg h => (by have h1 := Classical.byContradiction (p := (Value.slice a l.length c).ownBlock = some g) (fun hn => h (if_neg hn)); exact ⟨(hol g h1).1, (hol g h1).2, h1⟩))
            have z55 := Bel.size x51
            refine bindC_eq (bindC_nil ?_)
            exact OpC_v rfl (o_fa Tryz.underlying91 rfl Tryz.sizeOf32 rfl)
          refine OblC_cons (fun w56 c58 x57 hc059 hk60 => ?_) ?_
          · skip
            replace x57 := Bel.mono x57 (D' := fun g => n2 ≤ g ∧ g < n5 ∧ (Value.slice a l.length c).ownBlock = some g) (fun g hg h => (by have h1 := Classical.byContradiction (p := (Value.slice a l.length c).ownBlock = some g) (fun hn => h (if_neg hn)); exact ⟨(hol g h1).1, (hol g h1).2, h1⟩))
            have z61 := Bel.size x57
            have hbx := hbx.keep x57 (fun h => by omega)
            refine bindC_eq (bindC_nil ?_)
            exact OpC_v rfl (o_load1 Tryz.isAgg32 rfl (hbx.at.get 0 rfl))
          refine OblC_cons (fun w62 c64 x63 hc065 hk66 => ?_) ?_
          · skip
            replace x63 := Bel.mono x63 (D' := fun g => n2 ≤ g ∧ g < n5 ∧ (Value.slice a l.length c).ownBlock = some g) (fun g hg h => (by have h1 := Classical.byContradiction (p := (Value.slice a l.length c).ownBlock = some g) (fun hn => h (if_neg hn)); exact ⟨(hol g h1).1, (hol g h1).2, h1⟩))
            have z67 := Bel.size x63
            have hb6 := hb6.keep x63 (fun h => by omega)
            refine bindC_nil ?_
            exact OpC_v rfl (o_loadS Tryz.isAgg38 Tryz.sizeOf38 rfl hb6.at rfl)
          refine OblC_cons (fun w68 c70 x69 hc071 hk72 => ?_) ?_
          · skip
            replace x69 := Bel.mono x69 (D' := fun g => n2 ≤ g ∧ g < n5 ∧ (Value.slice a l.length c).ownBlock = some g) (fun g hg h => (by have h1 := Classical.byContradiction (p := (Value.slice a l.length c).ownBlock = some g) (fun hn => h (if_neg hn)); exact ⟨(hol g h1).1, (hol g h1).2, h1⟩))
            have z73 := Bel.size x69
            refine bindC_eq (bindC_nil ?_)
            exact OpC_bs (vs := [.agg _]) [(⟨((uintS s (BitVec.ofNat 64 64)).2.toNat : Int), ((uintS (uintS s (BitVec.ofNat 64 64)).1 (BitVec.ofNat 64 256)).2.toNat : Int), a21, c21, (setS (uintS (uintS s (BitVec.ofNat 64 64)).1 (BitVec.ofNat 64 256)).1).2⟩ : SE)] encSe_ok el_ses rfl rfl ⟨rfl, trivial⟩ rfl rfl rfl rfl
          refine OblC_cons (fun w74 c76 x75 hc077 hk78 => ?_) ?_
          · skip
            replace x75 := Bel.mono x75 (D' := fun g => n2 ≤ g ∧ g < n5 ∧ (Value.slice a l.length c).ownBlock = some g) (fun g hg h => (by have h1 := Classical.byContradiction (p := (Value.slice a l.length c).ownBlock = some g) (fun hn => h (if_neg hn)); exact ⟨(hol g h1).1, (hol g h1).2, h1⟩))
            have z79 := Bel.size x75
            refine bindC_eq ?_
            refine bindC_mem (fun v64 hv64 => ?_)
            refine bindC_nil ?_
            obtain ⟨a64, rfl, ho64⟩ := hv64
            exact OpC_app (by decide) encSe_ok el_ses rfl rfl (Own.blk hownl (fun g hg hl => hk78 1 (by decide) (by kernel_rfl) g hg (if_pos hl)) (fun g hg hl => (hc077 g hg).trans (if_pos hl))) (Own.slA ho64 encSe_ok) rfl (by show (l.length + 1) * 40 ≤ 140737488355328; omega)
          refine OblC_cons (fun w80 c82 x81 hc083 hk84 => ?_) ?_
          · skip
            replace x81 := Bel.mono x81 (D' := fun g => n2 ≤ g ∧ g < n5 ∧ (Value.slice a l.length c).ownBlock = some g) (fun g hg h => (by have h1 := Classical.byContradiction (p := (Value.slice a l.length c).ownBlock = some g) (fun hn => h (if_neg hn)); exact ⟨(hol g h1).1, (hol g h1).2, h1⟩))
            have z85 := Bel.size x81
            refine bindC_eq (bindC_eq (bindC_eq (bindC_eq (bindC_eq (bindC_eq (bindC_eq ?_))))))
            refine bindC_mem (fun v64 hv64 => ?_)
            refine bindC_mem (fun v65 hv65 => ?_)
            refine bindC_nil ?_
            exact OpC_v rfl (o_nilc rfl)
          refine OblC_cons (fun w86 c88 x87 hc089 hk90 => ?_) ?_
          · skip
            replace x87 := Bel.mono x87 (D' := fun g => n2 ≤ g ∧ g < n5 ∧ (Value.slice a l.length c).ownBlock = some g) (fun g hg h => (by have h1 := Classical.byContradiction (p := (Value.slice a l.length c).ownBlock = some g) (fun hn => h (if_neg hn)); exact ⟨(hol g h1).1, (hol g h1).2, h1⟩))
            have z91 := Bel.size x87
            refine bindC_eq (bindC_eq (bindC_eq (bindC_eq (bindC_eq (bindC_eq (bindC_eq ?_))))))
            refine bindC_mem (fun v64 hv64 => ?_)
            refine bindC_mem (fun v65 hv65 => ?_)
            refine bindC_nil ?_
            exact OpC_v rfl (o_fa Tryz.underlying91 rfl Tryz.sizeOf32 rfl)
          exact OblC_nil
        case fin11 =>
          intro w92 c94 x93 hc095
          replace x93 := Bel.mono x93 (D' := fun g => n2 ≤ g ∧ g < n5 ∧ (Value.slice a l.length c).ownBlock = some g) (fun g hg h => (by have h1 := Classical.byContradiction (p := (Value.slice a l.length c).ownBlock = some g) (fun hn => h (if_neg hn)); exact ⟨(hol g h1).1, (hol g h1).2, h1⟩))
          have z96 := Bel.size x93
          replace hX := Bel.out hX x93 (fun g h1 h2 => by first | exact h2 | omega)
          replace hXL10 := Bel.out hXL10 x93 (fun g h1 h2 => by first | exact h2 | omega)
          replace hownr := hownr.keepD x93 (fun g h1 h2 h3 => by omega)
          replace hbx := hbx.keep x93 (fun h => by omega)
          replace hws := hws.keep x93 (fun g h1 h2 h3 => by first | omega | exact h2.2 h3.2.2)
          replace hq21 := hq21.keep x93 (fun g h1 h2 h3 => by omega)
          refine bindC_eq (bindC_eq (bindC_eq (bindC_eq (bindC_eq (bindC_eq ?_)))))
          refine bindC_mem (fun v64 hv64 => ?_)
          refine bindC_mem (fun v65 hv65 => ?_)
          refine bindC_eq (bindC_eq (bindC_nil ?_))
          change Own _ _ _ _ _ _ _ at hv65
          obtain ⟨a65, c65, hv65e, -⟩ := Own.sl hv65 encSe_ok
          subst hv65e
          replace hv65 := Own.mono hv65 (D' := fun g => (Value.slice a l.length c).ownBlock = some g ∨ n6 ≤ g) (fun g h1 h2 => (Nat.lt_or_ge g n6).elim (fun q => Or.inl (Classical.byContradiction fun hn => by have h := hc095 g (by omega); rw [h2] at h; exact absurd (h.trans (if_neg hn)) (by decide))) Or.inr)
          have hws2 : SesAt (fun g => n2 ≤ g ∧ ¬ (Value.slice a65 (l ++ [(⟨((uintS s (BitVec.ofNat 64 64)).2.toNat : Int), ((uintS (uintS s (BitVec.ofNat 64 64)).1 (BitVec.ofNat 64 256)).2.toNat : Int), a21, c21, (setS (uintS (uintS s (BitVec.ofNat 64 64)).1 (BitVec.ofNat 64 256)).1).2⟩ : SE)]).length c65).ownBlock = some g) w92 (l ++ [(⟨((uintS s (BitVec.ofNat 64 64)).2.toNat : Int), ((uintS (uintS s (BitVec.ofNat 64 64)).1 (BitVec.ofNat 64 256)).2.toNat : Int), a21, c21, (setS (uintS (uintS s (BitVec.ofNat 64 64)).1 (BitVec.ofNat 64 256)).1).2⟩ : SE)]) := SesAt.app (hws.mono (fun g h1 h2 => ⟨h2.1.1, fun e => (hv65.loc g e).elim h2.2 (fun q => by omega)⟩)) (SesAt.cons (hq21.mono (fun g h1 h2 => ⟨by omega, fun e => (hv65.loc g e).elim (fun q => by have := hol g q; omega) (fun q => by omega)⟩)) SesAt.nil)
          replace hv65 := Own.mono hv65 (D' := fun g => n2 ≤ g) (fun g h1 h2 => h2.elim (fun q => (hol g q).1) (fun q => by omega))
          refine Rg_store (v := .slice _ _ _) rfl Tryz.sizeOf32 rfl rfl hbx rfl rfl rfl ?_
          intro w97 c98 hbx
          have z99 := Bel.size c98
          replace hX := Bel.out hX c98 (fun g h1 h2 => by first | exact h2 | omega)
          replace hXL10 := Bel.out hXL10 c98 (fun g h1 h2 => by first | exact h2 | omega)
          replace hownr := hownr.keepD c98 (fun g h1 h2 h3 => by omega)
          replace hv65 := hv65.keepD c98 (fun g h1 h2 h3 => by omega)
          replace hws2 := hws2.keep c98 (fun g h1 h2 h3 => by omega)
          refine Rg_nil (W_region ?_)
          refine Rg_run rfl (o_add rfl rfl (by first | omega | (unfold I64; omega) | (simp; done) | (simp; omega) | (simp at *; omega))) ?_
          refine Rg_run rfl (o_moveh (v := .int _ _) rfl) ?_
          refine Rg_nil ?_
          refine ⟨(k + 1, (rdSs s).1, l ++ [(⟨((uintS s (BitVec.ofNat 64 64)).2.toNat : Int), ((uintS (uintS s (BitVec.ofNat 64 64)).1 (BitVec.ofNat 64 256)).2.toNat : Int), a21, c21, (setS (uintS (uintS s (BitVec.ofNat 64 64)).1 (BitVec.ofNat 64 256)).1).2⟩ : SE)], a65, c65), ⟨?_, trivial⟩, ?_, ⟨?_, hXL10, ?_⟩, ?_⟩
          · first | rfl | (go_num) | (exact congrArg _ (by omega))
          · repeat (first | exact off_refl _ _ | exact off_mix | refine off_put rfl ?_ | refine off_putN ?_ | refine off_setL rfl ?_ | refine off_mix' rfl ?_)
          · have hnb := badS_not (s := s) (m := l.map SE.rs) he1 (by show ¬ ((uintS s (BitVec.ofNat 64 64)).2.toNat : Int) ≤ _; rw [hlast]; exact he2) he3 he4
            have h4 := badS_no (Bool.not_eq_true _ ▸ hnb)
            have hr := rdSs_rng s
            have em : (l ++ [(⟨((uintS s (BitVec.ofNat 64 64)).2.toNat : Int), ((uintS (uintS s (BitVec.ofNat 64 64)).1 (BitVec.ofNat 64 256)).2.toNat : Int), a21, c21, (setS (uintS (uintS s (BitVec.ofNat 64 64)).1 (BitVec.ofNat 64 256)).1).2⟩ : SE)]).map SE.rs = l.map SE.rs ++ [(rdSs s).2] := by rw [List.map_append]; rfl
            refine ⟨by show k + 1 ≤ _; omega, ?_, ?_, ?_⟩
            · show OkM (List.map SE.rs (l ++ [(⟨((uintS s (BitVec.ofNat 64 64)).2.toNat : Int), ((uintS (uintS s (BitVec.ofNat 64 64)).1 (BitVec.ofNat 64 256)).2.toNat : Int), a21, c21, (setS (uintS (uintS s (BitVec.ofNat 64 64)).1 (BitVec.ofNat 64 256)).1).2⟩ : SE)]))
              rw [em]; exact hm.push ⟨h4.2.1, hr.1.2⟩ ⟨h4.2.2.1, hr.2.2⟩ (by simpa [hasW] using h4.2.2.2)
            · show _ = rsGo _ _ (List.map SE.rs (l ++ [(⟨((uintS s (BitVec.ofNat 64 64)).2.toNat : Int), ((uintS (uintS s (BitVec.ofNat 64 64)).1 (BitVec.ofNat 64 256)).2.toNat : Int), a21, c21, (setS (uintS (uintS s (BitVec.ofNat 64 64)).1 (BitVec.ofNat 64 256)).1).2⟩ : SE)]))
              rw [em]; exact rsGo_on hrd hkN hnb
            · show (setS (uintS (uintS s (BitVec.ofNat 64 64)).1 (BitVec.ofNat 64 256)).1).1.1.length ≤ _; omega
          · exact ⟨hownr, hbx, hv65, hws2⟩
          · show (countS (p, 0) 64).2 - (k + 1) < (countS (p, 0) 64).2 - k; omega
      refine Rg_run rfl (o_moveh (v := .bool _) rfl) ?_
      refine Rg_off 3 42 rfl rfl (congrArg Value.bool (show ((setS (uintS (uintS s (BitVec.ofNat 64 64)).1 (BitVec.ofNat 64 256)).1).1.2 != 0) = true from bne_iff_ne.2 he1)) rfl rfl ?_
      refine Rg_off 3 42 rfl rfl (congrArg Value.bool (show ((setS (uintS (uintS s (BitVec.ofNat 64 64)).1 (BitVec.ofNat 64 256)).1).1.2 != 0) = true from bne_iff_ne.2 he1)) rfl rfl ?_
      refine Rg_off 3 42 rfl rfl (congrArg Value.bool (show ((setS (uintS (uintS s (BitVec.ofNat 64 64)).1 (BitVec.ofNat 64 256)).1).1.2 != 0) = true from bne_iff_ne.2 he1)) rfl rfl ?_
      refine Rg_off 3 42 rfl rfl (congrArg Value.bool (show ((setS (uintS (uintS s (BitVec.ofNat 64 64)).1 (BitVec.ofNat 64 256)).1).1.2 != 0) = true from bne_iff_ne.2 he1)) rfl rfl ?_
      refine Rg_run rfl (o_pickT (v := .bool _) (congrArg Value.bool (show ((setS (uintS (uintS s (BitVec.ofNat 64 64)).1 (BitVec.ofNat 64 256)).1).1.2 != 0) = true from bne_iff_ne.2 he1)) rfl) ?_
      refine Rg_run rfl (o_moveh (v := .bool _) rfl) ?_
      refine Rg_off 9 48 rfl rfl rfl rfl rfl ?_
      refine Rg_off 9 48 rfl rfl rfl rfl rfl ?_
      refine Rg_off 9 48 rfl rfl rfl rfl rfl ?_
      refine Rg_run rfl (o_pickT (v := .bool _) rfl rfl) ?_
      refine Rg_run rfl (o_moveh (v := .bool _) rfl) ?_
      refine Rg_off 14 53 rfl rfl rfl rfl rfl ?_
      refine Rg_off 14 53 rfl rfl rfl rfl rfl ?_
      refine Rg_off 14 53 rfl rfl rfl rfl rfl ?_
      refine Rg_run rfl (o_pickT (v := .bool _) rfl rfl) ?_
      refine Rg_nil ?_
      refine W_cond_true rfl ?_
      refine W_seq (W_region ?_)
      refine Rg_run rfl o_assignc ?_
      refine Rg_run rfl o_assignc ?_
      refine Rg_nil (W_ret ?_)
      refine ⟨_, res_tmp2 rfl rfl rfl, ?_⟩
      have hb : badS s (l.map SE.rs) = true := badS_iff.2 (.inl he1)
      exact ⟨⟨_, _, rfl, (by rw [readS_bad (rsGo_bad hrd hkN hb)]; exact ⟨rfl, rfl⟩)⟩, hX⟩
    replace hc2 : ¬ 0 < l.length := by have := of_decide_eq_false hc2; omega
    refine W_skip (W_seq (W_seq (W_region ?_)))
    have hlast : lastN (l.map SE.rs) = 0 := by rw [lastN_map, if_neg hc2]
    refine Rg_run rfl (o_moveh (v := v10) rfl) ?_
    refine Rg_enter rfl (o_call1 Tryz.call56 rfl) (Ok.mono (rerr_ok v10 _ (setS (uintS (uintS s (BitVec.ofNat 64 64)).1 (BitVec.ofNat 64 256)).1).1 _ hownr) ?_)
    rintro _ w100 ⟨rfl, x101⟩
    have z102 := Bel.size x101
    replace hX := Bel.ex hX x101
    replace hXL10 := Bel.ex hXL10 x101
    replace hownr := hownr.ext x101
    replace hbx := hbx.ext x101
    replace hownl := hownl.ext x101
    replace hws := hws.ext x101
    replace hq21 := hq21.ext x101
    replace hb6 := hb6.ext x101
    refine Rg_run rfl (o_neq rfl rfl) ?_
    refine (Decidable.em ((setS (uintS (uintS s (BitVec.ofNat 64 64)).1 (BitVec.ofNat 64 256)).1).1.2 = 0)).elim (fun he1 => ?_) (fun he1 => ?_)
    · skip
      refine Rg_run rfl (o_moveh (v := .bool _) rfl) ?_
      refine Rg_on 3 42 rfl (congrArg Value.bool (show ((setS (uintS (uintS s (BitVec.ofNat 64 64)).1 (BitVec.ofNat 64 256)).1).1.2 != 0) = false by rw [he1]; rfl)) ?_
      refine Rg_run rfl (o_fa Tryz.underlying38 rfl Tryz.sizeOf3 rfl) ?_
      refine Rg_on 3 42 rfl (congrArg Value.bool (show ((setS (uintS (uintS s (BitVec.ofNat 64 64)).1 (BitVec.ofNat 64 256)).1).1.2 != 0) = false by rw [he1]; rfl)) ?_
      refine Rg_run rfl (o_load1 Tryz.isAgg3 rfl (hb6.at.get 0 rfl)) ?_
      refine Rg_on 3 42 rfl (congrArg Value.bool (show ((setS (uintS (uintS s (BitVec.ofNat 64 64)).1 (BitVec.ofNat 64 256)).1).1.2 != 0) = false by rw [he1]; rfl)) ?_
      refine Rg_run rfl (o_moveh (v := .int _ _) rfl) ?_
      refine Rg_on 3 42 rfl (congrArg Value.bool (show ((setS (uintS (uintS s (BitVec.ofNat 64 64)).1 (BitVec.ofNat 64 256)).1).1.2 != 0) = false by rw [he1]; rfl)) ?_
      refine Rg_run rfl (o_leq rfl rfl) ?_
      refine Rg_run rfl (o_pickF (v := .bool _) (congrArg Value.bool (show ((setS (uintS (uintS s (BitVec.ofNat 64 64)).1 (BitVec.ofNat 64 256)).1).1.2 != 0) = false by rw [he1]; rfl)) rfl) ?_
      refine (Decidable.em (((uintS s (BitVec.ofNat 64 64)).2.toNat : Int) ≤ 0)).elim (fun he2 => ?_) (fun he2 => ?_)
      · skip
        refine Rg_run rfl (o_moveh (v := .bool _) rfl) ?_
        refine Rg_off 9 48 rfl rfl (congrArg Value.bool (decide_eq_true he2)) rfl rfl ?_
        refine Rg_off 9 48 rfl rfl (congrArg Value.bool (decide_eq_true he2)) rfl rfl ?_
        refine Rg_off 9 48 rfl rfl (congrArg Value.bool (decide_eq_true he2)) rfl rfl ?_
        refine Rg_run rfl (o_pickT (v := .bool _) (congrArg Value.bool (decide_eq_true he2)) rfl) ?_
        refine Rg_run rfl (o_moveh (v := .bool _) rfl) ?_
        refine Rg_off 14 53 rfl rfl rfl rfl rfl ?_
        refine Rg_off 14 53 rfl rfl rfl rfl rfl ?_
        refine Rg_off 14 53 rfl rfl rfl rfl rfl ?_
        refine Rg_run rfl (o_pickT (v := .bool _) rfl rfl) ?_
        refine Rg_nil ?_
        refine W_cond_true rfl ?_
        refine W_seq (W_region ?_)
        refine Rg_run rfl o_assignc ?_
        refine Rg_run rfl o_assignc ?_
        refine Rg_nil (W_ret ?_)
        refine ⟨_, res_tmp2 rfl rfl rfl, ?_⟩
        have hb : badS s (l.map SE.rs) = true := badS_iff.2 (.inr (.inl (by show ((uintS s (BitVec.ofNat 64 64)).2.toNat : Int) ≤ _; rw [hlast]; exact he2)))
        exact ⟨⟨_, _, rfl, (by rw [readS_bad (rsGo_bad hrd hkN hb)]; exact ⟨rfl, rfl⟩)⟩, hX⟩
      refine Rg_run rfl (o_moveh (v := .bool _) rfl) ?_
      refine Rg_on 9 48 rfl (congrArg Value.bool (decide_eq_false he2)) ?_
      refine Rg_run rfl (o_fa Tryz.underlying38 rfl Tryz.sizeOf3 rfl) ?_
      refine Rg_on 9 48 rfl (congrArg Value.bool (decide_eq_false he2)) ?_
      refine Rg_run rfl (o_load1 Tryz.isAgg3 rfl (hb6.at.get 1 rfl)) ?_
      refine Rg_on 9 48 rfl (congrArg Value.bool (decide_eq_false he2)) ?_
      refine Rg_run rfl (o_lss rfl rfl) ?_
      refine Rg_run rfl (o_pickF (v := .bool _) (congrArg Value.bool (decide_eq_false he2)) rfl) ?_
      refine (Decidable.em (((uintS (uintS s (BitVec.ofNat 64 64)).1 (BitVec.ofNat 64 256)).2.toNat : Int) < 1)).elim (fun he3 => ?_) (fun he3 => ?_)
      · skip
        refine Rg_run rfl (o_moveh (v := .bool _) rfl) ?_
        refine Rg_off 14 53 rfl rfl (congrArg Value.bool (decide_eq_true he3)) rfl rfl ?_
        refine Rg_off 14 53 rfl rfl (congrArg Value.bool (decide_eq_true he3)) rfl rfl ?_
        refine Rg_off 14 53 rfl rfl (congrArg Value.bool (decide_eq_true he3)) rfl rfl ?_
        refine Rg_run rfl (o_pickT (v := .bool _) (congrArg Value.bool (decide_eq_true he3)) rfl) ?_
        refine Rg_nil ?_
        refine W_cond_true rfl ?_
        refine W_seq (W_region ?_)
        refine Rg_run rfl o_assignc ?_
        refine Rg_run rfl o_assignc ?_
        refine Rg_nil (W_ret ?_)
        refine ⟨_, res_tmp2 rfl rfl rfl, ?_⟩
        have hb : badS s (l.map SE.rs) = true := badS_iff.2 (.inr (.inr (.inl he3)))
        exact ⟨⟨_, _, rfl, (by rw [readS_bad (rsGo_bad hrd hkN hb)]; exact ⟨rfl, rfl⟩)⟩, hX⟩
      refine Rg_run rfl (o_moveh (v := .bool _) rfl) ?_
      refine Rg_on 14 53 rfl (congrArg Value.bool (decide_eq_false he3)) ?_
      refine Rg_run rfl (o_fa Tryz.underlying38 rfl Tryz.sizeOf36 rfl) ?_
      refine Rg_on 14 53 rfl (congrArg Value.bool (decide_eq_false he3)) ?_
      refine Rg_run rfl (o_loadS Tryz.isAgg36 Tryz.sizeOf36 rfl (hb6.at.sub 2 1) rfl) ?_
      refine Rg_on 14 53 rfl (congrArg Value.bool (decide_eq_false he3)) ?_
      refine Rg_enter rfl (o_call2 Tryz.call46 rfl rfl) (Ok.mono (bhas_ok _ ⟨a21, c21, (setS (uintS (uintS s (BitVec.ofNat 64 64)).1 (BitVec.ofNat 64 256)).1).2⟩ _ hq21 _ (by unfold I64; omega)) ?_)
      rintro _ w103 ⟨rfl, x104⟩
      have z105 := Bel.size x104
      replace hX := Bel.ex hX x104
      replace hXL10 := Bel.ex hXL10 x104
      replace hownr := hownr.ext x104
      replace hbx := hbx.ext x104
      replace hownl := hownl.ext x104
      replace hws := hws.ext x104
      replace hq21 := hq21.ext x104
      replace hb6 := hb6.ext x104
      refine (Decidable.em (hasW (setS (uintS (uintS s (BitVec.ofNat 64 64)).1 (BitVec.ofNat 64 256)).1).2 0 = true)).elim (fun he4 => ?_) (fun he4 => ?_)
      · skip
        refine Rg_run rfl (o_pickF (v := .bool _) (congrArg Value.bool (decide_eq_false he3)) rfl) ?_
        refine Rg_nil ?_
        refine W_cond_true (congrArg Value.bool he4) ?_
        refine W_seq (W_region ?_)
        refine Rg_run rfl o_assignc ?_
        refine Rg_run rfl o_assignc ?_
        refine Rg_nil (W_ret ?_)
        refine ⟨_, res_tmp2 rfl rfl rfl, ?_⟩
        have hb : badS s (l.map SE.rs) = true := badS_iff.2 (.inr (.inr (.inr he4)))
        exact ⟨⟨_, _, rfl, (by rw [readS_bad (rsGo_bad hrd hkN hb)]; exact ⟨rfl, rfl⟩)⟩, hX⟩
      refine Rg_run rfl (o_pickF (v := .bool _) (congrArg Value.bool (decide_eq_false he3)) rfl) ?_
      refine Rg_nil ?_
      refine W_cond_false (congrArg Value.bool (show hasW (setS (uintS (uintS s (BitVec.ofNat 64 64)).1 (BitVec.ofNat 64 256)).1).2 0 = false by simpa using he4)) ?_
      refine W_skip ?_
      obtain ⟨n6, hn6⟩ : ∃ n, n = w103.heap.size := ⟨_, rfl⟩
      replace hws := hws.mono (F' := fun g => (n2 ≤ g ∧ g < n6) ∧ ¬ (Value.slice a l.length c).ownBlock = some g) (fun g h1 h2 => ⟨⟨h2.1, by omega⟩, h2.2⟩)
      replace hq21 := hq21.mono (F' := fun g => n5 ≤ g ∧ g < n6) (fun g h1 h2 => ⟨by omega, by omega⟩)
      apply W_drawC (β := False) (fun b => if (Value.slice a l.length c).ownBlock = some b then 1 else 0) [peqC _, peqC _, peqC _, peqC _, peqC _, peqC _, (fun v w c => ∃ a, v = .slice a 1 1 ∧ postOwn encSe 3 38 2 [(⟨((uintS s (BitVec.ofNat 64 64)).2.toNat : Int), ((uintS (uintS s (BitVec.ofNat 64 64)).1 (BitVec.ofNat 64 256)).2.toNat : Int), a21, c21, (setS (uintS (uintS s (BitVec.ofNat 64 64)).1 (BitVec.ofNat 64 256)).1).2⟩ : SE)] v w c), (postOwn encSe 3 38 1 (l ++ [(⟨((uintS s (BitVec.ofNat 64 64)).2.toNat : Int), ((uintS (uintS s (BitVec.ofNat 64 64)).1 (BitVec.ofNat 64 256)).2.toNat : Int), a21, c21, (setS (uintS (uintS s (BitVec.ofNat 64 64)).1 (BitVec.ofNat 64 256)).1).2⟩ : SE)])), peqC _, peqC _] [0, 0, 0, 0, 0, 0, 2, 1, 0, 0] 10 mixed (by kernel_rfl) (by kernel_rfl) rfl ⟨peqC_stable _ _, peqC_stable _ _, peqC_stable _ _, peqC_stable _ _, peqC_stable _ _, peqC_stable _ _, (postBs_stable), (postOwn_stable), peqC_stable _ _, peqC_stable _ _, trivial⟩ ?ob11 ?fin11
      case ob11 =>
        refine OblC_cons (fun w106 c108 x107 hc0109 hk110 => ?_) ?_
        · skip
          replace x107 := Bel.mono x107 (D' := fun g => n2 ≤ g ∧ g < n5 ∧ (Value.slice a l.length c).ownBlock = some g) (fun g hg h => (by have h1 := Classical.byContradiction (p := (Value.slice a l.length c).ownBlock = some g) (fun hn => h (if_neg hn)); exact ⟨(hol g h1).1, (hol g h1).2, h1⟩))
          have z111 := Bel.size x107
          refine bindC_nil ?_
          exact OpC_v rfl (o_moveh (v := .pointer (some ⟨b11, 0, none⟩)) rfl)
        refine OblC_cons (fun w112 c114 x113 hc0115 hk116 => ?_) ?_
        · skip
          replace x113 := Bel.mono x113 (D' := fun g => n2 ≤ g ∧ g < n5 ∧ (Value.slice a l.length c).ownBlock = some g) (fun g hg h => (by have h1 := Classical.byContradiction (p := (Value.slice a l.length c).ownBlock = some g) (fun hn => h (if_neg hn)); exact ⟨(hol g h1).1, (hol g h1).2, h1⟩))
          have z117 := Bel.size x113
          refine bindC_nil ?_
          exact OpC_v rfl (o_moveh (v := .pointer (some ⟨b11, 0, none⟩)) rfl)
        refine OblC_cons (fun w118 c120 x119 hc0121 hk122 => ?_) ?_
        · skip
          replace x119 := Bel.mono x119 (D' := fun g => n2 ≤ g ∧ g < n5 ∧ (Value.slice a l.length c).ownBlock = some g) (fun g hg h => (by have h1 := Classical.byContradiction (p := (Value.slice a l.length c).ownBlock = some g) (fun hn => h (if_neg hn)); exact ⟨(hol g h1).1, (hol g h1).2, h1⟩))
          have z123 := Bel.size x119
          refine bindC_eq (bindC_nil ?_)
          exact OpC_v rfl (o_nilc rfl)
        refine OblC_cons (fun w124 c126 x125 hc0127 hk128 => ?_) ?_
        · skip
          replace x125 := Bel.mono x125 (D' := fun g => n2 ≤ g ∧ g < n5 ∧ (Value.slice a l.length c).ownBlock = some g) (fun g hg h => (by have h1 := Classical.byContradiction (p := (Value.slice a l.length c).ownBlock = some g) (fun hn => h (if_neg hn)); exact ⟨(hol g h1).1, (hol g h1).2, h1⟩))
          have z129 := Bel.size x125
          refine bindC_eq (bindC_nil ?_)
          exact OpC_v rfl (o_fa Tryz.underlying91 rfl Tryz.sizeOf32 rfl)
        refine OblC_cons (fun w130 c132 x131 hc0133 hk134 => ?_) ?_
        · skip
          replace x131 := Bel.mono x131 (D' := fun g => n2 ≤ g ∧ g < n5 ∧ (Value.slice a l.length c).ownBlock = some g) (fun g hg h => (by have h1 := Classical.byContradiction (p := (Value.slice a l.length c).ownBlock = some g) (fun hn => h (if_neg hn)); exact ⟨(hol g h1).1, (hol g h1).2, h1⟩))
          have z135 := Bel.size x131
          have hbx := hbx.keep x131 (fun h => by omega)
          refine bindC_eq (bindC_nil ?_)
          exact OpC_v rfl (o_load1 Tryz.isAgg32 rfl (hbx.at.get 0 rfl))
        refine OblC_cons (fun w136 c138 x137 hc0139 hk140 => ?_) ?_
        · skip
          replace x137 := Bel.mono x137 (D' := fun g => n2 ≤ g ∧ g < n5 ∧ (Value.slice a l.length c).ownBlock = some g) (fun g hg h => (by have h1 := Classical.byContradiction (p := (Value.slice a l.length c).ownBlock = some g) (fun hn => h (if_neg hn)); exact ⟨(hol g h1).1, (hol g h1).2, h1⟩))
          have z141 := Bel.size x137
          have hb6 := hb6.keep x137 (fun h => by omega)
          refine bindC_nil ?_
          exact OpC_v rfl (o_loadS Tryz.isAgg38 Tryz.sizeOf38 rfl hb6.at rfl)
        refine OblC_cons (fun w142 c144 x143 hc0145 hk146 => ?_) ?_
        · skip
          replace x143 := Bel.mono x143 (D' := fun g => n2 ≤ g ∧ g < n5 ∧ (Value.slice a l.length c).ownBlock = some g) (fun g hg h => (by have h1 := Classical.byContradiction (p := (Value.slice a l.length c).ownBlock = some g) (fun hn => h (if_neg hn)); exact ⟨(hol g h1).1, (hol g h1).2, h1⟩))
          have z147 := Bel.size x143
          refine bindC_eq (bindC_nil ?_)
          exact OpC_bs (vs := [.agg _]) [(⟨((uintS s (BitVec.ofNat 64 64)).2.toNat : Int), ((uintS (uintS s (BitVec.ofNat 64 64)).1 (BitVec.ofNat 64 256)).2.toNat : Int), a21, c21, (setS (uintS (uintS s (BitVec.ofNat 64 64)).1 (BitVec.ofNat 64 256)).1).2⟩ : SE)] encSe_ok el_ses rfl rfl ⟨rfl, trivial⟩ rfl rfl rfl rfl
        refine OblC_cons (fun w148 c150 x149 hc0151 hk152 => ?_) ?_
        · skip
          replace x149 := Bel.mono x149 (D' := fun g => n2 ≤ g ∧ g < n5 ∧ (Value.slice a l.length c).ownBlock = some g) (fun g hg h => (by have h1 := Classical.byContradiction (p := (Value.slice a l.length c).ownBlock = some g) (fun hn => h (if_neg hn)); exact ⟨(hol g h1).1, (hol g h1).2, h1⟩))
          have z153 := Bel.size x149
          refine bindC_eq ?_
          refine bindC_mem (fun v64 hv64 => ?_)
          refine bindC_nil ?_
          obtain ⟨a64, rfl, ho64⟩ := hv64
          exact OpC_app (by decide) encSe_ok el_ses rfl rfl (Own.blk hownl (fun g hg hl => hk152 1 (by decide) (by kernel_rfl) g hg (if_pos hl)) (fun g hg hl => (hc0151 g hg).trans (if_pos hl))) (Own.slA ho64 encSe_ok) rfl (by show (l.length + 1) * 40 ≤ 140737488355328; omega)
        refine OblC_cons (fun w154 c156 x155 hc0157 hk158 => ?_) ?_
        · skip
          replace x155 := Bel.mono x155 (D' := fun g => n2 ≤ g ∧ g < n5 ∧ (Value.slice a l.length c).ownBlock = some g) (fun g hg h => (by have h1 := Classical.byContradiction (p := (Value.slice a l.length c).ownBlock = some g) (fun hn => h (if_neg hn)); exact ⟨(hol g h1).1, (hol g h1).2, h1⟩))
          have z159 := Bel.size x155
          refine bindC_eq (bindC_eq (bindC_eq (bindC_eq (bindC_eq (bindC_eq (bindC_eq ?_))))))
          refine bindC_mem (fun v64 hv64 => ?_)
          refine bindC_mem (fun v65 hv65 => ?_)
          refine bindC_nil ?_
          exact OpC_v rfl (o_nilc rfl)
        refine OblC_cons (fun w160 c162 x161 hc0163 hk164 => ?_) ?_
        · skip
          replace x161 := Bel.mono x161 (D' := fun g => n2 ≤ g ∧ g < n5 ∧ (Value.slice a l.length c).ownBlock = some g) (fun g hg h => (by have h1 := Classical.byContradiction (p := (Value.slice a l.length c).ownBlock = some g) (fun hn => h (if_neg hn)); exact ⟨(hol g h1).1, (hol g h1).2, h1⟩))
          have z165 := Bel.size x161
          refine bindC_eq (bindC_eq (bindC_eq (bindC_eq (bindC_eq (bindC_eq (bindC_eq ?_))))))
          refine bindC_mem (fun v64 hv64 => ?_)
          refine bindC_mem (fun v65 hv65 => ?_)
          refine bindC_nil ?_
          exact OpC_v rfl (o_fa Tryz.underlying91 rfl Tryz.sizeOf32 rfl)
        exact OblC_nil
      case fin11 =>
        intro w166 c168 x167 hc0169
        replace x167 := Bel.mono x167 (D' := fun g => n2 ≤ g ∧ g < n5 ∧ (Value.slice a l.length c).ownBlock = some g) (fun g hg h => (by have h1 := Classical.byContradiction (p := (Value.slice a l.length c).ownBlock = some g) (fun hn => h (if_neg hn)); exact ⟨(hol g h1).1, (hol g h1).2, h1⟩))
        have z170 := Bel.size x167
        replace hX := Bel.out hX x167 (fun g h1 h2 => by first | exact h2 | omega)
        replace hXL10 := Bel.out hXL10 x167 (fun g h1 h2 => by first | exact h2 | omega)
        replace hownr := hownr.keepD x167 (fun g h1 h2 h3 => by omega)
        replace hbx := hbx.keep x167 (fun h => by omega)
        replace hws := hws.keep x167 (fun g h1 h2 h3 => by first | omega | exact h2.2 h3.2.2)
        replace hq21 := hq21.keep x167 (fun g h1 h2 h3 => by omega)
        refine bindC_eq (bindC_eq (bindC_eq (bindC_eq (bindC_eq (bindC_eq ?_)))))
        refine bindC_mem (fun v64 hv64 => ?_)
        refine bindC_mem (fun v65 hv65 => ?_)
        refine bindC_eq (bindC_eq (bindC_nil ?_))
        change Own _ _ _ _ _ _ _ at hv65
        obtain ⟨a65, c65, hv65e, -⟩ := Own.sl hv65 encSe_ok
        subst hv65e
        replace hv65 := Own.mono hv65 (D' := fun g => (Value.slice a l.length c).ownBlock = some g ∨ n6 ≤ g) (fun g h1 h2 => (Nat.lt_or_ge g n6).elim (fun q => Or.inl (Classical.byContradiction fun hn => by have h := hc0169 g (by omega); rw [h2] at h; exact absurd (h.trans (if_neg hn)) (by decide))) Or.inr)
        have hws2 : SesAt (fun g => n2 ≤ g ∧ ¬ (Value.slice a65 (l ++ [(⟨((uintS s (BitVec.ofNat 64 64)).2.toNat : Int), ((uintS (uintS s (BitVec.ofNat 64 64)).1 (BitVec.ofNat 64 256)).2.toNat : Int), a21, c21, (setS (uintS (uintS s (BitVec.ofNat 64 64)).1 (BitVec.ofNat 64 256)).1).2⟩ : SE)]).length c65).ownBlock = some g) w166 (l ++ [(⟨((uintS s (BitVec.ofNat 64 64)).2.toNat : Int), ((uintS (uintS s (BitVec.ofNat 64 64)).1 (BitVec.ofNat 64 256)).2.toNat : Int), a21, c21, (setS (uintS (uintS s (BitVec.ofNat 64 64)).1 (BitVec.ofNat 64 256)).1).2⟩ : SE)]) := SesAt.app (hws.mono (fun g h1 h2 => ⟨h2.1.1, fun e => (hv65.loc g e).elim h2.2 (fun q => by omega)⟩)) (SesAt.cons (hq21.mono (fun g h1 h2 => ⟨by omega, fun e => (hv65.loc g e).elim (fun q => by have := hol g q; omega) (fun q => by omega)⟩)) SesAt.nil)
        replace hv65 := Own.mono hv65 (D' := fun g => n2 ≤ g) (fun g h1 h2 => h2.elim (fun q => (hol g q).1) (fun q => by omega))
        refine Rg_store (v := .slice _ _ _) rfl Tryz.sizeOf32 rfl rfl hbx rfl rfl rfl ?_
        intro w171 c172 hbx
        have z173 := Bel.size c172
        replace hX := Bel.out hX c172 (fun g h1 h2 => by first | exact h2 | omega)
        replace hXL10 := Bel.out hXL10 c172 (fun g h1 h2 => by first | exact h2 | omega)
        replace hownr := hownr.keepD c172 (fun g h1 h2 h3 => by omega)
        replace hv65 := hv65.keepD c172 (fun g h1 h2 h3 => by omega)
        replace hws2 := hws2.keep c172 (fun g h1 h2 h3 => by omega)
        refine Rg_nil (W_region ?_)
        refine Rg_run rfl (o_add rfl rfl (by first | omega | (unfold I64; omega) | (simp; done) | (simp; omega) | (simp at *; omega))) ?_
        refine Rg_run rfl (o_moveh (v := .int _ _) rfl) ?_
        refine Rg_nil ?_
        refine ⟨(k + 1, (rdSs s).1, l ++ [(⟨((uintS s (BitVec.ofNat 64 64)).2.toNat : Int), ((uintS (uintS s (BitVec.ofNat 64 64)).1 (BitVec.ofNat 64 256)).2.toNat : Int), a21, c21, (setS (uintS (uintS s (BitVec.ofNat 64 64)).1 (BitVec.ofNat 64 256)).1).2⟩ : SE)], a65, c65), ⟨?_, trivial⟩, ?_, ⟨?_, hXL10, ?_⟩, ?_⟩
        · first | rfl | (go_num) | (exact congrArg _ (by omega))
        · repeat (first | exact off_refl _ _ | exact off_mix | refine off_put rfl ?_ | refine off_putN ?_ | refine off_setL rfl ?_ | refine off_mix' rfl ?_)
        · have hnb := badS_not (s := s) (m := l.map SE.rs) he1 (by show ¬ ((uintS s (BitVec.ofNat 64 64)).2.toNat : Int) ≤ _; rw [hlast]; exact he2) he3 he4
          have h4 := badS_no (Bool.not_eq_true _ ▸ hnb)
          have hr := rdSs_rng s
          have em : (l ++ [(⟨((uintS s (BitVec.ofNat 64 64)).2.toNat : Int), ((uintS (uintS s (BitVec.ofNat 64 64)).1 (BitVec.ofNat 64 256)).2.toNat : Int), a21, c21, (setS (uintS (uintS s (BitVec.ofNat 64 64)).1 (BitVec.ofNat 64 256)).1).2⟩ : SE)]).map SE.rs = l.map SE.rs ++ [(rdSs s).2] := by rw [List.map_append]; rfl
          refine ⟨by show k + 1 ≤ _; omega, ?_, ?_, ?_⟩
          · show OkM (List.map SE.rs (l ++ [(⟨((uintS s (BitVec.ofNat 64 64)).2.toNat : Int), ((uintS (uintS s (BitVec.ofNat 64 64)).1 (BitVec.ofNat 64 256)).2.toNat : Int), a21, c21, (setS (uintS (uintS s (BitVec.ofNat 64 64)).1 (BitVec.ofNat 64 256)).1).2⟩ : SE)]))
            rw [em]; exact hm.push ⟨h4.2.1, hr.1.2⟩ ⟨h4.2.2.1, hr.2.2⟩ (by simpa [hasW] using h4.2.2.2)
          · show _ = rsGo _ _ (List.map SE.rs (l ++ [(⟨((uintS s (BitVec.ofNat 64 64)).2.toNat : Int), ((uintS (uintS s (BitVec.ofNat 64 64)).1 (BitVec.ofNat 64 256)).2.toNat : Int), a21, c21, (setS (uintS (uintS s (BitVec.ofNat 64 64)).1 (BitVec.ofNat 64 256)).1).2⟩ : SE)]))
            rw [em]; exact rsGo_on hrd hkN hnb
          · show (setS (uintS (uintS s (BitVec.ofNat 64 64)).1 (BitVec.ofNat 64 256)).1).1.1.length ≤ _; omega
        · exact ⟨hownr, hbx, hv65, hws2⟩
        · show (countS (p, 0) 64).2 - (k + 1) < (countS (p, 0) 64).2 - k; omega
    refine Rg_run rfl (o_moveh (v := .bool _) rfl) ?_
    refine Rg_off 3 42 rfl rfl (congrArg Value.bool (show ((setS (uintS (uintS s (BitVec.ofNat 64 64)).1 (BitVec.ofNat 64 256)).1).1.2 != 0) = true from bne_iff_ne.2 he1)) rfl rfl ?_
    refine Rg_off 3 42 rfl rfl (congrArg Value.bool (show ((setS (uintS (uintS s (BitVec.ofNat 64 64)).1 (BitVec.ofNat 64 256)).1).1.2 != 0) = true from bne_iff_ne.2 he1)) rfl rfl ?_
    refine Rg_off 3 42 rfl rfl (congrArg Value.bool (show ((setS (uintS (uintS s (BitVec.ofNat 64 64)).1 (BitVec.ofNat 64 256)).1).1.2 != 0) = true from bne_iff_ne.2 he1)) rfl rfl ?_
    refine Rg_off 3 42 rfl rfl (congrArg Value.bool (show ((setS (uintS (uintS s (BitVec.ofNat 64 64)).1 (BitVec.ofNat 64 256)).1).1.2 != 0) = true from bne_iff_ne.2 he1)) rfl rfl ?_
    refine Rg_run rfl (o_pickT (v := .bool _) (congrArg Value.bool (show ((setS (uintS (uintS s (BitVec.ofNat 64 64)).1 (BitVec.ofNat 64 256)).1).1.2 != 0) = true from bne_iff_ne.2 he1)) rfl) ?_
    refine Rg_run rfl (o_moveh (v := .bool _) rfl) ?_
    refine Rg_off 9 48 rfl rfl rfl rfl rfl ?_
    refine Rg_off 9 48 rfl rfl rfl rfl rfl ?_
    refine Rg_off 9 48 rfl rfl rfl rfl rfl ?_
    refine Rg_run rfl (o_pickT (v := .bool _) rfl rfl) ?_
    refine Rg_run rfl (o_moveh (v := .bool _) rfl) ?_
    refine Rg_off 14 53 rfl rfl rfl rfl rfl ?_
    refine Rg_off 14 53 rfl rfl rfl rfl rfl ?_
    refine Rg_off 14 53 rfl rfl rfl rfl rfl ?_
    refine Rg_run rfl (o_pickT (v := .bool _) rfl rfl) ?_
    refine Rg_nil ?_
    refine W_cond_true rfl ?_
    refine W_seq (W_region ?_)
    refine Rg_run rfl o_assignc ?_
    refine Rg_run rfl o_assignc ?_
    refine Rg_nil (W_ret ?_)
    refine ⟨_, res_tmp2 rfl rfl rfl, ?_⟩
    have hb : badS s (l.map SE.rs) = true := badS_iff.2 (.inl he1)
    exact ⟨⟨_, _, rfl, (by rw [readS_bad (rsGo_bad hrd hkN hb)]; exact ⟨rfl, rfl⟩)⟩, hX⟩
  replace hc1 := of_decide_eq_false hc1
  refine W_exit (exAt_hit (W_seq (W_seq (W_region ?_))))
  obtain ⟨sf, mf, hfin, hmf, hownr, hbk⟩ : ∃ sf mf, rsGo (countS (p, 0) 64).2 (countS (p, 0) 64).1 [] = some (sf, mf) ∧ OkM mf ∧ Rr 164 (fun g => w.heap.size ≤ g ∧ g < n1) w11 v10 sf ∧ BkIs w11 (.pointer (some ⟨b11, 0, none⟩)) mf := ⟨s, l.map SE.rs, by rw [hrd, show (countS (p, 0) 64).2 - k = 0 by omega]; rfl, hm, hownr, bk_new hbx rfl hownl hws rfl⟩
  refine Rg_run rfl (o_moveh (v := v10) rfl) ?_
  refine Rg_enter rfl (o_call1 Tryz.call57 rfl) (Ok.mono (rend_ok v10 _ sf _ hownr) ?_)
  rintro _ w174 ⟨rfl, x175⟩
  have z176 := Bel.size x175
  replace hX := Bel.ex hX x175
  replace hp := hp.ext x175
  replace hbk := hbk.ext x175
  refine Rg_run rfl (o_neq rfl rfl) ?_
  refine (Decidable.em (endS sf ≠ 0)).elim (fun hend => ?_) (fun hend => ?_)
  · skip
    refine Rg_run rfl (o_moveh (v := .bool _) rfl) ?_
    refine Rg_off 3 72 rfl rfl (congrArg Value.bool (show (endS sf != 0) = true from bne_iff_ne.2 hend)) rfl rfl ?_
    refine Rg_off 3 72 rfl rfl (congrArg Value.bool (show (endS sf != 0) = true from bne_iff_ne.2 hend)) rfl rfl ?_
    refine Rg_off 3 72 rfl rfl (congrArg Value.bool (show (endS sf != 0) = true from bne_iff_ne.2 hend)) rfl rfl ?_
    refine Rg_off 3 72 rfl rfl (congrArg Value.bool (show (endS sf != 0) = true from bne_iff_ne.2 hend)) rfl rfl ?_
    refine Rg_off 3 72 rfl rfl (congrArg Value.bool (show (endS sf != 0) = true from bne_iff_ne.2 hend)) rfl rfl ?_
    refine Rg_run rfl (o_pickT (v := .bool _) (congrArg Value.bool (show (endS sf != 0) = true from bne_iff_ne.2 hend)) rfl) ?_
    refine Rg_nil ?_
    refine W_cond_true rfl ?_
    refine W_seq (W_region ?_)
    refine Rg_run rfl o_assignc ?_
    refine Rg_run rfl o_assignc ?_
    refine Rg_nil (W_ret ?_)
    refine ⟨_, res_tmp2 rfl rfl rfl, ?_⟩
    exact ⟨⟨_, _, rfl, (by rw [readS_end1 hfin hend]; exact ⟨rfl, rfl⟩)⟩, hX⟩
  refine Rg_run rfl (o_moveh (v := .bool _) rfl) ?_
  refine Rg_on 3 72 rfl (congrArg Value.bool (show (endS sf != 0) = false by simpa using hend)) ?_
  refine Rg_run rfl (o_moveh (v := .pointer (some ⟨b11, 0, none⟩)) rfl) ?_
  refine Rg_on 3 72 rfl (congrArg Value.bool (show (endS sf != 0) = false by simpa using hend)) ?_
  refine Rg_enter rfl (o_call1 Tryz.call9 rfl) (Ok.mono (sbytes_ok _ _ _ hbk hmf) ?_)
  rintro v74 w177 ⟨hown74, x178⟩
  have z179 := Bel.size x178
  replace hX := Bel.ex hX x178
  replace hp := hp.ext x178
  replace hbk := hbk.ext x178
  replace hown74 := hown74.mono (D' := fun g => w.heap.size ≤ g) (fun g h1 h2 => by omega)
  refine Rg_on 3 72 rfl (congrArg Value.bool (show (endS sf != 0) = false by simpa using hend)) ?_
  refine Rg_run rfl (o_moveh (v := .slice _ _ _) rfl) ?_
  refine Rg_on 3 72 rfl (congrArg Value.bool (show (endS sf != 0) = false by simpa using hend)) ?_
  refine Rg_enter rfl (o_call2 Tryz.call58 rfl rfl) (Ok.mono (beqb_ok _ _ _ _ _ _ _ (hown74.trd encB_ok) ⟨_, _, rfl, hp⟩) ?_)
  rintro _ w180 ⟨rfl, x181⟩
  have z182 := Bel.size x181
  replace hX := Bel.ex hX x181
  replace hbk := hbk.ext x181
  refine (Decidable.em (bytesM mf ≠ p)).elim (fun hne => ?_) (fun hne => ?_)
  · skip
    refine Rg_on 3 72 rfl (congrArg Value.bool (show (endS sf != 0) = false by simpa using hend)) ?_
    refine Rg_run rfl (o_not rfl) ?_
    refine Rg_run rfl (o_pickF (v := .bool _) (congrArg Value.bool (show (endS sf != 0) = false by simpa using hend)) rfl) ?_
    refine Rg_nil ?_
    refine W_cond_true (congrArg Value.bool (show (!(bytesM mf == p)) = true by rw [beq_eq_false_iff_ne.2 hne]; rfl)) ?_
    refine W_seq (W_region ?_)
    refine Rg_run rfl o_assignc ?_
    refine Rg_run rfl o_assignc ?_
    refine Rg_nil (W_ret ?_)
    refine ⟨_, res_tmp2 rfl rfl rfl, ?_⟩
    exact ⟨⟨_, _, rfl, (by rw [readS_end2 hfin hne]; exact ⟨rfl, rfl⟩)⟩, hX⟩
  refine Rg_on 3 72 rfl (congrArg Value.bool (show (endS sf != 0) = false by simpa using hend)) ?_
  refine Rg_run rfl (o_not rfl) ?_
  refine Rg_run rfl (o_pickF (v := .bool _) (congrArg Value.bool (show (endS sf != 0) = false by simpa using hend)) rfl) ?_
  refine Rg_nil ?_
  refine W_cond_false (congrArg Value.bool (show (!(bytesM mf == p)) = false by rw [beq_iff_eq.2 (Classical.not_not.1 hne)]; rfl)) ?_
  refine W_skip (W_seq (W_region ?_))
  refine Rg_run rfl (o_moveh (v := .pointer (some ⟨b11, 0, none⟩)) rfl) ?_
  refine Rg_run rfl (o_assignh (v := .pointer (some ⟨b11, 0, none⟩)) rfl) ?_
  refine Rg_run rfl o_assignc ?_
  refine Rg_nil (W_ret ?_)
  refine ⟨_, res_tmp2 rfl rfl rfl, ?_⟩
  exact ⟨⟨_, _, rfl, (by rw [readS_end3 hfin hend hne]; exact ⟨rfl, hbk⟩)⟩, hX⟩

end Go.Proofs.YtncmjgmlnnenhaaGreatDoor
