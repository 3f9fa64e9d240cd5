/- Several texts in one file. -/
import Derived.Test.YtjnjalalkbamkaaGreatDoorRg
import Derived.Test.YtjnjalalkbamkaaGreatDoorGi
import Derived.Test.YtjnjalalkbamkaaGreatDoorPure11f
import Derived.Test.YtjnjalalkbamkaaGreatDoorDrawC
set_option linter.unusedSimpArgs false
set_option linter.unusedVariables false
set_option linter.unnecessarySimpa false
/- The bytes of a campaign, written and read: plain law. Nothing of a program stands here. -/
namespace Go.Lx
open Go
structure Itm where
 u : Int
 r : Int
 v : Int
 d : Int
deriving DecidableEq
structure Cpg where
 day : Int
 dl : Int
 la : Int
 ch : Int
 kp : Bool
 l : List Itm
def itz : Itm := ⟨0, 0, 0, 0⟩
def itB (x : Itm) : List UInt8 := putU (iW x.u) ++ putU (iW x.r) ++ putU (iW x.v) ++ putU (iW x.d)
def cpH (c : Cpg) : List UInt8 := putU (iW c.day) ++ putU (iW c.dl) ++ putU (iW c.la) ++ putU (iW c.ch) ++ [putF c.kp] ++ putU (BitVec.ofNat 64 c.l.length)
def cpB (c : Cpg) : List UInt8 := cpH c ++ c.l.flatMap itB
def cpK (c : Cpg) (k : Nat) : List UInt8 := cpH c ++ (c.l.take k).flatMap itB
theorem cpK_zero (c : Cpg) : cpK c 0 = cpH c := by simp [cpK]
theorem cpK_end {c : Cpg} {k : Nat} (h : c.l.length ≤ k) : cpK c k = cpB c := by rw [cpK, List.take_of_length_le h, cpB]
theorem cpK_succ {c : Cpg} {k : Nat} (h : k < c.l.length) : cpK c (k + 1) = cpK c k ++ itB (c.l.getD k itz) := by
 rw [cpK, cpK, List.take_succ_eq_append_getElem h, List.flatMap_append, List.append_assoc]
 simp [List.getD, h]
theorem itB_len (x : Itm) : (itB x).length ≤ 44 := by
 have h1 := QP (iW x.u); have h2 := QP (iW x.r); have h3 := QP (iW x.v); have h4 := QP (iW x.d)
 unfold itB
 simp only [List.length_append]; omega
theorem fmI_len : ∀ (l : List Itm), (l.flatMap itB).length ≤ 44 * l.length
 | [] => by simp
 | x :: l => by
  have := fmI_len l; have := itB_len x
  simp only [List.flatMap_cons, List.length_append, List.length_cons]; omega
theorem cpH_len (c : Cpg) : (cpH c).length ≤ 60 := by
 have h1 := QP (iW c.day); have h2 := QP (iW c.dl); have h3 := QP (iW c.la); have h4 := QP (iW c.ch); have h5 := QP (BitVec.ofNat 64 c.l.length)
 unfold cpH
 simp only [List.length_append, List.length_cons, List.length_nil]; omega
theorem cpK_len (c : Cpg) (k : Nat) (h : c.l.length ≤ 20000) : (cpK c k).length ≤ 900000 := by
 have h1 := cpH_len c; have h2 := fmI_len (c.l.take k)
 have h3 : (c.l.take k).length ≤ c.l.length := by rw [List.length_take]; omega
 unfold cpK
 rw [List.length_append]; omega
def nuB (l : List Int) : List UInt8 := l.flatMap fun i => putU (iW i)
theorem nuB_succ {l : List Int} {k : Nat} (h : k < l.length) : nuB (l.take (k + 1)) = nuB (l.take k) ++ putU (iW (l.getD k 0)) := by
 have e : l.getD k 0 = l[k] := by simp [List.getD, h]
 unfold nuB
 rw [List.take_succ_eq_append_getElem h, List.flatMap_append, e]; simp
theorem nuB_len (l : List Int) : (nuB l).length ≤ 11 * l.length := by
 induction l with
 | nil => simp [nuB]
 | cons i l ih =>
  have h := QP (iW i)
  unfold nuB at ih ⊢
  rw [List.flatMap_cons, List.length_append, List.length_cons]; omega
theorem cpH_nums (c : Cpg) : cpH c = nuB [c.day, c.dl, c.la, c.ch] ++ [putF c.kp] ++ putU (BitVec.ofNat 64 c.l.length) := by
 simp [cpH, nuB, List.append_assoc]
theorem itB_nums (x : Itm) : itB x = nuB [x.u, x.r, x.v, x.d] := by simp [itB, nuB, List.append_assoc]
def Nb (i : Int) : Prop := 0 ≤ i ∧ i < 18446744073709551616
def Itm.nb (x : Itm) : Prop := Nb x.u ∧ Nb x.r ∧ Nb x.v ∧ Nb x.d
def Cpg.nb (c : Cpg) : Prop := Nb c.day ∧ Nb c.dl ∧ Nb c.la ∧ Nb c.ch ∧ c.l.length < 2 ^ 64 ∧ ∀ x ∈ c.l, x.nb
theorem iW_inj {a b : Int} (ha : Nb a) (hb : Nb b) (h : iW a = iW b) : a = b := by
 obtain ⟨n, rfl⟩ := Int.eq_ofNat_of_zero_le ha.1
 obtain ⟨m, rfl⟩ := Int.eq_ofNat_of_zero_le hb.1
 have h1 : n < 2 ^ 64 := by have := ha.2; omega
 have h2 : m < 2 ^ 64 := by have := hb.2; omega
 rw [iW_nat h1, iW_nat h2] at h
 have := congrArg BitVec.toNat h
 rw [BitVec.toNat_ofNat, BitVec.toNat_ofNat, Nat.mod_eq_of_lt h1, Nat.mod_eq_of_lt h2] at this
 rw [this]
theorem putI_inj {a b : Int} {r s : List UInt8} (ha : Nb a) (hb : Nb b) (h : putU (iW a) ++ r = putU (iW b) ++ s) : a = b ∧ r = s :=
 let ⟨h1, h2⟩ := putU_inj h
 ⟨iW_inj ha hb h1, h2⟩
theorem putF_inj {a b : Bool} (h : putF a = putF b) : a = b := by cases a <;> cases b <;> first | rfl | (exact absurd h (by decide))
theorem itB_inj {x y : Itm} {r s : List UInt8} (hx : x.nb) (hy : y.nb) (h : itB x ++ r = itB y ++ s) : x = y ∧ r = s := by
 unfold itB at h
 simp only [List.append_assoc] at h
 obtain ⟨h1, h⟩ := putI_inj hx.1 hy.1 h
 obtain ⟨h2, h⟩ := putI_inj hx.2.1 hy.2.1 h
 obtain ⟨h3, h⟩ := putI_inj hx.2.2.1 hy.2.2.1 h
 obtain ⟨h4, h5⟩ := putI_inj hx.2.2.2 hy.2.2.2 h
 refine ⟨?_, h5⟩
 cases x; cases y
 simp only at h1 h2 h3 h4
 rw [h1, h2, h3, h4]
theorem fmI_inj : ∀ {l m : List Itm} {r s : List UInt8}, l.length = m.length → (∀ x ∈ l, x.nb) → (∀ x ∈ m, x.nb) → l.flatMap itB ++ r = m.flatMap itB ++ s → l = m ∧ r = s
 | [], [], r, s, _, _, _, h => ⟨rfl, by simpa using h⟩
 | x :: l, y :: m, r, s, hl, hx, hy, h => by
  simp only [List.flatMap_cons, List.append_assoc] at h
  obtain ⟨rfl, h2⟩ := itB_inj (hx x (List.mem_cons_self ..)) (hy y (List.mem_cons_self ..)) h
  obtain ⟨rfl, h3⟩ := fmI_inj (by simpa using hl) (fun z hz => hx z (List.mem_cons_of_mem _ hz)) (fun z hz => hy z (List.mem_cons_of_mem _ hz)) h2
  exact ⟨rfl, h3⟩
 | [], _ :: _, _, _, hl, _, _, _ => by simp at hl
 | _ :: _, [], _, _, hl, _, _, _ => by simp at hl
theorem cpB_inj {c e : Cpg} {r s : List UInt8} (hc : c.nb) (he : e.nb) (h : cpB c ++ r = cpB e ++ s) : c = e ∧ r = s := by
 unfold cpB cpH at h
 simp only [List.append_assoc] at h
 obtain ⟨h1, h⟩ := putI_inj hc.1 he.1 h
 obtain ⟨h2, h⟩ := putI_inj hc.2.1 he.2.1 h
 obtain ⟨h3, h⟩ := putI_inj hc.2.2.1 he.2.2.1 h
 obtain ⟨h4, h⟩ := putI_inj hc.2.2.2.1 he.2.2.2.1 h
 simp only [List.cons_append, List.nil_append, List.cons.injEq] at h
 obtain ⟨h5, h⟩ := h
 obtain ⟨h6, h⟩ := putU_inj h
 have h7 : c.l.length = e.l.length := by
  have := congrArg BitVec.toNat h6
  rwa [BitVec.toNat_ofNat, BitVec.toNat_ofNat, Nat.mod_eq_of_lt hc.2.2.2.2.1, Nat.mod_eq_of_lt he.2.2.2.2.1] at this
 obtain ⟨h8, h9⟩ := fmI_inj h7 hc.2.2.2.2.2 he.2.2.2.2.2 h
 have h10 := putF_inj h5
 refine ⟨?_, h9⟩
 cases c; cases e
 simp only at h1 h2 h3 h4 h10 h8
 rw [h1, h2, h3, h4, h10, h8]
def rdI (s : RSt) : RSt × Itm :=
 let a := rdN s 256
 let b := rdN a.1 63
 let c := rdN b.1 256
 let d := rdN c.1 4
 (d.1, ⟨a.2, b.2, c.2, d.2⟩)
def rdIs : Nat → RSt → List Itm → RSt × List Itm
 | 0, s, l => (s, l)
 | m + 1, s, l => if s.2 ≠ 0 then (s, l) else rdIs m (rdI s).1 (l ++ [(rdI s).2])
def rdH (p : List UInt8) : RSt × Cpg :=
 let a := rdN (p, 0) 30000
 let b := rdN a.1 30000
 let c := rdN b.1 30000
 let d := rdN c.1 256
 let k := flagS d.1
 (k.1, ⟨a.2, b.2, c.2, d.2, k.2, []⟩)
def rdCp (p : List UInt8) : RSt × Cpg :=
 let h := rdH p
 let n := countS h.1 16128
 ((rdIs n.2 n.1 []).1, { h.2 with l := (rdIs n.2 n.1 []).2 })
theorem rdI_back {s : RSt} (h : (rdI s).1.2 = 0) : s.2 = 0 ∧ s.1 = itB (rdI s).2 ++ (rdI s).1.1 := by
 obtain ⟨h1, e1⟩ := rdN_back (show (rdN (rdN (rdN (rdN s 256).1 63).1 256).1 4).1.2 = 0 from h)
 obtain ⟨h2, e2⟩ := rdN_back h1
 obtain ⟨h3, e3⟩ := rdN_back h2
 obtain ⟨h4, e4⟩ := rdN_back h3
 refine ⟨h4, ?_⟩
 conv => lhs; rw [e4, e3, e2, e1]
 unfold itB
 simp only [List.append_assoc]; rfl
theorem rdI_rng (s : RSt) : (0 ≤ (rdI s).2.u ∧ (rdI s).2.u ≤ 256) ∧ (0 ≤ (rdI s).2.r ∧ (rdI s).2.r ≤ 63) ∧ (0 ≤ (rdI s).2.v ∧ (rdI s).2.v ≤ 256) ∧ (0 ≤ (rdI s).2.d ∧ (rdI s).2.d ≤ 4) :=
 ⟨rdN_rng _ _ (by decide), rdN_rng _ _ (by decide), rdN_rng _ _ (by decide), rdN_rng _ _ (by decide)⟩
theorem rdI_nb (s : RSt) : (rdI s).2.nb := by
 have := rdI_rng s
 refine ⟨⟨?_, ?_⟩, ⟨?_, ?_⟩, ⟨?_, ?_⟩, ⟨?_, ?_⟩⟩ <;> omega
theorem rdIs_back : ∀ {m : Nat} {s : RSt} {l : List Itm}, (rdIs m s l).1.2 = 0 → s.2 = 0 ∧ ∃ r, r.length = m ∧ (rdIs m s l).2 = l ++ r ∧ s.1 = r.flatMap itB ++ (rdIs m s l).1.1 ∧ ∀ x ∈ r, x.nb
 | 0, s, l, h => ⟨h, [], rfl, by simp [rdIs], by simp [rdIs], by simp⟩
 | m + 1, s, l, h => by
  rw [rdIs] at h ⊢
  by_cases hs : s.2 ≠ 0
  ·rw [if_pos hs] at h; exact absurd h hs
  rw [if_neg hs] at h ⊢
  obtain ⟨h1, r, h2, h3, h4, h5⟩ := rdIs_back h
  obtain ⟨_, h6⟩ := rdI_back h1
  refine ⟨Classical.not_not.1 hs, (rdI s).2 :: r, by simp [h2], by rw [h3]; simp, ?_, fun x hx => ?_⟩
  ·rw [h6, h4]; simp [List.append_assoc]
  ·rcases List.mem_cons.1 hx with rfl | h
   ·exact rdI_nb s
   ·exact h5 x h
theorem rdH_back {p : List UInt8} (h : (rdH p).1.2 = 0) : p = putU (iW (rdH p).2.day) ++ putU (iW (rdH p).2.dl) ++ putU (iW (rdH p).2.la) ++ putU (iW (rdH p).2.ch) ++ [putF (rdH p).2.kp] ++ (rdH p).1.1 := by
 obtain ⟨h1, e1⟩ := flagS_back (show (flagS (rdN (rdN (rdN (rdN (p, 0) 30000).1 30000).1 30000).1 256).1).1.2 = 0 from h)
 obtain ⟨h2, e2⟩ := rdN_back h1
 obtain ⟨h3, e3⟩ := rdN_back h2
 obtain ⟨h4, e4⟩ := rdN_back h3
 obtain ⟨_, e5⟩ := rdN_back h4
 replace e5 : p = _ := e5
 conv => lhs; rw [e5, e4, e3, e2, e1]
 simp only [List.append_assoc, List.cons_append, List.nil_append]; rfl
theorem rdCp_back {p : List UInt8} (h : endS (rdCp p).1 = 0) : cpB (rdCp p).2 = p ∧ (rdCp p).2.nb := by
 obtain ⟨h1, h2⟩ := endS_z h
 obtain ⟨h3, r, h4, h5, h6, h7⟩ := rdIs_back (show (rdIs (countS (rdH p).1 16128).2 (countS (rdH p).1 16128).1 []).1.2 = 0 from h1)
 obtain ⟨h8, h9⟩ := countS_back h3
 have h10 := rdH_back h8
 have e0 : (rdCp p).2.l = r := h5
 have h11 : (rdIs (countS (rdH p).1 16128).2 (countS (rdH p).1 16128).1 []).1.1 = [] := h2
 rw [h11, List.append_nil] at h6
 have hn : r.length ≤ 16128 := by rw [h4]; exact countS_le _ _
 refine ⟨?_, ?_⟩
 ·rw [cpB, cpH, e0, h4]
  conv => rhs; rw [h10, h9, h6]
  simp only [List.append_assoc]; rfl
 ·have d1 := rdN_rng (p, 0) 30000 (by decide); have d2 := rdN_rng (rdN (p, 0) 30000).1 30000 (by decide); have d3 := rdN_rng (rdN (rdN (p, 0) 30000).1 30000).1 30000 (by decide); have d4 := rdN_rng (rdN (rdN (rdN (p, 0) 30000).1 30000).1 30000).1 256 (by decide)
  refine ⟨⟨d1.1, ?_⟩, ⟨d2.1, ?_⟩, ⟨d3.1, ?_⟩, ⟨d4.1, ?_⟩, by rw [e0]; omega, by rw [e0]; exact h7⟩
  ·exact Int.lt_of_le_of_lt d1.2 (by decide)
  ·exact Int.lt_of_le_of_lt d2.2 (by decide)
  ·exact Int.lt_of_le_of_lt d3.2 (by decide)
  ·exact Int.lt_of_le_of_lt d4.2 (by decide)
theorem rdI_put {x : Itm} (h1 : 0 ≤ x.u ∧ x.u ≤ 256) (h2 : 0 ≤ x.r ∧ x.r ≤ 63) (h3 : 0 ≤ x.v ∧ x.v ≤ 256) (h4 : 0 ≤ x.d ∧ x.d ≤ 4) (r : List UInt8) : rdI (itB x ++ r, 0) = ((r, 0), x) := by
 unfold rdI itB
 simp only [List.append_assoc]
 rw [rdN_put h1.1 h1.2 (by decide)]
 simp only
 rw [rdN_put h2.1 h2.2 (by decide)]
 simp only
 rw [rdN_put h3.1 h3.2 (by decide)]
 simp only
 rw [rdN_put h4.1 h4.2 (by decide)]
def RgI (x : Itm) : Prop := (0 ≤ x.u ∧ x.u ≤ 256) ∧ (0 ≤ x.r ∧ x.r ≤ 63) ∧ (0 ≤ x.v ∧ x.v ≤ 256) ∧ (0 ≤ x.d ∧ x.d ≤ 4)
theorem rdIs_put : ∀ {X l : List Itm}, (∀ x ∈ X, RgI x) → rdIs X.length (X.flatMap itB, 0) l = (([], 0), l ++ X)
 | [], l, _ => by simp [rdIs]
 | x :: X, l, h => by
  have hx := h x (List.mem_cons_self ..)
  show rdIs (X.length + 1) (itB x ++ X.flatMap itB, 0) l = _
  rw [rdIs, if_neg (by simp), rdI_put hx.1 hx.2.1 hx.2.2.1 hx.2.2.2]
  simp only
  rw [rdIs_put (fun y hy => h y (List.mem_cons_of_mem _ hy))]
  simp
def OkT (c : Cpg) (x : Itm) : Prop := ((1 ≤ x.u ∧ x.u ≤ 256) ∧ (1 ≤ x.r ∧ x.r ≤ 63) ∧ (1 ≤ x.v ∧ x.v ≤ 256) ∧ (1 ≤ x.d ∧ x.d ≤ 4)) ∧ x.u ≠ x.v ∧ x.u ≠ c.ch ∧ ¬ (x.d = 1 ∧ c.dl < c.day) ∧ ¬ (x.d = 2 ∧ (c.day ≤ c.dl ∨ x.v ≠ c.ch)) ∧ (2 < x.d ∨ c.day ≤ c.la)
instance (c : Cpg) (x : Itm) : Decidable (OkT c x) := by unfold OkT; infer_instance
def LtI (b x : Itm) : Prop := b.u < x.u ∨ b.u = x.u ∧ b.r < x.r
instance (b x : Itm) : Decidable (LtI b x) := by unfold LtI; infer_instance
def OkB (c : Cpg) (x b : Itm) : Prop := OkT c x ∧ LtI b x
instance (c : Cpg) (x b : Itm) : Decidable (OkB c x b) := by unfold OkB; infer_instance
def ChI (c : Cpg) : Itm → List Itm → Prop
 | _, [] => True
 | b, x :: l => OkB c x b ∧ ChI c x l
instance ChI.dec (c : Cpg) : ∀ (b : Itm) (l : List Itm), Decidable (ChI c b l)
 | _, [] => .isTrue trivial
 | b, x :: l => by
  unfold ChI
  have := ChI.dec c x l
  infer_instance
theorem ChI.snoc (c : Cpg) (x : Itm) : ∀ (b : Itm) (l : List Itm), ChI c b (l ++ [x]) ↔ ChI c b l ∧ OkB c x (l.getLastD b)
 | b, [] => by simp [ChI]
 | b, y :: l => by
  show OkB c y b ∧ ChI c y (l ++ [x]) ↔ (OkB c y b ∧ ChI c y l) ∧ OkB c x ((y :: l).getLastD b)
  rw [ChI.snoc c x y l, List.getLastD_cons, and_assoc]
def HdC (c : Cpg) : Prop := c.dl < c.la ∧ 1 ≤ c.ch
instance (c : Cpg) : Decidable (HdC c) := by unfold HdC; infer_instance
def okCp (p : List UInt8) : Prop := endS (rdCp p).1 = 0 ∧ HdC (rdCp p).2 ∧ ChI (rdCp p).2 itz (rdCp p).2.l
instance (p : List UInt8) : Decidable (okCp p) := by unfold okCp; infer_instance
def VlC (c : Cpg) : Prop := (0 ≤ c.day ∧ c.day ≤ 30000) ∧ (0 ≤ c.dl ∧ c.dl < c.la ∧ c.la ≤ 30000) ∧ (1 ≤ c.ch ∧ c.ch ≤ 256) ∧ ChI c itz c.l
instance (c : Cpg) : Decidable (VlC c) := by unfold VlC; infer_instance
theorem ChI.all {c : Cpg} : ∀ {b : Itm} {l : List Itm}, ChI c b l → ∀ x ∈ l, OkT c x
 | _, [], _, x, h => by cases h
 | b, y :: l, h, x, hx => by
  rcases List.mem_cons.1 hx with rfl | hx
  ·exact h.1.1
  ·exact h.2.all x hx
theorem OkT.rg {c : Cpg} {x : Itm} (h : OkT c x) : RgI x := by
 obtain ⟨⟨h1, h2, h3, h4⟩, -⟩ := h
 exact ⟨⟨by omega, h1.2⟩, ⟨by omega, h2.2⟩, ⟨by omega, h3.2⟩, ⟨by omega, h4.2⟩⟩
theorem rdCp_put {c : Cpg} (h : VlC c) (hl : c.l.length ≤ 16128) : rdCp (cpB c) = (([], 0), c) := by
 obtain ⟨h1, h2, h3, h4⟩ := h
 have e : rdH (cpB c) = ((putU (BitVec.ofNat 64 c.l.length) ++ c.l.flatMap itB, 0), { c with l := [] }) := by
  unfold rdH cpB cpH
  simp only [List.append_assoc]
  rw [rdN_put h1.1 h1.2 (by decide)]
  simp only
  rw [rdN_put h2.1 (by omega) (by decide)]
  simp only
  rw [rdN_put (by omega) h2.2.2 (by decide)]
  simp only
  rw [rdN_put (by omega) h3.2 (by decide)]
  simp only [List.cons_append, List.nil_append]
  rw [flagS_put]
 have e2 : (BitVec.ofNat 64 c.l.length : W64).toNat = c.l.length := by rw [BitVec.toNat_ofNat]; exact Nat.mod_eq_of_lt (by omega)
 unfold rdCp
 rw [e]
 simp only
 rw [countS_put (by rw [e2]; exact hl), e2]
 simp only
 rw [rdIs_put (fun x hx => (h4.all x hx).rg)]
 rfl
theorem okCp_put {c : Cpg} (h : VlC c) (hl : c.l.length ≤ 16128) : okCp (cpB c) ∧ (rdCp (cpB c)).2 = c := by
 rw [okCp, rdCp_put h hl]
 exact ⟨⟨rfl, ⟨h.2.1.2.1, h.2.2.1.1⟩, h.2.2.2⟩, rfl⟩
theorem rdCp_rng (p : List UInt8) : (0 ≤ (rdCp p).2.day ∧ (rdCp p).2.day ≤ 30000) ∧ (0 ≤ (rdCp p).2.dl ∧ (rdCp p).2.dl ≤ 30000) ∧ (0 ≤ (rdCp p).2.la ∧ (rdCp p).2.la ≤ 30000) ∧ (0 ≤ (rdCp p).2.ch ∧ (rdCp p).2.ch ≤ 256) :=
 ⟨rdN_rng (p, 0) 30000 (by decide), rdN_rng (rdN (p, 0) 30000).1 30000 (by decide), rdN_rng (rdN (rdN (p, 0) 30000).1 30000).1 30000 (by decide), rdN_rng (rdN (rdN (rdN (p, 0) 30000).1 30000).1 30000).1 256 (by decide)⟩
theorem okCp_vl {p : List UInt8} (h : okCp p) : VlC (rdCp p).2 := by
 have := rdCp_rng p
 obtain ⟨_, ⟨h1, h2⟩, h3⟩ := h
 exact ⟨this.1, ⟨this.2.1.1, h1, this.2.2.1.2⟩, ⟨h2, this.2.2.2.2⟩, h3⟩
theorem okCp_only {c : Cpg} (hc : c.nb) (h : okCp (cpB c)) : VlC c := by
 obtain ⟨h1, h2⟩ := rdCp_back h.1
 obtain ⟨h3, _⟩ := cpB_inj (r := []) (s := []) h2 hc (by rw [h1])
 rw [← h3]; exact okCp_vl h
theorem okCp_cut {c : Cpg} {k : Nat} (hc : c.nb) (hk : k < (cpB c).length) : ¬ okCp ((cpB c).take k) := fun h => by
 obtain ⟨h1, h2⟩ := rdCp_back h.1
 obtain ⟨_, h4⟩ := cpB_inj (r := (cpB c).drop k) (s := []) h2 hc (by rw [h1, List.take_append_drop, List.append_nil])
 have := congrArg List.length h4
 rw [List.length_drop, List.length_nil] at this
 omega
theorem cpB_pos (c : Cpg) : 0 < (cpB c).length := by simp [cpB, cpH]; omega
theorem rdIs_stop {m : Nat} {s : RSt} {l : List Itm} (h : (decide ((0 : Int) < (m : Int)) && (s.2 == 0)) = false) : rdIs m s l = (s, l) := by
 cases m with
 | zero => rfl
 | succ m =>
  rw [rdIs, if_pos ?_]
  intro e
  rw [e] at h
  simp at h
theorem rdIs_go {m : Nat} {s : RSt} {l : List Itm} (h : s.2 = 0) : rdIs (m + 1) s l = rdIs m (rdI s).1 (l ++ [(rdI s).2]) := by rw [rdIs, if_neg (by simpa using h)]
end Go.Lx
/- Campaigns in memory. Nothing of a program stands here. -/
namespace Go.Lx
open Go Go.RowKit
def encIr (x : Itm) : List Value := [.int .i64 x.u, .int .i64 x.r, .int .i64 x.v, .int .i64 x.d]
def encIp (x : Itm) : List Value := [.int .i64 x.u, .int .i64 x.r, .int .i64 x.v, .int .u8 x.d]
theorem QV : EncOk encIr 4 := ⟨by decide, fun _ => rfl, fun x u hu => by
 simp [encIr] at hu
 rcases hu with rfl | rfl | rfl | rfl <;> rfl⟩
theorem Zc : EncOk encIp 4 := ⟨by decide, fun _ => rfl, fun x u hu => by
 simp [encIp] at hu
 rcases hu with rfl | rfl | rfl | rfl <;> rfl⟩
abbrev cgC (c : Cpg) (u : Value) : List Value := [.int .i64 c.day, .int .i64 c.dl, .int .i64 c.la, .int .i64 c.ch, .bool c.kp, u]
def CpIs (T : TypeId) (D : Nat → Prop) (w : World) (v : Value) (c : Cpg) : Prop := ∃ b u, v = .pointer (some ⟨b, 0, none⟩) ∧ D b ∧ Box w b T (cgC c u) ∧ Rd encIp 4 (fun g => D g ∧ g ≠ b) w u c.l
section
variable {T : TypeId} {D D' : Nat → Prop} {γ : Prop} {w w' : World} {v : Value} {c : Cpg}
theorem CpIs.keepD (h : CpIs T D w v c) (x : Bel γ D' w w') (hd : ∀ g, g < w.heap.size → D g → ¬ D' g) : CpIs T D w' v c :=
 let ⟨b, u, h1, h2, h3, a, k, h4, h5⟩ := h
 ⟨b, u, h1, h2, h3.keep x (hd b h3.lt h2), a, k, h4, h5.keep x fun g hg hD => hd g hg hD.1⟩
theorem CpIs.ext (h : CpIs T D w v c) (x : Ext γ w w') : CpIs T D w' v c := h.keepD x fun _ _ _ => id
theorem CpIs.mono (h : CpIs T D w v c) (hd : ∀ g, g < w.heap.size → D g → D' g) : CpIs T D' w v c :=
 let ⟨b, u, h1, h2, h3, a, k, h4, h5⟩ := h
 ⟨b, u, h1, hd b h3.lt h2, h3, a, k, h4, h5.mono fun g hg hD => ⟨hd g hg hD.1, hD.2⟩⟩
end
def CpR (T : TypeId) (w : World) (v : Value) (p : List UInt8) (e : Int) : Prop := (okCp p ∧ e = 0 ∧ CpIs T (Lt w.heap.size) w v (rdCp p).2) ∨ (¬ okCp p ∧ e = 6 ∧ v = .pointer none)
theorem CpR.ext {T : TypeId} {γ : Prop} {w w' : World} {v : Value} {p : List UInt8} {e : Int} (h : CpR T w v p e) (x : Ext γ w w') : CpR T w' v p e :=
 h.imp (fun ⟨h1, h2, h3⟩ => ⟨h1, h2, (h3.ext x).mono fun g hg h => Nat.lt_of_lt_of_le h (Bel.size x)⟩) id
theorem ChI.hd {c : Cpg} {L : List Itm} : ∀ (b : Itm) (l : List Itm), ChI { c with l := L } b l ↔ ChI c b l
 | _, [] => Iff.rfl
 | b, x :: l => and_congr Iff.rfl (ChI.hd x l)
theorem VlC.d {c : Cpg} (h : VlC c) : ∀ x ∈ c.l, 1 ≤ x.d ∧ x.d ≤ 4 := fun x hx => (h.2.2.2.all x hx).1.2.2.2
theorem VlC.nb {c : Cpg} (h : VlC c) (hn : c.l.length ≤ 10000) : c.nb := by
 refine ⟨?_, ?_, ?_, ?_, by omega, fun x hx => ?_⟩
 ·have := h.1; unfold Nb; omega
 ·have := h.2.1; unfold Nb; omega
 ·have := h.2.1; unfold Nb; omega
 ·have := h.2.2.1; unfold Nb; omega
 ·obtain ⟨⟨h1, h2, h3, h4⟩, -⟩ := h.2.2.2.all x hx
  unfold Itm.nb Nb; omega
theorem fin_eq {c : Cpg} (h : VlC c) : (!(c.l.any fun x => !(x.d == 3 || x.d == 4))) = c.l.all fun x => decide (2 < x.d) := by
 rw [List.not_any_eq_all_not]
 have hd := h.d
 generalize c.l = l at hd
 induction l with
 | nil => rfl
 | cons x l ih =>
  rw [List.all_cons, List.all_cons, ih fun y hy => hd y (List.mem_cons_of_mem _ hy)]
  congr 1
  have := hd x (List.mem_cons_self ..)
  rw [Bool.eq_iff_iff]
  simp only [Bool.not_not, Bool.or_eq_true, beq_iff_eq, decide_eq_true_eq]
  omega
def postV (p : Value → Prop) : PostC := fun v _ _ => p v
theorem postV_stable {p : Value → Prop} {kc : Nat} : StableC kc (postV p) := fun _ _ _ _ _ _ _ _ h => h
theorem wrap_v8 {n : Int} (h0 : 0 ≤ n) (h1 : n ≤ 255) : IntKind.u8.wrap n = n := by
 obtain ⟨m, rfl⟩ := Int.eq_ofNat_of_zero_le h0
 simp [IntKind.wrap, IntKind.bits, IntKind.signed]
 omega
theorem Bel.exV {β : Prop} {D : Nat → Prop} {w w' : World} (x : Bel β D w w') (h : ∀ b, b < w.heap.size → D b → w'.heap[b]? = w.heap[b]?) : Ext β w w' :=
 ⟨x.os, x.tape, x.output, x.size, fun b hb _ => (Classical.em (D b)).elim (h b hb) (x.block b hb), x.drawn⟩
theorem all_gd {α : Type} {Q : α → Prop} {l : List α} {z : α} (h : ∀ j, j < l.length → Q (l.getD j z)) : ∀ x ∈ l, Q x := fun x hx => by
 obtain ⟨j, hj, rfl⟩ := List.mem_iff_getElem.1 hx
 have e : l.getD j z = l[j] := by simp [List.getD, hj]
 exact e ▸ h j hj
theorem ChI.at (c : Cpg) : ∀ (b : Itm) (l : List Itm), ChI c b l ↔ ∀ j, j < l.length → OkB c (l.getD j itz) ((b :: l).getD j itz)
 | b, [] => ⟨fun _ j h => absurd h (Nat.not_lt_zero _), fun _ => trivial⟩
 | b, x :: l => by
  show OkB c x b ∧ ChI c x l ↔ _
  rw [ChI.at c x l]
  refine ⟨fun h j hj => ?_, fun h => ⟨h 0 (Nat.zero_lt_succ _), fun j hj => h (j + 1) (Nat.succ_lt_succ hj)⟩⟩
  cases j with
  | zero => exact h.1
  | succ j => exact h.2 j (Nat.lt_of_succ_lt_succ hj)
def PrI (c : Cpg) (j : Nat) : Prop := OkT c (c.l.getD j itz) ∧ (0 < j → LtI (c.l.getD (j - 1) itz) (c.l.getD j itz))
theorem chI_pr (c : Cpg) : ChI c itz c.l ↔ ∀ j, j < c.l.length → PrI c j := by
 rw [ChI.at]
 refine forall_congr' fun j => forall_congr' fun hj => ?_
 unfold OkB PrI
 cases j with
 | zero =>
  refine and_congr_right fun h => ⟨fun _ h => absurd h (Nat.lt_irrefl _), fun _ => .inl ?_⟩
  exact Int.lt_of_lt_of_le (show (0 : Int) < 1 by decide) h.1.1.1
 | succ j => exact and_congr_right fun _ => ⟨fun h _ => h, fun h => h (Nat.zero_lt_succ _)⟩
end Go.Lx
/- Books of memberships: what is found, what is put in, who is in on a day. Nothing of a program stands here. -/
namespace Go.Lx
open Go Go.RowKit
structure Men where
 u : Int
 r : Int
 t : Int
deriving DecidableEq
def mez : Men := ⟨0, 0, 0⟩
def encMe (x : Men) : List Value := [.int .i64 x.u, .int .i64 x.r, .int .i64 x.t]
theorem encMe_ok : EncOk encMe 3 := ⟨by decide, fun _ => rfl, fun x u hu => by
 simp [encMe] at hu
 rcases hu with rfl | rfl | rfl <;> rfl⟩
def cmpN (x y : Men) : Int := if x.u ≠ y.u then x.u - y.u else x.r - y.r
def LtN (x y : Men) : Prop := x.u < y.u ∨ x.u = y.u ∧ x.r < y.r
theorem cmpN_neg {x y : Men} : cmpN x y < 0 ↔ LtN x y := by
 unfold cmpN LtN
 by_cases h : x.u = y.u
 ·rw [if_neg (by simpa using h)]; omega
 ·rw [if_pos h]; omega
theorem LtN.trans {x y z : Men} (h : LtN x y) (k : LtN y z) : LtN x z := by unfold LtN at *; omega
def Men.rg (x : Men) : Prop := (0 ≤ x.u ∧ x.u ≤ 100000) ∧ (0 ≤ x.r ∧ x.r < 64) ∧ (0 ≤ x.t ∧ x.t ≤ 100000)
structure OkN (L : List Men) : Prop where
 len : L.length ≤ 20000
 rg : ∀ x ∈ L, x.rg
 srt : L.Pairwise LtN
def fdN (L : List Men) (y : Men) : Nat := (L.takeWhile fun x => decide (cmpN x y < 0)).length
def fnN (L : List Men) (y : Men) : Bool := decide (fdN L y < L.length) && (cmpN (L.getD (fdN L y) mez) y == 0)
structure BsN (L : List Men) (y : Men) (i j : Nat) : Prop where
 le : i ≤ j
 len : j ≤ L.length
 lo : ∀ k, k < i → cmpN (L.getD k mez) y < 0
 hi : ∀ k, j ≤ k → k < L.length → 0 ≤ cmpN (L.getD k mez) y
theorem BsN.start (L : List Men) (y : Men) : BsN L y 0 L.length := ⟨Nat.zero_le _, Nat.le_refl _, fun k h => absurd h (Nat.not_lt_zero _), fun k h1 h2 => absurd h2 (by omega)⟩
theorem srtN_get {L : List Men} (h : L.Pairwise LtN) {i j : Nat} (hij : i < j) (hj : j < L.length) : LtN (L.getD i mez) (L.getD j mez) := by
 have := List.pairwise_iff_getElem.1 h i j (by omega) hj hij
 simpa [List.getD, hj, show i < L.length by omega] using this
theorem BsN.loS {L : List Men} {y : Men} {i j h : Nat} (hm : L.Pairwise LtN) (b : BsN L y i j) (h1 : i ≤ h) (h2 : h < j) (hc : cmpN (L.getD h mez) y < 0) : BsN L y (h + 1) j := by
 refine ⟨by omega, b.len, fun k hk => ?_, b.hi⟩
 rcases Nat.lt_or_ge k h with q | q
 ·exact cmpN_neg.2 ((srtN_get hm q (by have := b.len; omega)).trans (cmpN_neg.1 hc))
 ·obtain rfl : k = h := by omega
  exact hc
theorem BsN.hiS {L : List Men} {y : Men} {i j h : Nat} (hm : L.Pairwise LtN) (b : BsN L y i j) (h1 : i ≤ h) (h2 : h < j) (hc : ¬ cmpN (L.getD h mez) y < 0) : BsN L y i h := by
 refine ⟨h1, by have := b.len; omega, b.lo, fun k hk hl => ?_⟩
 rcases Nat.lt_or_ge h k with q | q
 ·exact Int.not_lt.1 fun hn => hc (cmpN_neg.2 ((srtN_get hm q hl).trans (cmpN_neg.1 hn)))
 ·obtain rfl : k = h := by omega
  omega
theorem tw_len {α : Type} (p : α → Bool) (z : α) : ∀ (L : List α) (i : Nat), i ≤ L.length → (∀ k, k < i → p (L.getD k z) = true) → (i < L.length → p (L.getD i z) = false) → (L.takeWhile p).length = i
 | [], i, h, _, _ => by simp at h; simp [h]
 | x :: L, 0, _, _, h2 => by
  have := h2 (by simp)
  simp at this
  simp [List.takeWhile_cons, this]
 | x :: L, i + 1, h, h1, h2 => by
  have h0 := h1 0 (by omega)
  simp at h0
  rw [List.takeWhile_cons, if_pos h0, List.length_cons, tw_len p z L i (by simpa using h) (fun k hk => by simpa using h1 (k + 1) (by omega)) (fun hl => by simpa using h2 (by simpa using hl))]
theorem BsN.fin {L : List Men} {y : Men} {i : Nat} (b : BsN L y i i) : fdN L y = i :=
 tw_len _ mez L i b.len (fun k hk => decide_eq_true (b.lo k hk)) (fun hl => decide_eq_false (by have := b.hi i (Nat.le_refl _) hl; omega))
theorem BsN.fn {L : List Men} {y : Men} {i : Nat} (b : BsN L y i i) : fnN L y = (decide ((i : Int) < (L.length : Int)) && (cmpN (L.getD i mez) y == 0)) := by
 unfold fnN
 rw [b.fin]
 congr 1
 simp
def insN (L : List Men) (x : Men) : List Men := L.take (fdN L x) ++ [x] ++ L.drop (fdN L x)
def MbIs (w : World) (v : Value) (L : List Men) : Prop := ∃ p a c, v = .pointer (some ⟨p, 0, none⟩) ∧ At w p 0 [.slice a L.length c] ∧ Sl encMe 3 (Lt w.heap.size) w a c L
theorem MbIs.ext {γ : Prop} {w w' : World} {v : Value} {L : List Men} (h : MbIs w v L) (x : Ext γ w w') : MbIs w' v L :=
 let ⟨p, a, c, h1, h2, h3⟩ := h
 ⟨p, a, c, h1, h2.ext x, (h3.ext x).mono fun g hg _ => hg⟩
def actN (x : Men) (d : Int) : Bool := decide (0 ≤ d) && decide (d ≤ 30000) && decide (d ≤ x.t)
def onStep (u d : Int) (s : W64) (x : Men) : W64 := if x.u = u ∧ actN x d = true then s ||| oneW x.r.toNat else s
def onW (L : List Men) (u d : Int) : W64 := L.foldl (onStep u d) 0
theorem onW_succ {L : List Men} {u d : Int} {k : Nat} (h : k < L.length) : onW (L.take (k + 1)) u d = onStep u d (onW (L.take k) u d) (L.getD k mez) := by
 unfold onW
 rw [List.take_succ_eq_append_getElem h, List.foldl_append]
 simp [List.getD, h]
theorem onW_yes {L : List Men} {u d : Int} {k : Nat} (h : k < L.length) (hc : (L.getD k mez).u = u ∧ actN (L.getD k mez) d = true) : onW (L.take (k + 1)) u d = onW (L.take k) u d ||| oneW (L.getD k mez).r.toNat := by
 rw [onW_succ h, onStep, if_pos hc]
theorem onW_no {L : List Men} {u d : Int} {k : Nat} (h : k < L.length) (hc : ¬ ((L.getD k mez).u = u ∧ actN (L.getD k mez) d = true)) : onW (L.take (k + 1)) u d = onW (L.take k) u d := by
 rw [onW_succ h, onStep, if_neg hc]
theorem fdN_le (L : List Men) (y : Men) : fdN L y ≤ L.length := (List.takeWhile_sublist _).length_le
theorem fnN_lt {L : List Men} {y : Men} (h : fnN L y = true) : fdN L y < L.length := by
 unfold fnN at h
 rw [Bool.and_eq_true] at h
 exact of_decide_eq_true h.1
theorem half_natN {n : Nat} (h : n < 18446744073709551616) : (BitVec.ofNat 64 n >>> 1).toNat = n / 2 := by
 rw [BitVec.toNat_ushiftRight, BitVec.toNat_ofNat, Nat.mod_eq_of_lt (by omega), Nat.shiftRight_eq_div_pow]
def NtIs (w : World) (v : Value) (n : Nat) : Prop := ∃ p a c m, v = .pointer (some ⟨p, 0, none⟩) ∧ At w p 0 [.slice a n c, m] ∧ n ≤ c
theorem NtIs.ext {γ : Prop} {w w' : World} {v : Value} {n : Nat} (h : NtIs w v n) (x : Ext γ w w') : NtIs w' v n :=
 let ⟨p, a, c, m, h1, h2, h3⟩ := h
 ⟨p, a, c, m, h1, h2.ext x, h3⟩
def MbF (F : Nat → Prop) (w : World) (v : Value) (L : List Men) : Prop := ∃ p a c, v = .pointer (some ⟨p, 0, none⟩) ∧ F p ∧ At w p 0 [.slice a L.length c] ∧ Sl encMe 3 F w a c L
theorem MbF.is {F : Nat → Prop} {w : World} {v : Value} {L : List Men} (h : MbF F w v L) : MbIs w v L :=
 let ⟨p, a, c, h1, _, h2, h3⟩ := h
 ⟨p, a, c, h1, h2, h3.top⟩
theorem MbF.keepD {F D : Nat → Prop} {γ : Prop} {w w' : World} {v : Value} {L : List Men} (h : MbF F w v L) (x : Bel γ D w w') (hd : ∀ g, g < w.heap.size → F g → ¬ D g) : MbF F w' v L :=
 let ⟨p, a, c, h1, h0, h2, h3⟩ := h
 ⟨p, a, c, h1, h0, h2.keep x (hd p h2.lt h0), h3.keep x hd⟩
theorem MbF.ext {F : Nat → Prop} {γ : Prop} {w w' : World} {v : Value} {L : List Men} (h : MbF F w v L) (x : Ext γ w w') : MbF F w' v L := h.keepD x fun _ _ _ => id
theorem MbF.mono {F F' : Nat → Prop} {w : World} {v : Value} {L : List Men} (h : MbF F w v L) (hd : ∀ g, g < w.heap.size → F g → F' g) : MbF F' w v L :=
 let ⟨p, a, c, h1, h0, h2, h3⟩ := h
 ⟨p, a, c, h1, hd p h2.lt h0, h2, h3.mono hd⟩
theorem MbF.blk {F : Nat → Prop} {w : World} {v : Value} {L : List Men} (h : MbF F w v L) : ∃ b, v = .pointer (some ⟨b, 0, none⟩) ∧ MbF F w (.pointer (some ⟨b, 0, none⟩)) L :=
 let ⟨p, a, c, h1, h0, h2, h3⟩ := h
 ⟨p, h1, p, a, c, rfl, h0, h2, h3⟩
theorem mbF_new {e : TypeId} {w : World} {b : Nat} {L : List Men} {a : Option Addr} {n c : Nat} {T : TypeId} {F D : Nat → Prop} (hb : Box w b T [.slice a n c]) (hF : F b) (hn : n = L.length) (h : Own encMe 3 e D w (.slice a n c) L) (hd : ∀ g, g < w.heap.size → D g → F g) : MbF F w (.pointer (some ⟨b, 0, none⟩)) L := by
 subst hn
 exact ⟨b, a, c, rfl, hF, hb.at, (h.slA encMe_ok).mono hd⟩
theorem NtIs.kp {γ : Prop} {D : Nat → Prop} {w w' : World} {b n : Nat} (h : NtIs w (.pointer (some ⟨b, 0, none⟩)) n) (x : Bel γ D w w') (hd : ¬ D b) : NtIs w' (.pointer (some ⟨b, 0, none⟩)) n := by
 obtain ⟨p, a, c, m, h1, h2, h3⟩ := h
 cases h1
 exact ⟨b, a, c, m, rfl, h2.keep x hd, h3⟩
theorem NtIs.ne {w : World} {b n g : Nat} {T : TypeId} {k : IntKind} {i : Int} {cs : List Value} (h : NtIs w (.pointer (some ⟨b, 0, none⟩)) n) (hg : Box w g T (.int k i :: cs)) : b ≠ g := by
 rintro rfl
 obtain ⟨p, a, c, m, h1, h2, _⟩ := h
 cases h1
 have e1 := h2 0 _ rfl
 have e2 := hg.at 0 _ rfl
 rw [e1] at e2
 cases e2
end Go.Lx
/- Masks of whole numbers. Nothing of a program stands here. -/
namespace Go.Lx
open Go Go.RowKit
def andI (a : Int) (m : Nat) : Int := ((BitVec.ofInt 64 a &&& BitVec.ofNat 64 m).toNat : Int)
theorem andI_rng (a : Int) {m : Nat} (hm : m < 2 ^ 63) : 0 ≤ andI a m ∧ andI a m ≤ m := by
 unfold andI
 rw [BitVec.toNat_and, BitVec.toNat_ofNat, Nat.mod_eq_of_lt (by omega)]
 have := Nat.and_le_right (n := (BitVec.ofInt 64 a).toNat) (m := m)
 omega
section
variable {P : Program} {fr : Fr} {w : World} {d : Option Nat} {t T U : TypeId} {ps : String} {af : Array Edge} {g : Option (Nat × Bool)} {x y : Operand}
theorem o_andI {a : Int} (m : Nat) (hx : ev fr x = .int .i64 a) (hy : ev fr y = .int .i64 (m : Int)) (hm : m < 2 ^ 63) : xop P fr w ⟨d, .binOp .and T x y U, t, ps, af, g⟩ = .ok (.value (.int .i64 (andI a m))) w := by
 have h := andI_rng a hm
 have e1 : BitVec.ofInt 64 (m : Int) = BitVec.ofNat 64 m := by rw [BitVec.ofInt_natCast]
 have e : IntKind.i64.wrap ((BitVec.ofInt IntKind.i64.bits a &&& BitVec.ofInt IntKind.i64.bits (m : Int)).toNat : Int) = andI a m := by
  show IntKind.i64.wrap ((BitVec.ofInt 64 a &&& BitVec.ofInt 64 (m : Int)).toNat : Int) = _
  rw [e1]
  exact wrap_in ⟨by unfold andI at h; omega, by unfold andI at h; omega⟩
 simp only [xop, execOp, hx, hy, eqGuard, binOp, Op.intBits]
 simp only [e]; simp
theorem o_xorV {a' b' : UInt8}  (hx : ev fr x = .int .u8 (a'.toNat : Int)) (hy : ev fr y = .int .u8 (b'.toNat : Int)) : xop P fr w ⟨d, .binOp .xor T x y U, t, ps, af, g⟩ = .ok (.value (.int .u8 ((a' ^^^ b').toNat : Int))) w := by
 have e1 : (BitVec.ofInt 8 (a'.toNat : Int)) = a'.toBitVec := by
  rw [BitVec.ofInt_natCast]; apply BitVec.eq_of_toNat_eq; rw [BitVec.toNat_ofNat]; exact Nat.mod_eq_of_lt a'.toNat_lt
 have e2 : (BitVec.ofInt 8 (b'.toNat : Int)) = b'.toBitVec := by
  rw [BitVec.ofInt_natCast]; apply BitVec.eq_of_toNat_eq; rw [BitVec.toNat_ofNat]; exact Nat.mod_eq_of_lt b'.toNat_lt
 have e : IntKind.u8.wrap ((BitVec.ofInt IntKind.u8.bits (a'.toNat : Int) ^^^ BitVec.ofInt IntKind.u8.bits (b'.toNat : Int)).toNat : Int) = ((a' ^^^ b').toNat : Int) := by
  show IntKind.u8.wrap ((BitVec.ofInt 8 (a'.toNat : Int) ^^^ BitVec.ofInt 8 (b'.toNat : Int)).toNat : Int) = _
  rw [e1, e2, ← UInt8.toBitVec_xor]
  show IntKind.u8.wrap (((a' ^^^ b').toNat : Nat) : Int) = _
  rw [wrapU8, UInt8.ofNat_toNat]
 simp only [xop, execOp, hx, hy, eqGuard, binOp, Op.intBits]
 simp only [e]; simp
end
theorem OpC_elstF {α : Type} {enc : α → List Value} {k : Nat} {e U : TypeId} {β : Prop} {P : Program} {fr : Fr} {w : World} {c : Nat → Nat} {ops : Array Oper} {ty : TypeId} {pos : String} {after : Array Edge} {kc : Nat} {x y : Operand} {v : Value} {l : List α} {a : Option Addr} {cp i j s m : Nat} (u old : α) (h0 : kc ≠ 0)
  (he : EncOk enc k) (hs : ∀ w, (sizeOf U).run P w = .ok s w) (hx : ev fr x = .pointer (elp a (i * k + j))) (hy : ev fr y = v) (hv : v.cells.toList.length = s) (h1 : oneL v.cells.toList = true) (ho : Own enc k e (fun g => c g = kc) w (.slice a m cp) l) (hi : l[i]? = some old) (hu : enc u = (enc old).take j ++ v.cells.toList ++ (enc old).drop (j + s)) (hj : j + s ≤ k) :
  OpC β kc P ops ⟨none, .store U x y, ty, pos, after, none⟩ fr w c (postOwnAt enc k e kc (.slice a m cp) (l.set i u)) := by
 have hil : i < l.length := (List.getElem?_eq_some_iff.1 hi).1
 obtain ⟨g, c2, hsm⟩ := ho.sm (by rintro rfl; simp at hil)
 simp only [Value.slice.injEq] at hsm
 obtain ⟨rfl, rfl, rfl⟩ := hsm
 obtain ⟨cur, hg, _, hlc, _, hcs⟩ := ho.row0
 have hw := ho.write (vs := [u]) (m2 := l.length) he hg (Nat.le_of_lt hil) (by simp; omega) (by simp; omega)
 have hput : putL l i [u] = l.set i u := by
  rw [List.set_eq_take_append_cons_drop, if_pos hil]
  unfold putL
  rw [List.append_assoc]; rfl
 rw [hput] at hw
 obtain ⟨ho', _⟩ := hw
 have hfl : ([u] : List α).flatMap enc = enc u := by simp
 rw [hfl] at ho'
 have hlk : i * k + k ≤ cur.size := by
  rw [hcs, ← Nat.succ_mul]; exact Nat.mul_le_mul_right _ (by omega)
 have hcell : ∀ q, q < k → cur.toList[i * k + q]? = (enc old)[q]? := by
  intro q hq
  rcases ho.row.2 with ⟨h, _⟩ | ⟨g', cap, cur', h, hb, h3, h4, h5, h6, h7⟩
  ·simp at h
  ·simp only [Value.slice.injEq, Option.some.injEq, Addr.mk.injEq, and_true, true_and] at h
   obtain ⟨rfl, rfl⟩ := h
   rw [hg] at h3
   simp only [Option.some.injEq, Obj.cells.injEq, and_true, true_and] at h3
   subst h3
   have := fm_get he hi q hq
   rw [← this, ← h7, List.getElem?_take, if_pos]
   have : i * k + k ≤ l.length * k := by rw [← Nat.succ_mul]; exact Nat.mul_le_mul_right _ hil
   omega
 have hsplit : cur.toList.take (i * k + j) ++ v.cells.toList ++ cur.toList.drop (i * k + j + s) = cur.toList.take (i * k) ++ enc u ++ cur.toList.drop (i * k + k) := by
  have hseg : ∀ p q, p + q ≤ k → (cur.toList.drop (i * k + p)).take q = ((enc old).drop p).take q := by
   intro p q hpq
   apply List.ext_getElem?
   intro r
   rw [List.getElem?_take, List.getElem?_take]
   by_cases hr : r < q
   ·rw [if_pos hr, if_pos hr, List.getElem?_drop, List.getElem?_drop, Nat.add_assoc, hcell _ (by omega)]
   ·rw [if_neg hr, if_neg hr]
  have e1 : cur.toList.take (i * k + j) = cur.toList.take (i * k) ++ (enc old).take j := by
   rw [List.take_add]
   congr 1
   have := hseg 0 j (by omega)
   simpa using this
  have e2 : cur.toList.drop (i * k + j + s) = (enc old).drop (j + s) ++ cur.toList.drop (i * k + k) := by
   have h9 := hseg (j + s) (k - (j + s)) (by omega)
   have hl9 : ((enc old).drop (j + s)).take (k - (j + s)) = (enc old).drop (j + s) := List.take_of_length_le (by rw [List.length_drop, he.len]; exact Nat.le_refl _)
   rw [hl9] at h9
   rw [← h9, Nat.add_assoc]
   have h8 := List.take_append_drop (k - (j + s)) (cur.toList.drop (i * k + (j + s)))
   rw [List.drop_drop] at h8
   rw [show i * k + (j + s) + (k - (j + s)) = i * k + k by omega] at h8
   exact h8.symm
  rw [e1, e2, hu]
  simp [List.append_assoc]
 have hst := run_storeCells_at (P := P) g (i * k + j) e v.cells.toList 0 cur w hg (by rw [hv]; omega) (oneL.mem h1)
 simp only [Nat.add_zero, hv] at hst
 rw [hsplit] at hst
 have hel : (enc u).length = k := he.len u
 rw [hel] at ho'
 have hsz : v.cells.size = s := by rw [← Array.length_toList]; exact hv
 rw [elp_some, Nat.zero_add] at hx
 have hcg : c g = kc := ho.loc g rfl
 refine .inl ⟨rfl, .inl ⟨lkV _ fr, w.setRow g (cur.toList.take (i * k) ++ enc u ++ cur.toList.drop (i * k + k)).toArray, c, .inr ⟨?_, rfl⟩, ⟨⟨rfl, rfl, rfl, by simp, fun j _ hj => setRow_other w g j _ (fun e => hj ⟨h0, by subst e; exact hcg⟩), fun _ => Nat.le_refl _⟩, fun _ _ => rfl⟩, ho'⟩⟩
 simp [execOp, hx, hy, Instr.storeAt, Instr.sureAddr, storeVar, hs, hsz, hst]
def mI (x : Itm) : Itm := ⟨andI x.u 511, andI x.r 127, andI x.v 511, andI x.d 7⟩
def mkI (l : List Itm) (k : Nat) : List Itm := (l.take k).map mI ++ l.drop k
theorem mkI_len (l : List Itm) (k : Nat) : (mkI l k).length = l.length := by
 unfold mkI
 simp only [List.length_append, List.length_map, List.length_take, List.length_drop]; omega
theorem mkI_zero (l : List Itm) : mkI l 0 = l := by simp [mkI]
theorem mkI_end {l : List Itm} {k : Nat} (h : l.length ≤ k) : mkI l k = l.map mI := by
 unfold mkI
 rw [List.take_of_length_le h, List.drop_of_length_le h, List.append_nil]
theorem mkI_get {l : List Itm} {k : Nat} (h : k < l.length) : (mkI l k)[k]? = some (l.getD k itz) := by
 unfold mkI
 rw [List.getElem?_append_right (by simp; omega)]
 simp [List.getD, h, show min k l.length = k by omega]
theorem mkI_succ {l : List Itm} {k : Nat} (h : k < l.length) : (mkI l k).set k (mI (l.getD k itz)) = mkI l (k + 1) := by
 unfold mkI
 have hl : ((l.take k).map mI).length = k := by simp; omega
 rw [List.set_append_right _ _ (by omega), hl, Nat.sub_self, List.drop_eq_getElem_cons h, List.set_cons_zero, List.take_succ_eq_append_getElem h, List.map_append, List.append_assoc]
 simp [List.getD, h]
theorem set4 {l : List Itm} {k : Nat} {a b c d : Itm} : (((l.set k a).set k b).set k c).set k d = l.set k d := by simp
theorem set_at {l : List Itm} {k : Nat} {a : Itm} (h : k < l.length) : (l.set k a)[k]? = some a := by simp [h]
def mC (c : Cpg) : Cpg := ⟨andI c.day 65535, andI c.dl 65535, andI c.la 65535, andI c.ch 511, c.kp, (c.l.take (min c.l.length 5)).map mI⟩
theorem mC_len (c : Cpg) : (mC c).l.length ≤ 5 := by unfold mC; simp; omega
theorem mC_nb (c : Cpg) : (mC c).nb := by
 have h1 := andI_rng c.day (m := 65535) (by decide); have h2 := andI_rng c.dl (m := 65535) (by decide); have h3 := andI_rng c.la (m := 65535) (by decide); have h4 := andI_rng c.ch (m := 511) (by decide)
 refine ⟨?_, ?_, ?_, ?_, by have := mC_len c; omega, fun x hx => ?_⟩
 ·show Nb (andI c.day 65535); unfold Nb; omega
 ·show Nb (andI c.dl 65535); unfold Nb; omega
 ·show Nb (andI c.la 65535); unfold Nb; omega
 ·show Nb (andI c.ch 511); unfold Nb; omega
 ·obtain ⟨y, _, rfl⟩ := List.mem_map.1 hx
  have h1 := andI_rng y.u (m := 511) (by decide); have h2 := andI_rng y.r (m := 127) (by decide); have h3 := andI_rng y.v (m := 511) (by decide); have h4 := andI_rng y.d (m := 7) (by decide)
  refine ⟨?_, ?_, ?_, ?_⟩
  ·show Nb (andI y.u 511); unfold Nb; omega
  ·show Nb (andI y.r 127); unfold Nb; omega
  ·show Nb (andI y.v 511); unfold Nb; omega
  ·show Nb (andI y.d 7); unfold Nb; omega
theorem rdCp_len {p : List UInt8} (h : endS (rdCp p).1 = 0) : (rdCp p).2.l.length ≤ 16128 := by
 obtain ⟨h1, _⟩ := endS_z h
 obtain ⟨_, r, h4, h5, _⟩ := rdIs_back (show (rdIs (countS (rdH p).1 16128).2 (countS (rdH p).1 16128).1 []).1.2 = 0 from h1)
 have e0 : (rdCp p).2.l = r := h5
 rw [e0, h4]
 exact countS_le _ _
end Go.Lx
/- Sessions: what the operations on a book answer. Nothing of a program stands here. -/
namespace Go.Lx
open Go
structure RS where
 n : Int
 u : Int
 x : W64
 deriving DecidableEq
def rz : RS := ⟨0, 0, 0⟩
structure OkM (m : List RS) : Prop where
 asc : m.Pairwise fun a b => a.n < b.n
 rng : ∀ s ∈ m, 1 ≤ s.n ∧ s.n ≤ 64
 usr : ∀ s ∈ m, 1 ≤ s.u ∧ s.u ≤ 256
 rol : ∀ s ∈ m, s.x.getLsbD 0 = false
theorem OkM.nil : OkM [] := ⟨List.Pairwise.nil, by simp, by simp, by simp⟩
theorem asc_lt {m : List RS} (h : m.Pairwise fun a b => a.n < b.n) {i j : Nat} (hij : i < j) (hj : j < m.length) : (m.getD i rz).n < (m.getD j rz).n := by
 have := List.pairwise_iff_getElem.1 h i j (by omega) hj hij
 simpa [List.getD, show i < m.length by omega, hj] using this
theorem OkM.ge {m : List RS} (h : OkM m) : ∀ {i : Nat}, i < m.length → (i : Int) + 1 ≤ (m.getD i rz).n := by
 intro i
 induction i with
 | zero => intro hi; have := (h.rng _ (gm (z := rz) hi)).1; omega
 | succ i ih =>
  intro hi
  have h1 := ih (by omega)
  have h2 := asc_lt h.asc (i := i) (j := i + 1) (by omega) hi
  omega
theorem OkM.len {m : List RS} (h : OkM m) : m.length ≤ 64 := by
 rcases Nat.lt_or_ge m.length 65 with h1 | h1
 ·omega
 ·have h2 := h.ge (i := m.length - 1) (by omega)
  have h3 := (h.rng _ (gm (z := rz) (show m.length - 1 < m.length by omega))).2
  omega
def gapF : List RS → Int → Nat
 | [], _ => 0
 | s :: r, k => if s.n = k then gapF r (k + 1) + 1 else 0
def gap (m : List RS) : Nat := gapF m 1
theorem gapF_uniq : ∀ (m : List RS) (k : Int) (i : Nat), i ≤ m.length → (∀ j, j < i → (m.getD j rz).n = k + j) → (i < m.length → (m.getD i rz).n ≠ k + i) → i = gapF m k
 | [], k, i, h, _, _ => by simp at h; subst h; rfl
 | s :: r, k, 0, h, h1, h2 => by
  have := h2 (by simp)
  simp at this
  simp [gapF, this]
 | s :: r, k, i + 1, h, h1, h2 => by
  have h3 := h1 0 (by omega)
  simp at h3
  rw [gapF, if_pos h3, gapF_uniq r (k + 1) i (by simpa using h) (fun j hj => by
   have := h1 (j + 1) (by omega)
   simp only [List.getD_cons_succ] at this
   rw [this]; push_cast; omega) (fun hi => by
   have := h2 (by simpa using hi)
   simp only [List.getD_cons_succ] at this
   intro e; apply this; rw [e]; push_cast; omega)]
theorem gapF_ok : ∀ (m : List RS) (k : Int), gapF m k ≤ m.length ∧ (∀ j, j < gapF m k → (m.getD j rz).n = k + j) ∧ (gapF m k < m.length → (m.getD (gapF m k) rz).n ≠ k + gapF m k)
 | [], k => by simp [gapF]
 | s :: r, k => by
  obtain ⟨h1, h2, h3⟩ := gapF_ok r (k + 1)
  by_cases e : s.n = k
  ·rw [gapF, if_pos e]
   refine ⟨by simpa using h1, ?_, ?_⟩
   ·intro j hj
    cases j with
    | zero => simp [e]
    | succ j =>
     rw [List.getD_cons_succ, h2 j (by omega)]; push_cast; omega
   ·intro hl
    rw [List.getD_cons_succ]
    have := h3 (by simpa using hl)
    intro e2; apply this; rw [e2]; push_cast; omega
  ·rw [gapF, if_neg e]
   refine ⟨by simp, by simp, ?_⟩
   intro _; simpa using e
theorem gap_uniq {m : List RS} {i : Nat} (h : i ≤ m.length) (h1 : ∀ j, j < i → (m.getD j rz).n = (j : Int) + 1) (h2 : i < m.length → (m.getD i rz).n ≠ (i : Int) + 1) : i = gap m :=
 gapF_uniq m 1 i h (fun j hj => by rw [h1 j hj]; omega) (fun hi e => h2 hi (by rw [e]; omega))
theorem gap_le (m : List RS) : gap m ≤ m.length := (gapF_ok m 1).1
theorem gap_lt {m : List RS} {j : Nat} (h : j < gap m) : (m.getD j rz).n = (j : Int) + 1 := by rw [(gapF_ok m 1).2.1 j h]; omega
theorem gap_at {m : List RS} (h : gap m < m.length) : (m.getD (gap m) rz).n ≠ (gap m : Int) + 1 := by
 have := (gapF_ok m 1).2.2 h
 intro e; exact this (by show (m.getD (gap m) rz).n = 1 + (gap m : Int); omega)
def newS (m : List RS) (u : Int) : RS := ⟨(gap m : Int) + 1, u, 0⟩
def openM (m : List RS) (u : Int) : List RS := m.take (gap m) ++ newS m u :: m.drop (gap m)
theorem mem_open {m : List RS} {u : Int} {s : RS} : s ∈ openM m u ↔ s = newS m u ∨ s ∈ m := by
 unfold openM
 rw [List.mem_append, List.mem_cons]
 have e : s ∈ m ↔ s ∈ m.take (gap m) ∨ s ∈ m.drop (gap m) := by rw [← List.mem_append, List.take_append_drop]
 rw [e]
 constructor
 ·rintro (h | h | h)
  ·exact .inr (.inl h)
  ·exact .inl h
  ·exact .inr (.inr h)
 ·rintro (h | h | h)
  ·exact .inr (.inl h)
  ·exact .inl h
  ·exact .inr (.inr h)
theorem open_len (m : List RS) (u : Int) : (openM m u).length = m.length + 1 := by
 have := gap_le m
 simp [openM]; omega
theorem gtake_n {m : List RS} {s : RS} (h : s ∈ m.take (gap m)) : s.n < (gap m : Int) + 1 := by
 obtain ⟨i, hi, rfl⟩ := List.getElem_of_mem h
 rw [List.length_take] at hi
 have := gap_lt (m := m) (j := i) (by omega)
 simp [List.getD, show i < m.length by omega] at this
 rw [List.getElem_take, this]; omega
theorem drop_n {m : List RS} (hm : OkM m) {s : RS} (h : s ∈ m.drop (gap m)) : (gap m : Int) + 1 < s.n := by
 obtain ⟨i, hi, rfl⟩ := List.getElem_of_mem h
 rw [List.length_drop] at hi
 have hg : gap m < m.length := by omega
 have h1 := gap_at hg
 have h2 := hm.ge hg
 rw [List.getElem_drop]
 have e : m[gap m + i]'(by omega) = m.getD (gap m + i) rz := by simp [List.getD, show gap m + i < m.length by omega]
 rw [e]
 cases i with
 | zero => simp only [Nat.add_zero]; omega
 | succ i =>
  have := asc_lt hm.asc (i := gap m) (j := gap m + (i + 1)) (by omega) (by omega)
  omega
theorem OkM.open {m : List RS} (h : OkM m) {u : Int} (hu : 1 ≤ u ∧ u ≤ 256) (hl : m.length < 64) : OkM (openM m u) where
 asc := by
  unfold openM
  rw [List.pairwise_append, List.pairwise_cons]
  refine ⟨h.asc.sublist (List.take_sublist _ _), ⟨fun s hs => drop_n h hs, h.asc.sublist (List.drop_sublist _ _)⟩, fun a ha b hb => ?_⟩
  have h1 := gtake_n ha
  rcases List.mem_cons.1 hb with rfl | hb
  ·exact h1
  ·have := drop_n h hb; omega
 rng s hs := by
  rcases mem_open.1 hs with rfl | hs
  ·have := gap_le m
   simp only [newS]; omega
  ·exact h.rng s hs
 usr s hs := by
  rcases mem_open.1 hs with rfl | hs
  ·exact hu
  ·exact h.usr s hs
 rol s hs := by
  rcases mem_open.1 hs with rfl | hs
  ·simp [newS]
  ·exact h.rol s hs
def fnd (m : List RS) (n : Int) : Int := ixOf (fun s => s.n == n) m
theorem fnd_no {m : List RS} {n : Int} (h : ∀ s ∈ m, s.n ≠ n) : fnd m n = -1 :=
 ixOf_none (Nat.le_refl _) (by rw [List.take_length, List.any_eq_false]; intro s hs; simpa using h s hs)
theorem no_fnd {m : List RS} {n : Int} (h : fnd m n < 0) : ∀ s ∈ m, s.n ≠ n := by
 have h1 := ixOf_ge (fun s : RS => s.n == n) m
 have h2 : decide ((0 : Int) ≤ fnd m n) = false := decide_eq_false (by omega)
 unfold fnd at h2
 rw [h2] at h1
 have := List.any_eq_false.1 h1.symm
 intro s hs; simpa using this s hs
theorem fnd_some {m : List RS} {n : Int} (h : 0 ≤ fnd m n) : ∃ i : Nat, fnd m n = i ∧ i < m.length ∧ (m.getD i rz).n = n := by
 have h3 : (fnd m n == -1) = false := by simp; omega
 obtain ⟨i, h1, h2, _, h4⟩ := ix_some rz h3
 exact ⟨i, h1, h2, by simpa using h4⟩
theorem n_inj {m : List RS} (h : OkM m) {i j : Nat} (hi : i < m.length) (hj : j < m.length) (e : (m.getD i rz).n = (m.getD j rz).n) : i = j := by
 rcases Nat.lt_trichotomy i j with h1 | h1 | h1
 ·have := asc_lt h.asc h1 hj; omega
 ·exact h1
 ·have := asc_lt h.asc h1 hi; omega
theorem fnd_at {m : List RS} (h : OkM m) {n : Int} {i : Nat} (hi : i < m.length) (hn : (m.getD i rz).n = n) : fnd m n = i := by
 rcases Int.lt_or_le (fnd m n) 0 with h1 | h1
 ·exact absurd hn (no_fnd h1 _ (gm hi))
 ·obtain ⟨j, h2, h3, h4⟩ := fnd_some h1
  rw [h2, n_inj h h3 hi (h4.trans hn.symm)]
section
variable {m : List RS} (hm : OkM m) {u : Int} (hu : 1 ≤ u ∧ u ≤ 256) (hl : m.length < 64) {k : Int}
include hm hu hl
end
def closeM (m : List RS) (n : Int) : List RS := m.filter fun s => s.n != n
theorem close_eq {m : List RS} (hm : OkM m) {i : Nat} (hi : i < m.length) : m.take i ++ m.drop (i + 1) = closeM m (m.getD i rz).n := by
 have e : m = m.take i ++ m.getD i rz :: m.drop (i + 1) := by
  have : m.getD i rz = m[i] := by simp [List.getD, hi]
  rw [this, ← List.drop_eq_getElem_cons hi, List.take_append_drop]
 have h1 := hm.asc
 rw [e, List.pairwise_append, List.pairwise_cons] at h1
 obtain ⟨_, ⟨h3, _⟩, h4⟩ := h1
 have hr : closeM m (m.getD i rz).n = closeM (m.take i ++ m.getD i rz :: m.drop (i + 1)) (m.getD i rz).n := congrArg (fun l => closeM l (m.getD i rz).n) e
 rw [hr]
 unfold closeM
 rw [List.filter_append, List.filter_cons_of_neg (by simp), List.filter_eq_self.2, List.filter_eq_self.2]
 ·intro s hs; have := h3 s hs; rw [bne_iff_ne]; omega
 ·intro s hs; have := h4 s hs _ (List.mem_cons_self ..); rw [bne_iff_ne]; omega
theorem OkM.sub {m m' : List RS} (h : OkM m) (hs : m'.Sublist m) : OkM m' :=
 ⟨h.asc.sublist hs, fun s h1 => h.rng s (hs.subset h1), fun s h1 => h.usr s (hs.subset h1), fun s h1 => h.rol s (hs.subset h1)⟩
theorem OkM.close {m : List RS} (h : OkM m) (n : Int) : OkM (closeM m n) := h.sub List.filter_sublist
def setM (m : List RS) (i : Nat) (x : W64) : List RS := m.set i ⟨(m.getD i rz).n, (m.getD i rz).u, x⟩
theorem OkM.set {m : List RS} (h : OkM m) {i : Nat} (hi : i < m.length) {x : W64} (hx : x.getLsbD 0 = false) : OkM (setM m i x) := by
 have hs : ∀ s ∈ setM m i x, s = ⟨(m.getD i rz).n, (m.getD i rz).u, x⟩ ∨ s ∈ m := fun s hs => (List.mem_or_eq_of_mem_set hs).symm
 have hg := gm (z := rz) hi
 refine ⟨?_, ?_, ?_, ?_⟩
 ·rw [List.pairwise_iff_getElem]
  intro a b ha hb hab
  have hn : ∀ j (hj : j < (setM m i x).length), (setM m i x)[j].n = (m.getD j rz).n := by
   intro j hj
   have hj' : j < m.length := by simpa [setM] using hj
   simp only [setM, List.getElem_set]
   split
   ·rename_i e; subst e; rfl
   ·simp [List.getD, hj']
  rw [hn a ha, hn b hb]
  exact asc_lt h.asc hab (by simpa [setM] using hb)
 ·intro s h1
  rcases hs s h1 with rfl | h1
  ·exact h.rng (m.getD i rz) hg
  ·exact h.rng _ h1
 ·intro s h1
  rcases hs s h1 with rfl | h1
  ·exact h.usr (m.getD i rz) hg
  ·exact h.usr _ h1
 ·intro s h1
  rcases hs s h1 with rfl | h1
  ·exact hx
  ·exact h.rol _ h1
def openR (m : List RS) (u : Int) : List RS × Int × Int := if u < 1 ∨ 256 < u then (m, 0, 1) else if 64 ≤ m.length then (m, 0, 14) else (openM m u, (gap m : Int) + 1, 0)
def closeR (m : List RS) (n : Int) : List RS × Int := if fnd m n < 0 then (m, 4) else (closeM m n, 0)
def hasB (x : W64) (r : Int) : Bool := x.getLsbD r.toNat
def setR (m : List RS) (n r : Int) (act : Bool) : List RS × Int :=
 if r < 1 ∨ 63 < r then (m, 1) else if fnd m n < 0 then (m, 4) else
 if hasB (m.getD (fnd m n).toNat rz).x r = act then (m, if act then 5 else 4)
 else (setM m (fnd m n).toNat ((m.getD (fnd m n).toNat rz).x ^^^ oneW r.toNat), 0)
theorem OkM.openR {m : List RS} (h : OkM m) (u : Int) : OkM (openR m u).1 := by
 unfold Lx.openR
 split
 ·exact h
 ·split
  ·exact h
  ·exact h.open (by omega) (by omega)
theorem OkM.closeR {m : List RS} (h : OkM m) (n : Int) : OkM (closeR m n).1 := by
 unfold Lx.closeR
 split
 ·exact h
 ·exact h.close n
theorem OkM.setR {m : List RS} (h : OkM m) (n r : Int) (act : Bool) : OkM (setR m n r act).1 := by
 unfold Lx.setR
 split
 ·exact h
 ·split
  ·exact h
  ·split
   ·exact h
   ·obtain ⟨i, h1, h2, _⟩ := fnd_some (m := m) (n := n) (by omega)
    rw [h1, Int.toNat_natCast]
    refine h.set h2 ?_
    have := h.rol _ (gm (z := rz) h2)
    rw [BitVec.getLsbD_xor, this, oneW_get r.toNat 0 (by omega)]
    have : r.toNat ≠ 0 := by omega
    simp; omega
structure BsI (m : List RS) (n : Int) (i j : Nat) : Prop where
 le : i ≤ j
 len : j ≤ m.length
 low : ∀ t, t < i → (m.getD t rz).n < n
 up : ∀ t, j ≤ t → t < m.length → n ≤ (m.getD t rz).n
theorem BsI.start (m : List RS) (n : Int) {k : Nat} (h : k = m.length) : BsI m n 0 k := ⟨Nat.zero_le _, by omega, fun t h => by omega, fun t h h2 => by omega⟩
section
variable {m : List RS} {n : Int} {i j : Nat} (h : BsI m n i j) (hm : OkM m)
include h hm
theorem BsI.lo {k : Nat} (h1 : i ≤ k) (h2 : k < j) (hk : (m.getD k rz).n < n) : BsI m n (k + 1) j := by
 refine ⟨by omega, h.len, fun t ht => ?_, h.up⟩
 rcases Nat.lt_or_ge t k with h3 | h3
 ·have := asc_lt hm.asc h3 (by have := h.len; omega); omega
 ·obtain rfl : t = k := by omega
  exact hk
theorem BsI.hi {k : Nat} (h1 : i ≤ k) (h2 : k < j) (hk : n ≤ (m.getD k rz).n) : BsI m n i k := by
 refine ⟨h1, by have := h.len; omega, h.low, fun t ht hl => ?_⟩
 rcases Nat.lt_or_ge k t with h3 | h3
 ·have := asc_lt hm.asc h3 hl; omega
 ·obtain rfl : t = k := by omega
  exact hk
end
theorem BsI.fin {m : List RS} {n : Int} {i : Nat} (h : BsI m n i i) (hm : OkM m) : decide (0 ≤ fnd m n) = (decide (i < m.length) && decide ((m.getD i rz).n = n)) ∧ (0 ≤ fnd m n → fnd m n = i) := by
 by_cases h1 : i < m.length ∧ (m.getD i rz).n = n
 ·have e := fnd_at hm h1.1 h1.2
  refine ⟨?_, fun _ => e⟩
  rw [e, decide_eq_true h1.1, decide_eq_true h1.2]; simp
 ·have e : fnd m n = -1 := fnd_no fun s hs hn => by
   obtain ⟨t, ht, rfl⟩ := List.getElem_of_mem hs
   have et : (m.getD t rz).n = n := by simpa [List.getD, ht] using hn
   rcases Nat.lt_trichotomy t i with h2 | h2 | h2
   ·have := h.low t h2; omega
   ·subst h2; exact h1 ⟨ht, et⟩
   ·rcases Nat.lt_or_ge i m.length with h3 | h3
    ·have h4 := asc_lt hm.asc h2 ht
     have h5 := h.up i (Nat.le_refl _) h3
     omega
    ·omega
  refine ⟨?_, fun h2 => by omega⟩
  rw [e]
  symm
  rw [show decide ((0 : Int) ≤ -1) = false by decide, Bool.and_eq_false_iff]
  by_cases h2 : i < m.length
  ·exact .inr (decide_eq_false fun h3 => h1 ⟨h2, h3⟩)
  ·exact .inl (decide_eq_false h2)
structure SOp where
 k : UInt8
 s : UInt8
 u : Int
 r : Int
def numO (o : SOp) : Int := ((o.s.toNat % 70 : Nat) : Int)
def kindO (o : SOp) : Nat := o.k.toNat % 5
def stepR (m : List RS) (o : SOp) : List RS × Int :=
 if kindO o ≤ 1 then ((openR m o.u).1, (openR m o.u).2.2) else if kindO o = 2 then closeR m (numO o) else if kindO o = 3 then setR m (numO o) o.r true else setR m (numO o) o.r false
theorem OkM.step {m : List RS} (h : OkM m) (o : SOp) : OkM (stepR m o).1 := by
 unfold stepR
 split
 ·exact h.openR _
 ·split
  ·exact h.closeR _
  ·split <;> exact h.setR _ _ _
structure FullTo (m : List RS) (k : Nat) : Prop where
 ok : OkM m
 len : m.length = k
 num : ∀ j, j < k → (m.getD j rz).n = (j : Int) + 1
theorem FullTo.start : FullTo [] 0 := ⟨OkM.nil, rfl, fun j h => absurd h (Nat.not_lt_zero _)⟩
theorem FullTo.gapk {m : List RS} {k : Nat} (h : FullTo m k) : gap m = k := (gap_uniq (by rw [h.len]; exact Nat.le_refl _) h.num (fun hk => by rw [h.len] at hk; omega)).symm
theorem FullTo.open {m : List RS} {k : Nat} (h : FullTo m k) (hk : k < 64) {u : Int} (hu : 1 ≤ u ∧ u ≤ 256) : openR m u = (openM m u, (k : Int) + 1, 0) ∧ FullTo (openM m u) (k + 1) := by
 have hl := h.len
 refine ⟨by rw [openR, if_neg (by omega), if_neg (by omega), h.gapk], h.ok.open hu (by omega), by rw [open_len, h.len], fun j hj => ?_⟩
 have e : openM m u = m ++ [newS m u] := by
  unfold openM
  rw [h.gapk, List.take_of_length_le (by omega), List.drop_of_length_le (by omega)]
 rw [e]
 rcases Nat.lt_or_ge j k with h1 | h1
 ·rw [← h.num j h1]
  simp [List.getD, List.getElem?_append_left (show j < m.length by omega)]
 ·have : j = m.length := by omega
  subst this
  simp [List.getD, newS, h.gapk, hl]
theorem FullTo.close {m : List RS} (h : FullTo m 64) {x : Nat} (hx : x < 64) : closeR m ((x : Int) + 1) = (closeM m ((x : Int) + 1), 0) ∧ OkM (closeM m ((x : Int) + 1)) ∧ (closeM m ((x : Int) + 1)).length = 63 ∧ gap (closeM m ((x : Int) + 1)) = x := by
 have hl := h.len
 have hn := h.num x hx
 have hf : fnd m ((x : Int) + 1) = x := fnd_at h.ok (by omega) hn
 have e := close_eq h.ok (i := x) (by omega)
 rw [hn] at e
 refine ⟨by rw [closeR, if_neg (by omega)], h.ok.close _, ?_, ?_⟩
 ·rw [← e]; simp; omega
 ·refine (gap_uniq ?_ (fun j hj => ?_) (fun hlt => ?_)).symm
  ·rw [← e]; simp; omega
  ·rw [← e, ← h.num j (by omega)]
   have h1 : j < (m.take x).length := by simp; omega
   simp [List.getD, List.getElem?_append_left h1, List.getElem?_take, hj]
  ·rw [← e] at hlt ⊢
   have h1 : (m.take x).length = x := by simp; omega
   have h2 : (m.take x ++ m.drop (x + 1)).getD x rz = m.getD (x + 1) rz := by
    simp only [List.getD]
    rw [List.getElem?_append_right (by omega), h1, Nat.sub_self, List.getElem?_drop, Nat.add_zero]
   have h3 : x + 1 < 64 := by simp at hlt; omega
   rw [h2, h.num (x + 1) h3]
   push_cast; omega
