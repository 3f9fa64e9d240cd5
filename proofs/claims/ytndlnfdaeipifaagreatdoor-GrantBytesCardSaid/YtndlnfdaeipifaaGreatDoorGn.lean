/- Several texts in one file. -/
import Derived.Test.YtndlnfdaeipifaaGreatDoorHy
import Derived.Test.YtndlnfdaeipifaaGreatDoorDraw
import Derived.Test.YtndlnfdaeipifaaGreatDoorPure11e
import Derived.Test.YtndlnfdaeipifaaGreatDoorOrd
import Derived.Test.YtndlnfdaeipifaaGreatDoorSort
import Derived.Lib.BitFns
/- Books of grants without what is needless. Nothing of a program stands here. -/
namespace Go.Lx
open Go
set_option linter.unusedSimpArgs false
set_option linter.unusedVariables false
set_option linter.unnecessarySimpa false
structure ImpOk (imp : Int → Int → Bool) : Prop where
  tr : ∀ a b c : Int, imp a b = true → imp b c = true → imp a c = true
  rk : ∃ (ρ : Int → Nat) (N : Nat), (∀ a, ρ a ≤ N) ∧ ∀ a b, imp a b = true → a = b ∨ ρ a < ρ b
end Go.Lx
/- Books of grants in memory; the law's operations. Nothing of a program stands here. -/
namespace Go.Lx
open Go Go.RowKit
set_option linter.unusedSimpArgs false
set_option linter.unusedVariables false
set_option linter.unnecessarySimpa false
def GbIs (w : World) (v : Value) (m : List Ent) : Prop := ∃ p a c, v = .pointer (some ⟨p, 0, none⟩) ∧ At w p 0 [.slice a m.length c] ∧ Sl encE 4 (Lt w.heap.size) w a c m
theorem GbIs.ext {γ : Prop} {w w' : World} {v : Value} {m : List Ent} (h : GbIs w v m) (x : Ext γ w w') : GbIs w' v m :=
  let ⟨p, a, c, h1, h2, h3⟩ := h
  ⟨p, a, c, h1, h2.keep x id, (h3.ext x).top⟩
def GbF (F : Nat → Prop) (w : World) (v : Value) (m : List Ent) : Prop := ∃ p a c, v = .pointer (some ⟨p, 0, none⟩) ∧ F p ∧ At w p 0 [.slice a m.length c] ∧ Sl encE 4 F w a c m
section
variable {F F' D : Nat → Prop} {γ : Prop} {w w' : World} {v : Value} {m : List Ent}
theorem GbF.keep (h : GbF F w v m) (x : Bel γ D w w') (hd : ∀ b, b < w.heap.size → F b → ¬ D b) : GbF F w' v m :=
  let ⟨p, a, c, h1, h2, h3, h4⟩ := h
  ⟨p, a, c, h1, h2, h3.keep x (hd p h3.lt h2), h4.keep x hd⟩
theorem GbF.ext (h : GbF F w v m) (x : Ext γ w w') : GbF F w' v m := h.keep x fun _ _ _ => id
theorem GbF.mono (h : GbF F w v m) (hd : ∀ b, b < w.heap.size → F b → F' b) : GbF F' w v m :=
  let ⟨p, a, c, h1, h2, h3, h4⟩ := h
  ⟨p, a, c, h1, hd p h3.lt h2, h3, h4.mono hd⟩
theorem GbF.is (h : GbF F w v m) : GbIs w v m :=
  let ⟨p, a, c, h1, _, h3, h4⟩ := h
  ⟨p, a, c, h1, h3, h4.top⟩
theorem GbIs.f (h : GbIs w v m) : GbF (Lt w.heap.size) w v m :=
  let ⟨p, a, c, h1, h3, h4⟩ := h
  ⟨p, a, c, h1, h3.lt, h3, h4⟩
end
def GbP (w : World) (p : Value) (e : Int) (m : List Ent) : Prop := (e = 0 → GbIs w p m) ∧ (e ≠ 0 → p = .pointer none)
theorem GbP.ext {γ : Prop} {w w' : World} {p : Value} {e : Int} {m : List Ent} (h : GbP w p e m) (x : Ext γ w w') : GbP w' p e m := ⟨fun he => (h.1 he).ext x, h.2⟩
def GbO (w : World) (p : Value) (m : List Ent) : Prop := GbIs w p m ∨ p = .pointer none ∧ m = []
theorem GbO.ext {γ : Prop} {w w' : World} {p : Value} {m : List Ent} (h : GbO w p m) (x : Ext γ w w') : GbO w' p m := h.imp (·.ext x) id
theorem gb_new {w : World} {p : Nat} {T : TypeId} {a : Option Addr} {c k : Nat} {m : List Ent} {D : Nat → Prop} {e : TypeId} (hb : Box w p T [.slice a k c]) (hk : k = m.length) (ho : Own encE 4 e D w (.slice a k c) m) : GbIs w (.pointer (some ⟨p, 0, none⟩)) m := by
  subst hk
  exact ⟨p, a, c, rfl, hb.at, (ho.slA encE_ok).top⟩
theorem gb_nil {w : World} {p : Nat} {T : TypeId} (hb : Box w p T [.slice none 0 0]) : GbIs w (.pointer (some ⟨p, 0, none⟩)) [] := ⟨p, none, 0, rfl, hb.at, Sl.none⟩
structure GOp where
  wd : Bool
  rl : UInt8
  p : RawV
def encGo (o : GOp) : List Value := .bool o.wd :: .int .u8 (o.rl.toNat : Int) :: encR o.p
def goz : GOp := ⟨false, 0, rz⟩
def roleL : List Int := [0, 63, 64, -1, 65, 62]
def roleN (n : UInt8) : Int := if 250 ≤ n.toNat then roleL.getD (n.toNat - 250) 0 else 1 + ((n.toNat % 6 : Nat) : Int)
def GOp.ent (o : GOp) : Ent := ⟨roleN o.rl, o.p.perm⟩
theorem GOp.okp (o : GOp) : o.ent.p.ok := o.p.ok
def stepGr (m : List Ent) (o : GOp) : List Ent × Int := if o.wd then dropR m o.ent else grantR m o.ent
theorem OkG.step {m : List Ent} (h : OkG m) (o : GOp) : OkG (stepGr m o).1 := by
  unfold stepGr
  split
  · exact h.drop _
  · exact h.grant o.okp
theorem half_natE {n : Nat} (h : n < 18446744073709551616) : (BitVec.ofNat 64 n >>> 1).toNat = n / 2 := by
  rw [BitVec.toNat_ushiftRight, BitVec.toNat_ofNat, Nat.mod_eq_of_lt (by omega), Nat.shiftRight_eq_div_pow]
theorem beq_swE (a b : Ent) : (a == b) = (b == a) := by
  rw [Bool.eq_iff_iff, beq_iff_eq, beq_iff_eq]; exact ⟨Eq.symm, Eq.symm⟩
theorem lessE_ne {a b : Ent} (h : (a.r != b.r) = true) : decide (a.r < b.r) = lessE a b := by
  have h1 : a.r ≠ b.r := by simpa using h
  rw [lessE, cmpE, if_pos h]
  unfold cmpI
  rw [Bool.eq_iff_iff, decide_eq_true_iff, decide_eq_true_iff]
  (repeat' split) <;> omega
theorem lessE_eq {a b : Ent} (h : (a.r != b.r) = false) : decide (cmpM a.p b.p < 0) = lessE a b := by
  rw [lessE, cmpE, if_neg (by rw [h]; simp)]
end Go.Lx
/- Which role implies which. Nothing of a program stands here. -/
namespace Go.Lx
open Go
set_option linter.unusedSimpArgs false
set_option linter.unusedVariables false
set_option linter.unnecessarySimpa false
def ImpP (L : List Pr) (r s : Int) : Prop := ∃ a b : Fin 64, r = iv a ∧ s = iv b ∧ 1 ≤ a.val ∧ 1 ≤ b.val ∧ (b = a ∨ Rch L a b)
noncomputable def impLk (L : List Pr) (r s : Int) : Bool := @decide (ImpP L r s) (Classical.propDecidable _)
theorem impLk_iff {L : List Pr} {r s : Int} : impLk L r s = true ↔ ImpP L r s := by
  unfold impLk
  exact @decide_eq_true_iff _ (Classical.propDecidable _)
@[irreducible] def aboO (o : OV) (a : Int) : W64 := if 0 ≤ a ∧ a < (o.n : Int) then (o.above.getD a.toNat sz).x else 0
theorem imp_prog {o : OV} {L : List Pr} (h : HOk o L) (r s : Int) : (decide (1 ≤ r) && decide (r ≤ 63) && (decide (1 ≤ s) && decide (s ≤ 63)) && (r == s || hasW (aboO o s) r)) = impLk L r s := by
  rw [Bool.eq_iff_iff, impLk_iff]
  simp only [Bool.and_eq_true, Bool.or_eq_true, decide_eq_true_iff, beq_iff_eq]
  constructor
  · rintro ⟨⟨⟨h1, h2⟩, h3, h4⟩, h5⟩
    obtain ⟨a, ha⟩ : ∃ a : Fin 64, r = iv a := ⟨⟨r.toNat, by omega⟩, by unfold iv; simp; omega⟩
    obtain ⟨b, hb⟩ : ∃ a : Fin 64, s = iv a := ⟨⟨s.toNat, by omega⟩, by unfold iv; simp; omega⟩
    refine ⟨a, b, ha, hb, by unfold iv at ha; omega, by unfold iv at hb; omega, ?_⟩
    rcases h5 with h5 | h5
    · exact .inl (iv_inj.1 (by rw [← ha, ← hb, h5]))
    · refine .inr ((h.ab b a).1 ?_)
      rw [ha, hb] at h5
      unfold iv at h5
      rw [hasW_nat] at h5
      unfold aboO at h5
      rw [if_pos ⟨by omega, by have := b.isLt; rw [h.n]; omega⟩, Int.toNat_natCast] at h5
      exact h5
  · rintro ⟨a, b, rfl, rfl, h1, h2, h3⟩
    have h4 := iv_ge a
    have h5 := iv_ge b
    refine ⟨⟨⟨by unfold iv; omega, by omega⟩, by unfold iv; omega, by omega⟩, ?_⟩
    rcases h3 with rfl | h3
    · exact .inl rfl
    · refine .inr ?_
      have h6 := (h.ab b a).2 h3
      unfold iv
      rw [hasW_nat]
      unfold aboO
      rw [if_pos ⟨by omega, by have := b.isLt; rw [h.n]; omega⟩, Int.toNat_natCast]
      exact h6
def HyO (F : Nat → Prop) (w : World) (v : Value) (imp : Int → Int → Bool) : Prop := (∃ L ph po o, v = .pointer (some ⟨ph, 0, none⟩) ∧ F ph ∧ At w ph 0 [.pointer (some ⟨po, 0, none⟩)] ∧ OdAt F w po o ∧ HOk o L ∧ imp = impLk L) ∨ v = .pointer none ∧ imp = fun _ _ => false
section
variable {F F' D : Nat → Prop} {γ : Prop} {w w' : World} {v : Value} {imp : Int → Int → Bool}
theorem HyO.keep (h : HyO F w v imp) (x : Bel γ D w w') (hd : ∀ b, b < w.heap.size → F b → ¬ D b) : HyO F w' v imp :=
  h.imp (fun ⟨L, ph, po, o, h1, h2, h3, h4, h5⟩ => ⟨L, ph, po, o, h1, h2, h3.keep x (hd ph h3.lt h2), h4.keep x hd, h5⟩) id
theorem HyO.ext (h : HyO F w v imp) (x : Ext γ w w') : HyO F w' v imp := h.keep x fun _ _ _ => id
theorem HyO.mono (h : HyO F w v imp) (hd : ∀ b, b < w.heap.size → F b → F' b) : HyO F' w v imp :=
  h.imp (fun ⟨L, ph, po, o, h1, h2, h3, h4, h5⟩ => ⟨L, ph, po, o, h1, hd ph h3.lt h2, h3, h4.mono hd, h5⟩) id
theorem HyIs.hyO {L : List Pr} (h : HyIs w v L) : HyO (Lt w.heap.size) w v (impLk L) :=
  let ⟨ph, po, o, h1, h2, h3, h4⟩ := h
  .inl ⟨L, ph, po, o, h1, h2.lt, h2, h3, h4, rfl⟩
theorem HyO.none : HyO (fun _ => False) w (.pointer none) (fun _ _ => false) := .inr ⟨rfl, rfl⟩
end
end Go.Lx
/- What the statements about grants need. Nothing of a program stands here. -/
namespace Go.Lx
open Go
set_option linter.unusedSimpArgs false
set_option linter.unusedVariables false
set_option linter.unnecessarySimpa false
def AE1 : Ent := ⟨1, ⟨[114, 101, 97, 100], [47, 97], true⟩⟩
def AE2 : Ent := ⟨2, ⟨[114, 101, 97, 100], [47, 97, 47, 98], false⟩⟩
def AM1 : List Ent := [AE1]
def AM2 : List Ent := [AE1, AE2]
theorem AE1_ok : AE1.p.ok := ⟨by decide, by decide⟩
theorem AE2_ok : AE2.p.ok := ⟨by decide, by decide⟩
theorem aw_g1 : grantR [] AE1 = (AM1, 0) := by decide +kernel
theorem aw_g2 : grantR AM1 AE2 = (AM2, 0) := by decide +kernel
theorem okAM1 : OkG AM1 := by
  have h := OkG.grant OkG.nil (e := AE1) AE1_ok
  rwa [aw_g1] at h
theorem okAM2 : OkG AM2 := by
  have h := OkG.grant okAM1 (e := AE2) AE2_ok
  rwa [aw_g2] at h
theorem aw_cov1 : covW AM2 [114, 101, 97, 100] [47, 97, 47, 98] = ofW [1, 2] := by decide +kernel
theorem aw_cov2 : covW AM2 [114, 101, 97, 100] [47, 97, 47, 99] = ofW [1] := by decide +kernel
theorem aw_red (imp : Int → Int → Bool) : redL imp AM2 AM2 = if imp 2 1 then [AE2] else [] := by
  have n1 : AM2.any (needB imp AE1) = false := by
    have a1 : needB imp AE1 AE1 = false := by unfold needB; rw [show (AE1 == AE1) = true by decide]; rfl
    have a2 : needB imp AE1 AE2 = false := by unfold needB; rw [show impliesS AE2.p AE1.p = false by decide +kernel, Bool.and_false]
    show (needB imp AE1 AE1 || (needB imp AE1 AE2 || false)) = false
    rw [a1, a2]; rfl
  have n2 : AM2.any (needB imp AE2) = imp 2 1 := by
    have b1 : needB imp AE2 AE1 = imp 2 1 := by
      unfold needB
      rw [show (AE2 == AE1) = false by decide, show (AE2.r == AE1.r) = false by decide, show impliesS AE1.p AE2.p = true by decide +kernel]
      show (true && (false || imp 2 1) && true) = imp 2 1
      simp
    have b2 : needB imp AE2 AE2 = false := by unfold needB; rw [show (AE2 == AE2) = true by decide]; rfl
    show (needB imp AE2 AE1 || (needB imp AE2 AE2 || false)) = _
    rw [b1, b2]; simp
  show ([AE1, AE2].filter fun x => AM2.any (needB imp x)) = _
  rw [List.filter_cons, List.filter_cons, n1, n2]
  simp
theorem aw_red1 : redL (impLk [((2 : Fin 64), (1 : Fin 64))]) AM2 AM2 = [AE2] := by
  have h1 : impLk [((2 : Fin 64), (1 : Fin 64))] 2 1 = true := impLk_iff.2 ⟨2, 1, rfl, rfl, by decide, by decide, .inr ((rch_single (by decide)).2 ⟨rfl, rfl⟩)⟩
  rw [aw_red, if_pos h1]
theorem aw_red2 : redL (impLk [((1 : Fin 64), (2 : Fin 64))]) AM2 AM2 = [] := by
  have h1 : impLk [((1 : Fin 64), (2 : Fin 64))] 2 1 = false := by
    rw [Bool.eq_false_iff]
    intro h
    obtain ⟨a, b, e1, e2, _, _, h3⟩ := impLk_iff.1 h
    have ha : a = 2 := iv_inj.1 e1.symm
    have hb : b = 1 := iv_inj.1 e2.symm
    subst ha; subst hb
    rcases h3 with h3 | h3
    · exact absurd h3 (by decide)
    · exact absurd ((rch_single (by decide)).1 h3).1 (by decide)
  rw [aw_red, h1]; rfl
end Go.Lx
/- What the walks ask of this program's types of grants. -/
namespace Go.Proofs.YtndlnfdaeipifaaGreatDoor
open Go Go.Lx
set_option linter.unusedSimpArgs false
set_option linter.unusedVariables false
set_option linter.unnecessarySimpa false
set_option maxRecDepth 10000
theorem eqF_consA {P : Program} {d k : Nat} {xs ys a b : Array Value} {f : Field} {fs : List Field} {r r' : Bool} (hn : f.name ≠ "_") (ha : ∀ w, (isAgg f.type).run P w = .ok true w) (hs : ∀ w, (sizeOf f.type).run P w = .ok k w) (hx : xs.extract f.offset (f.offset + k) = a) (hy : ys.extract f.offset (f.offset + k) = b)
    (he : ∀ w, (Op.equalIn d f.type (.agg a) (.agg b)).run P w = .ok r w) (hr : ∀ w, (Op.eqFields d xs ys fs).run P w = .ok r' w) : ∀ w, (Op.eqFields d xs ys (f :: fs)).run P w = .ok (r && r') w := by
  intro w
  simp only [Op.eqFields, hn, ne_eq, not_false_eq_true, if_true, Sem.run_bind, part, ha, hs, Result.andThen_ok, hx, hy, Sem.run_pure, he]
  cases r
  · simp
  · simp [hr]
theorem eqI_int (d : Nat) (x y : Int) : ∀ w, (Op.equalIn (d + 1) 3 (.int .i64 x) (.int .i64 y)).run Tryz.prog w = .ok (x == y) w := by
  intro w
  simp [Op.equalIn, run_underlying Tryz.underlying3]
theorem entBeq (x y : Ent) : (x == y) = ((x.r == y.r) && (x.p == y.p)) := by
  obtain ⟨a, b⟩ := x
  obtain ⟨a', b'⟩ := y
  rw [Bool.eq_iff_iff]
  simp only [Bool.and_eq_true, beq_iff_eq, Ent.mk.injEq]
theorem eq_permD (x y : Perm) : ∀ w, (Op.equalIn 9999 52 (.agg (encP x).toArray) (.agg (encP y).toArray)).run Tryz.prog w = .ok (x == y) w := fun w => by
  rw [run_equalIn_struct w 9998 _ _ _ (by kernel_rfl) (by kernel_rfl), permBeq, Bool.and_assoc, Program.fieldsOf, Tryz.underlying52]
  have h3 : ((x.deep == y.deep) : Bool) = ((x.deep == y.deep) && true) := (Bool.and_true _).symm
  rw [h3]
  exact eqF_cons (by simp) Tryz.isAgg9 rfl rfl (eqI_str _ _ Tryz.underlying9) (eqF_cons (by simp) Tryz.isAgg9 rfl rfl (eqI_str _ _ Tryz.underlying9) (eqF_cons (by simp) Tryz.isAgg4 rfl rfl (fun w => run_equalIn_bool' w _ _ _ _ Tryz.underlying4) eqF_nil)) w
theorem eq_ent : EqT Tryz.prog 76 encE := ⟨by kernel_rfl, fun w x y => by
  rw [run_equalIn_struct w 9999 _ _ _ (by kernel_rfl) (by kernel_rfl), entBeq, Program.fieldsOf, Tryz.underlying76]
  have h3 : ((x.p == y.p) : Bool) = ((x.p == y.p) && true) := (Bool.and_true _).symm
  rw [h3]
  exact eqF_cons (by simp) Tryz.isAgg3 rfl rfl (eqI_int _ _ _) (eqF_consA (by simp) Tryz.isAgg52 Tryz.sizeOf52 rfl rfl (eq_permD x.p y.p) eqF_nil) w⟩
theorem eq_rpermD (x y : Perm) : ∀ w, (Op.equalIn 9999 41 (.agg (encP x).toArray) (.agg (encP y).toArray)).run Tryz.prog w = .ok (x == y) w := fun w => by
  rw [run_equalIn_struct w 9998 _ _ _ (by kernel_rfl) (by kernel_rfl), permBeq, Bool.and_assoc, Program.fieldsOf, Tryz.underlying41]
  have h3 : ((x.deep == y.deep) : Bool) = ((x.deep == y.deep) && true) := (Bool.and_true _).symm
  rw [h3]
  exact eqF_cons (by simp) Tryz.isAgg9 rfl rfl (eqI_str _ _ Tryz.underlying9) (eqF_cons (by simp) Tryz.isAgg9 rfl rfl (eqI_str _ _ Tryz.underlying9) (eqF_cons (by simp) Tryz.isAgg4 rfl rfl (fun w => run_equalIn_bool' w _ _ _ _ Tryz.underlying4) eqF_nil)) w
theorem eq_rent : EqT Tryz.prog 43 encE := ⟨by kernel_rfl, fun w x y => by
  rw [run_equalIn_struct w 9999 _ _ _ (by kernel_rfl) (by kernel_rfl), entBeq, Program.fieldsOf, Tryz.underlying43]
  have h3 : ((x.p == y.p) : Bool) = ((x.p == y.p) && true) := (Bool.and_true _).symm
  rw [h3]
  exact eqF_cons (by simp) Tryz.isAgg3 rfl rfl (eqI_int _ _ _) (eqF_consA (by simp) Tryz.isAgg41 Tryz.sizeOf41 rfl rfl (eq_rpermD x.p y.p) eqF_nil) w⟩
theorem el_ent : ElT Tryz.prog 34 76 4 48 (.agg #[.int .i64 0, .string ⟨#[]⟩, .string ⟨#[]⟩, .bool false]) := ⟨Tryz.underlying34, ⟨Tryz.t76, by kernel_rfl, rfl, rfl, rfl⟩, rfl, by decide, by decide⟩
theorem el_rent : ElT Tryz.prog 26 43 4 48 (.agg #[.int .i64 0, .string ⟨#[]⟩, .string ⟨#[]⟩, .bool false]) := ⟨Tryz.underlying26, ⟨Tryz.t43, by kernel_rfl, rfl, rfl, rfl⟩, rfl, by decide, by decide⟩
end Go.Proofs.YtndlnfdaeipifaaGreatDoor
/- The bytes of numbers and sets, as the wire has them: plain law. Nothing of a program stands here. -/
namespace Go.Lx
open Go
set_option linter.unusedSimpArgs false
set_option linter.unusedVariables false
set_option linter.unnecessarySimpa false
def b7 (x : W64) : UInt8 := UInt8.ofNat (x &&& 127#64).toNat
theorem shr7_lt {x : W64} (h : x ≠ 0) : (x >>> 7).toNat < x.toNat := by
  have : x.toNat ≠ 0 := fun e => h (BitVec.eq_of_toNat_eq e)
  rw [BitVec.toNat_ushiftRight, Nat.shiftRight_eq_div_pow]; omega
def gT (x : W64) : List UInt8 := if h : x = 0 then [] else (b7 x ||| 128) :: gT (x >>> 7)
termination_by x.toNat
decreasing_by exact shr7_lt h
theorem gT_zero : gT 0 = [] := by rw [gT]; simp
theorem gT_some {x : W64} (h : x ≠ 0) : gT x = (b7 x ||| 128) :: gT (x >>> 7) := by rw [gT, dif_neg h]
def putU (x : W64) : List UInt8 := (b7 x :: gT (x >>> 7)).reverse
theorem b7_nat (x : W64) : (b7 x).toNat = x.toNat % 128 := by
  have h : (x &&& 127#64).toNat = x.toNat % 128 := by
    rw [BitVec.toNat_and]
    show x.toNat &&& 127 = _
    exact Nat.and_two_pow_sub_one_eq_mod x.toNat 7
  rw [b7, h, UInt8.toNat_ofNat']
  omega
theorem b8_nat (c : UInt8) (h : c.toNat < 128) : (c ||| 128).toNat = c.toNat + 128 := by
  rw [UInt8.toNat_or]
  show c.toNat ||| 128 = _
  have h1 := Nat.two_pow_add_eq_or_of_lt (i := 7) (b := c.toNat) h 1
  rw [Nat.or_comm]
  simp only [Nat.mul_one] at h1
  show 2 ^ 7 ||| c.toNat = _
  rw [← h1]; omega
theorem gT_ge (x : W64) : ∀ c ∈ gT x, 128 ≤ c.toNat := by
  rw [gT]
  split
  · intro c hc; cases hc
  · rename_i h
    have h1 := gT_ge (x >>> 7)
    intro c hc
    rcases List.mem_cons.1 hc with rfl | hc
    · have := b7_nat x
      rw [b8_nat _ (by omega)]; omega
    · exact h1 c hc
termination_by x.toNat
decreasing_by exact shr7_lt (by assumption)
theorem putU_eq (x : W64) : putU x = (gT (x >>> 7)).reverse ++ [b7 x] := by rw [putU, List.reverse_cons]
theorem gT_len (x : W64) (k : Nat) (h : x.toNat < 2 ^ (7 * k)) : (gT x).length ≤ k := by
  induction k generalizing x with
  | zero =>
    have : x = 0 := BitVec.eq_of_toNat_eq (by simpa using h)
    rw [this, gT_zero]; simp
  | succ k ih =>
    by_cases hx : x = 0
    · rw [hx, gT_zero]; simp
    · rw [gT_some hx, List.length_cons]
      have := ih (x >>> 7) (by rw [BitVec.toNat_ushiftRight, Nat.shiftRight_eq_div_pow]; rw [Nat.mul_add, Nat.pow_add] at h; omega)
      omega
theorem putU_len (x : W64) : (putU x).length ≤ 11 := by
  have h := gT_len (x >>> 7) 10 (by have := (x >>> 7).isLt; omega)
  rw [putU_eq, List.length_append, List.length_reverse]; simp; omega
def putB (l : List UInt8) : List UInt8 := putU (BitVec.ofNat 64 l.length) ++ l
def byteW (x : W64) (k : Nat) : UInt8 := UInt8.ofNat (x >>> (8 * k)).toNat
structure RevI (l m : List UInt8) (i : Nat) : Prop where
  len : m.length = l.length
  le : 2 * i ≤ l.length + 1
  get : ∀ k, m[k]? = if k < i ∨ (l.length ≤ k + i ∧ k < l.length) then l[l.length - 1 - k]? else l[k]?
theorem RevI.start (l : List UInt8) : RevI l l 0 := ⟨rfl, by omega, fun k => by
  rw [if_neg (by omega)]⟩
theorem RevI.fin {l m : List UInt8} {i : Nat} (h : RevI l m i) (hi : l.length ≤ 2 * i + 1) : m = l.reverse := by
  refine List.ext_getElem? fun k => ?_
  rw [h.get k]
  by_cases hk : k < l.length
  · rw [List.getElem?_reverse hk]
    split
    · rfl
    · have : k = l.length - 1 - k := by omega
      rw [← this]
  · have h1 : l.reverse[k]? = none := by simp; omega
    rw [h1]
    split
    · rename_i h2
      have := h.le
      have : l.length - 1 - k = 0 := by omega
      rcases Nat.eq_zero_or_pos l.length with h0 | h0
      · simp [List.length_eq_zero_iff.1 h0]
      · omega
    · simp; omega
theorem RevI.step {l m : List UInt8} {i j : Nat} (h : RevI l m i) (hj : l.length = i + j + 1) (hij : i < j) : RevI l ((m.set i (m.getD j 0)).set j (m.getD i 0)) (i + 1) := by
  have hm := h.len
  refine ⟨by simp [hm], by omega, fun k => ?_⟩
  have h1 : m.getD j 0 = l.getD j 0 := by simp only [List.getD]; rw [h.get j, if_neg (by omega)]
  have h2 : m.getD i 0 = l.getD i 0 := by simp only [List.getD]; rw [h.get i, if_neg (by omega)]
  have gi : l[i]? = some (l.getD i 0) := by simp [List.getD, show i < l.length by omega]
  have gj : l[j]? = some (l.getD j 0) := by simp [List.getD, show j < l.length by omega]
  rw [h1, h2, List.getElem?_set, List.getElem?_set]
  by_cases e1 : j = k
  · subst e1
    rw [if_pos rfl, if_pos (by simp; omega), if_pos (by omega), show l.length - 1 - j = i by omega, gi]
  · rw [if_neg e1]
    by_cases e2 : i = k
    · subst e2
      rw [if_pos rfl, if_pos (by omega), if_pos (by omega), show l.length - 1 - i = j by omega, gj]
    · rw [if_neg e2, h.get k]
      by_cases c : k < i ∨ (l.length ≤ k + i ∧ k < l.length)
      · rw [if_pos c, if_pos (by omega)]
      · rw [if_neg c]
        by_cases c2 : k < i + 1 ∨ (l.length ≤ k + (i + 1) ∧ k < l.length)
        · omega
        · rw [if_neg c2]
structure BytI (x : W64) (n k : Nat) (m : List UInt8) : Prop where
  len : m.length = n
  get : ∀ j, j < k → m[j]? = some (byteW x j)
theorem BytI.start (x : W64) (n : Nat) : BytI x n 0 (List.replicate n 0) := ⟨by simp, fun j h => absurd h (Nat.not_lt_zero _)⟩
theorem BytI.step {x : W64} {n k : Nat} {m : List UInt8} (h : BytI x n k m) (hk : k < n) : BytI x n (k + 1) (m.set k (byteW x k)) := by
  have hl := h.len
  refine ⟨by simp [hl], fun j hj => ?_⟩
  rw [List.getElem?_set]
  by_cases e : k = j
  · subst e; rw [if_pos rfl, if_pos (by omega)]
  · rw [if_neg e]; exact h.get j (by omega)
theorem BytI.fin {x : W64} {n k : Nat} {m : List UInt8} (h : BytI x n k m) (hk : n ≤ k) : m = (List.range n).map (byteW x) := by
  refine List.ext_getElem? fun j => ?_
  by_cases hj : j < n
  · rw [h.get j (by omega), List.getElem?_map, List.getElem?_range hj]; rfl
  · rw [List.getElem?_eq_none (by rw [h.len]; omega), List.getElem?_eq_none (by simp; omega)]
def iW (i : Int) : W64 := BitVec.ofNat 64 i.toNat
def putF (b : Bool) : UInt8 := if b then 1 else 0
end Go.Lx
