/- Several texts in one file. -/
import Derived.Test.YtndlnfdaeipifaaGreatDoorSortI
import Derived.Test.YtndlnfdaeipifaaGreatDoorPure11g
import Derived.Test.YtndlnfdaeipifaaGreatDoorExt
import Derived.Test.YtndlnfdaeipifaaGreatDoorSv
import Derived.Lib.BitFns
import Derived.Test.YtndlnfdaeipifaaGreatDoorSlx
import Derived.Test.YtndlnfdaeipifaaGreatDoorDrawC
import Derived.Test.YtndlnfdaeipifaaGreatDoorDir
import Derived.Laws.IdiomStrings
/- What the statements about grants need. Nothing of a program stands here. -/
namespace Go.Lx
open Go
set_option linter.unusedSimpArgs false
set_option linter.unusedVariables false
set_option linter.unnecessarySimpa false
def AE1 : Ent := ⟨1, ⟨[114, 101, 97, 100], [47, 97], true⟩⟩
def AE2 : Ent := ⟨2, ⟨[114, 101, 97, 100], [47, 97, 47, 98], false⟩⟩
def AM1 : List Ent := [AE1]
def AM2 : List Ent := [AE1, AE2]
theorem AE1_ok : AE1.p.ok := ⟨by decide, by decide⟩
theorem AE2_ok : AE2.p.ok := ⟨by decide, by decide⟩
theorem aw_g1 : grantR [] AE1 = (AM1, 0) := by decide +kernel
theorem aw_g2 : grantR AM1 AE2 = (AM2, 0) := by decide +kernel
theorem okAM1 : OkG AM1 := by
  have h := OkG.grant OkG.nil (e := AE1) AE1_ok
  rwa [aw_g1] at h
theorem okAM2 : OkG AM2 := by
  have h := OkG.grant okAM1 (e := AE2) AE2_ok
  rwa [aw_g2] at h
theorem aw_cov1 : covW AM2 [114, 101, 97, 100] [47, 97, 47, 98] = ofW [1, 2] := by decide +kernel
theorem aw_cov2 : covW AM2 [114, 101, 97, 100] [47, 97, 47, 99] = ofW [1] := by decide +kernel
theorem aw_red (imp : Int → Int → Bool) : redL imp AM2 AM2 = if imp 2 1 then [AE2] else [] := by
  have n1 : AM2.any (needB imp AE1) = false := by
    have a1 : needB imp AE1 AE1 = false := by unfold needB; rw [show (AE1 == AE1) = true by decide]; rfl
    have a2 : needB imp AE1 AE2 = false := by unfold needB; rw [show impliesS AE2.p AE1.p = false by decide +kernel, Bool.and_false]
    show (needB imp AE1 AE1 || (needB imp AE1 AE2 || false)) = false
    rw [a1, a2]; rfl
  have n2 : AM2.any (needB imp AE2) = imp 2 1 := by
    have b1 : needB imp AE2 AE1 = imp 2 1 := by
      unfold needB
      rw [show (AE2 == AE1) = false by decide, show (AE2.r == AE1.r) = false by decide, show impliesS AE1.p AE2.p = true by decide +kernel]
      show (true && (false || imp 2 1) && true) = imp 2 1
      simp
    have b2 : needB imp AE2 AE2 = false := by unfold needB; rw [show (AE2 == AE2) = true by decide]; rfl
    show (needB imp AE2 AE1 || (needB imp AE2 AE2 || false)) = _
    rw [b1, b2]; simp
  show ([AE1, AE2].filter fun x => AM2.any (needB imp x)) = _
  rw [List.filter_cons, List.filter_cons, n1, n2]
  simp
theorem aw_red1 : redL (impLk [((2 : Fin 64), (1 : Fin 64))]) AM2 AM2 = [AE2] := by
  have h1 : impLk [((2 : Fin 64), (1 : Fin 64))] 2 1 = true := impLk_iff.2 ⟨2, 1, rfl, rfl, by decide, by decide, .inr ((rch_single (by decide)).2 ⟨rfl, rfl⟩)⟩
  rw [aw_red, if_pos h1]
theorem aw_red2 : redL (impLk [((1 : Fin 64), (2 : Fin 64))]) AM2 AM2 = [] := by
  have h1 : impLk [((1 : Fin 64), (2 : Fin 64))] 2 1 = false := by
    rw [Bool.eq_false_iff]
    intro h
    obtain ⟨a, b, e1, e2, _, _, h3⟩ := impLk_iff.1 h
    have ha : a = 2 := iv_inj.1 e1.symm
    have hb : b = 1 := iv_inj.1 e2.symm
    subst ha; subst hb
    rcases h3 with h3 | h3
    · exact absurd h3 (by decide)
    · exact absurd ((rch_single (by decide)).1 h3).1 (by decide)
  rw [aw_red, h1]; rfl
end Go.Lx
/- What the walks ask of this program's types of grants. -/
namespace Go.Proofs.YtndlnfdaeipifaaGreatDoor
open Go Go.Lx
set_option linter.unusedSimpArgs false
set_option linter.unusedVariables false
set_option linter.unnecessarySimpa false
set_option maxRecDepth 10000
theorem eqF_consA {P : Program} {d k : Nat} {xs ys a b : Array Value} {f : Field} {fs : List Field} {r r' : Bool} (hn : f.name ≠ "_") (ha : ∀ w, (isAgg f.type).run P w = .ok true w) (hs : ∀ w, (sizeOf f.type).run P w = .ok k w) (hx : xs.extract f.offset (f.offset + k) = a) (hy : ys.extract f.offset (f.offset + k) = b)
    (he : ∀ w, (Op.equalIn d f.type (.agg a) (.agg b)).run P w = .ok r w) (hr : ∀ w, (Op.eqFields d xs ys fs).run P w = .ok r' w) : ∀ w, (Op.eqFields d xs ys (f :: fs)).run P w = .ok (r && r') w := by
  intro w
  simp only [Op.eqFields, hn, ne_eq, not_false_eq_true, if_true, Sem.run_bind, part, ha, hs, Result.andThen_ok, hx, hy, Sem.run_pure, he]
  cases r
  · simp
  · simp [hr]
theorem eqI_int (d : Nat) (x y : Int) : ∀ w, (Op.equalIn (d + 1) 3 (.int .i64 x) (.int .i64 y)).run Tryz.prog w = .ok (x == y) w := by
  intro w
  simp [Op.equalIn, run_underlying Tryz.underlying3]
theorem entBeq (x y : Ent) : (x == y) = ((x.r == y.r) && (x.p == y.p)) := by
  obtain ⟨a, b⟩ := x
  obtain ⟨a', b'⟩ := y
  rw [Bool.eq_iff_iff]
  simp only [Bool.and_eq_true, beq_iff_eq, Ent.mk.injEq]
theorem eq_permD (x y : Perm) : ∀ w, (Op.equalIn 9999 52 (.agg (encP x).toArray) (.agg (encP y).toArray)).run Tryz.prog w = .ok (x == y) w := fun w => by
  rw [run_equalIn_struct w 9998 _ _ _ (by kernel_rfl) (by kernel_rfl), permBeq, Bool.and_assoc, Program.fieldsOf, Tryz.underlying52]
  have h3 : ((x.deep == y.deep) : Bool) = ((x.deep == y.deep) && true) := (Bool.and_true _).symm
  rw [h3]
  exact eqF_cons (by simp) Tryz.isAgg9 rfl rfl (eqI_str _ _ Tryz.underlying9) (eqF_cons (by simp) Tryz.isAgg9 rfl rfl (eqI_str _ _ Tryz.underlying9) (eqF_cons (by simp) Tryz.isAgg4 rfl rfl (fun w => run_equalIn_bool' w _ _ _ _ Tryz.underlying4) eqF_nil)) w
theorem eq_ent : EqT Tryz.prog 76 encE := ⟨by kernel_rfl, fun w x y => by
  rw [run_equalIn_struct w 9999 _ _ _ (by kernel_rfl) (by kernel_rfl), entBeq, Program.fieldsOf, Tryz.underlying76]
  have h3 : ((x.p == y.p) : Bool) = ((x.p == y.p) && true) := (Bool.and_true _).symm
  rw [h3]
  exact eqF_cons (by simp) Tryz.isAgg3 rfl rfl (eqI_int _ _ _) (eqF_consA (by simp) Tryz.isAgg52 Tryz.sizeOf52 rfl rfl (eq_permD x.p y.p) eqF_nil) w⟩
theorem el_ent : ElT Tryz.prog 34 76 4 48 (.agg #[.int .i64 0, .string ⟨#[]⟩, .string ⟨#[]⟩, .bool false]) := ⟨Tryz.underlying34, ⟨Tryz.t76, by kernel_rfl, rfl, rfl, rfl⟩, rfl, by decide, by decide⟩
end Go.Proofs.YtndlnfdaeipifaaGreatDoor
/- The bytes of numbers and sets, as the wire has them: plain law. Nothing of a program stands here. -/
namespace Go.Lx
open Go
set_option linter.unusedSimpArgs false
set_option linter.unusedVariables false
set_option linter.unnecessarySimpa false
def b7 (x : W64) : UInt8 := UInt8.ofNat (x &&& 127#64).toNat
theorem shr7_lt {x : W64} (h : x ≠ 0) : (x >>> 7).toNat < x.toNat := by
  have : x.toNat ≠ 0 := fun e => h (BitVec.eq_of_toNat_eq e)
  rw [BitVec.toNat_ushiftRight, Nat.shiftRight_eq_div_pow]; omega
def gT (x : W64) : List UInt8 := if h : x = 0 then [] else (b7 x ||| 128) :: gT (x >>> 7)
termination_by x.toNat
decreasing_by exact shr7_lt h
theorem gT_zero : gT 0 = [] := by rw [gT]; simp
theorem gT_some {x : W64} (h : x ≠ 0) : gT x = (b7 x ||| 128) :: gT (x >>> 7) := by rw [gT, dif_neg h]
def putU (x : W64) : List UInt8 := (b7 x :: gT (x >>> 7)).reverse
theorem putU_eq (x : W64) : putU x = (gT (x >>> 7)).reverse ++ [b7 x] := by rw [putU, List.reverse_cons]
theorem gT_len (x : W64) (k : Nat) (h : x.toNat < 2 ^ (7 * k)) : (gT x).length ≤ k := by
  induction k generalizing x with
  | zero =>
    have : x = 0 := BitVec.eq_of_toNat_eq (by simpa using h)
    rw [this, gT_zero]; simp
  | succ k ih =>
    by_cases hx : x = 0
    · rw [hx, gT_zero]; simp
    · rw [gT_some hx, List.length_cons]
      have := ih (x >>> 7) (by rw [BitVec.toNat_ushiftRight, Nat.shiftRight_eq_div_pow]; rw [Nat.mul_add, Nat.pow_add] at h; omega)
      omega
theorem putU_len (x : W64) : (putU x).length ≤ 11 := by
  have h := gT_len (x >>> 7) 10 (by have := (x >>> 7).isLt; omega)
  rw [putU_eq, List.length_append, List.length_reverse]; simp; omega
def putB (l : List UInt8) : List UInt8 := putU (BitVec.ofNat 64 l.length) ++ l
def byteW (x : W64) (k : Nat) : UInt8 := UInt8.ofNat (x >>> (8 * k)).toNat
structure RevI (l m : List UInt8) (i : Nat) : Prop where
  len : m.length = l.length
  le : 2 * i ≤ l.length + 1
  get : ∀ k, m[k]? = if k < i ∨ (l.length ≤ k + i ∧ k < l.length) then l[l.length - 1 - k]? else l[k]?
theorem RevI.start (l : List UInt8) : RevI l l 0 := ⟨rfl, by omega, fun k => by
  rw [if_neg (by omega)]⟩
theorem RevI.fin {l m : List UInt8} {i : Nat} (h : RevI l m i) (hi : l.length ≤ 2 * i + 1) : m = l.reverse := by
  refine List.ext_getElem? fun k => ?_
  rw [h.get k]
  by_cases hk : k < l.length
  · rw [List.getElem?_reverse hk]
    split
    · rfl
    · have : k = l.length - 1 - k := by omega
      rw [← this]
  · have h1 : l.reverse[k]? = none := by simp; omega
    rw [h1]
    split
    · rename_i h2
      have := h.le
      have : l.length - 1 - k = 0 := by omega
      rcases Nat.eq_zero_or_pos l.length with h0 | h0
      · simp [List.length_eq_zero_iff.1 h0]
      · omega
    · simp; omega
theorem RevI.step {l m : List UInt8} {i j : Nat} (h : RevI l m i) (hj : l.length = i + j + 1) (hij : i < j) : RevI l ((m.set i (m.getD j 0)).set j (m.getD i 0)) (i + 1) := by
  have hm := h.len
  refine ⟨by simp [hm], by omega, fun k => ?_⟩
  have h1 : m.getD j 0 = l.getD j 0 := by simp only [List.getD]; rw [h.get j, if_neg (by omega)]
  have h2 : m.getD i 0 = l.getD i 0 := by simp only [List.getD]; rw [h.get i, if_neg (by omega)]
  have gi : l[i]? = some (l.getD i 0) := by simp [List.getD, show i < l.length by omega]
  have gj : l[j]? = some (l.getD j 0) := by simp [List.getD, show j < l.length by omega]
  rw [h1, h2, List.getElem?_set, List.getElem?_set]
  by_cases e1 : j = k
  · subst e1
    rw [if_pos rfl, if_pos (by simp; omega), if_pos (by omega), show l.length - 1 - j = i by omega, gi]
  · rw [if_neg e1]
    by_cases e2 : i = k
    · subst e2
      rw [if_pos rfl, if_pos (by omega), if_pos (by omega), show l.length - 1 - i = j by omega, gj]
    · rw [if_neg e2, h.get k]
      by_cases c : k < i ∨ (l.length ≤ k + i ∧ k < l.length)
      · rw [if_pos c, if_pos (by omega)]
      · rw [if_neg c]
        by_cases c2 : k < i + 1 ∨ (l.length ≤ k + (i + 1) ∧ k < l.length)
        · omega
        · rw [if_neg c2]
structure BytI (x : W64) (n k : Nat) (m : List UInt8) : Prop where
  len : m.length = n
  get : ∀ j, j < k → m[j]? = some (byteW x j)
theorem BytI.start (x : W64) (n : Nat) : BytI x n 0 (List.replicate n 0) := ⟨by simp, fun j h => absurd h (Nat.not_lt_zero _)⟩
theorem BytI.step {x : W64} {n k : Nat} {m : List UInt8} (h : BytI x n k m) (hk : k < n) : BytI x n (k + 1) (m.set k (byteW x k)) := by
  have hl := h.len
  refine ⟨by simp [hl], fun j hj => ?_⟩
  rw [List.getElem?_set]
  by_cases e : k = j
  · subst e; rw [if_pos rfl, if_pos (by omega)]
  · rw [if_neg e]; exact h.get j (by omega)
theorem BytI.fin {x : W64} {n k : Nat} {m : List UInt8} (h : BytI x n k m) (hk : n ≤ k) : m = (List.range n).map (byteW x) := by
  refine List.ext_getElem? fun j => ?_
  by_cases hj : j < n
  · rw [h.get j (by omega), List.getElem?_map, List.getElem?_range hj]; rfl
  · rw [List.getElem?_eq_none (by rw [h.len]; omega), List.getElem?_eq_none (by simp; omega)]
def iW (i : Int) : W64 := BitVec.ofNat 64 i.toNat
def putF (b : Bool) : UInt8 := if b then 1 else 0
end Go.Lx
/- A writer of bytes in memory; the rules of its operations. Nothing of a program stands here. -/
namespace Go.Lx
open Go Go.RowKit
set_option linter.unusedSimpArgs false
set_option linter.unusedVariables false
set_option linter.unnecessarySimpa false
def Wr (T e : TypeId) (D : Nat → Prop) (w : World) (v : Value) (l : List UInt8) : Prop := ∃ b u, v = .pointer (some ⟨b, 0, none⟩) ∧ D b ∧ Box w b T [u] ∧ Own encB 1 e (fun g => D g ∧ g ≠ b) w u l
section
variable {T e : TypeId} {D D' : Nat → Prop} {γ : Prop} {w w' : World} {v : Value} {l : List UInt8}
theorem Wr.keepD (h : Wr T e D w v l) (x : Bel γ D' w w') (hd : ∀ g, g < w.heap.size → D g → ¬ D' g) : Wr T e D w' v l :=
  let ⟨b, u, h1, h2, h3, h4⟩ := h
  ⟨b, u, h1, h2, h3.keep x (hd b h3.lt h2), h4.keepD x fun g hg hD => hd g hg hD.1⟩
theorem Wr.ext (h : Wr T e D w v l) (x : Ext γ w w') : Wr T e D w' v l := h.keepD x fun _ _ _ => id
theorem Wr.mono (h : Wr T e D w v l) (hd : ∀ g, g < w.heap.size → D g → D' g) : Wr T e D' w v l :=
  let ⟨b, u, h1, h2, h3, h4⟩ := h
  ⟨b, u, h1, hd b h3.lt h2, h3, h4.mono fun g hg hD => ⟨hd g hg hD.1, hD.2⟩⟩
end
section
variable {P : Program} {fr : Fr} {w : World} {d : Option Nat} {t : TypeId} {ps : String} {af : Array Edge} {g : Option (Nat × Bool)} {x y z : Operand} {T U : TypeId}
theorem wrapU8 (n : Nat) : IntKind.u8.wrap (n : Int) = ((UInt8.ofNat n).toNat : Int) := by
  rw [UInt8.toNat_ofNat']
  simp [IntKind.wrap, IntKind.bits, IntKind.signed]
theorem o_convUB {a : W64} (hP : P.underlying T = some (.int .u64)) (hP' : P.underlying U = some (.int .u8)) (hx : ev fr x = u64 a) : xop P fr w ⟨d, .convert T U x, t, ps, af, g⟩ = .ok (.value (.int .u8 ((UInt8.ofNat a.toNat).toNat : Int))) w := by
  have h := o_conv (w := w) (d := d) (t := t) (ps := ps) (af := af) (g := g) (k' := .u8) hP hP' hx
  rw [wrapU8] at h
  exact h
theorem o_convI {i : Int} (hP : P.underlying T = some (.int .i64)) (hP' : P.underlying U = some (.int .u64)) (hx : ev fr x = .int .i64 i) (h0 : 0 ≤ i) (hl : i < 18446744073709551616) : xop P fr w ⟨d, .convert T U x, t, ps, af, g⟩ = .ok (.value (u64 (BitVec.ofNat 64 i.toNat))) w := by
  obtain ⟨n, rfl⟩ := Int.eq_ofNat_of_zero_le h0
  exact o_convV hP hP' hx (by omega)
def a31 (a : Int) : Int := ((BitVec.ofInt 64 a &&& 31#64).toNat : Int)
theorem o_borB {a b : UInt8} (hx : ev fr x = .int .u8 (a.toNat : Int)) (hy : ev fr y = .int .u8 (b.toNat : Int)) : xop P fr w ⟨d, .binOp .or T x y U, t, ps, af, g⟩ = .ok (.value (.int .u8 ((a ||| b).toNat : Int))) w := by
  have e1 : (BitVec.ofInt 8 (a.toNat : Int)) = a.toBitVec := by
    rw [BitVec.ofInt_natCast]; apply BitVec.eq_of_toNat_eq; rw [BitVec.toNat_ofNat]; exact Nat.mod_eq_of_lt a.toNat_lt
  have e2 : (BitVec.ofInt 8 (b.toNat : Int)) = b.toBitVec := by
    rw [BitVec.ofInt_natCast]; apply BitVec.eq_of_toNat_eq; rw [BitVec.toNat_ofNat]; exact Nat.mod_eq_of_lt b.toNat_lt
  have e : IntKind.u8.wrap ((BitVec.ofInt IntKind.u8.bits (a.toNat : Int) ||| BitVec.ofInt IntKind.u8.bits (b.toNat : Int)).toNat : Int) = ((a ||| b).toNat : Int) := by
    show IntKind.u8.wrap ((BitVec.ofInt 8 (a.toNat : Int) ||| BitVec.ofInt 8 (b.toNat : Int)).toNat : Int) = _
    rw [e1, e2, ← UInt8.toBitVec_or]
    show IntKind.u8.wrap (((a ||| b).toNat : Nat) : Int) = _
    rw [wrapU8, UInt8.ofNat_toNat]
  simp only [xop, execOp, hx, hy, eqGuard, binOp, Op.intBits]
  simp only [e]; simp
end
def postOwnAt {α : Type} (enc : α → List Value) (k : Nat) (e : TypeId) (kc : Nat) (u : Value) (l : List α) : PostC := fun _ w c => Own enc k e (fun b => c b = kc) w u l
theorem postOwnAt_stable {α : Type} {enc : α → List Value} {k kc : Nat} {e : TypeId} {u : Value} {l : List α} : StableC kc (postOwnAt enc k e kc u l) := fun v w c w' c' q hq hx hp => postOwn_stable u w c w' c' q hq hx hp
theorem OpC_elst {α : Type} {enc : α → List Value} {k : Nat} {e U : TypeId} {β : Prop} {P : Program} {fr : Fr} {w : World} {c : Nat → Nat} {ops : Array Oper} {ty : TypeId} {pos : String} {after : Array Edge} {kc : Nat} {x y : Operand} {v : Value} {l : List α} {a : Option Addr} {cp i m : Nat} {u : α} (h0 : kc ≠ 0)
    (he : EncOk enc k) (hs : ∀ w, (sizeOf U).run P w = .ok k w) (hx : ev fr x = .pointer (elp a (i * k))) (hy : ev fr y = v) (hv : v.cells.toList = enc u) (ho : Own enc k e (fun g => c g = kc) w (.slice a m cp) l) (hi : i < l.length) :
    OpC β kc P ops ⟨none, .store U x y, ty, pos, after, none⟩ fr w c (postOwnAt enc k e kc (.slice a m cp) (l.set i u)) := by
  rcases ho.row.2 with ⟨h1, h2⟩ | ⟨g, cap, cur, h1, h2, h3, h4, h5, h6, h7⟩
  · omega
  · have hsl : a = some ⟨g, 0, none⟩ ∧ m = l.length ∧ cp = cap := by simp at h1; exact h1
    obtain ⟨rfl, rfl, rfl⟩ := hsl
    rw [elp_some, Nat.zero_add] at hx
    have hlk : l.length * k ≤ cur.size := by rw [h6]; exact Nat.mul_le_mul_right _ h4
    have hik : i * k + k ≤ l.length * k := by rw [← Nat.succ_mul]; exact Nat.mul_le_mul_right _ hi
    have hvl : v.cells.toList.length = k := by rw [hv, he.len]
    have hst := run_storeCells_at (P := P) g (i * k) e v.cells.toList 0 cur w h3 (by rw [hvl]; omega) (by rw [hv]; exact he.one u)
    simp only [Nat.add_zero, hvl] at hst
    have hsz : v.cells.size = k := by rw [← Array.length_toList]; exact hvl
    have hcg : c g = kc := ho.loc g rfl
    refine .inl ⟨rfl, .inl ⟨lkV _ fr, w.setRow g (cur.toList.take (i * k) ++ v.cells.toList ++ cur.toList.drop (i * k + k)).toArray, c, .inr ⟨?_, rfl⟩, ⟨⟨rfl, rfl, rfl, by simp, fun j _ hj => setRow_other w g j _ (fun e => hj ⟨h0, by subst e; exact hcg⟩), fun _ => Nat.le_refl _⟩, fun _ _ => rfl⟩, ?_⟩⟩
    · simp [execOp, hx, hy, Instr.storeAt, Instr.sureAddr, storeVar, hs, hsz, hst]
    · have hcl : (cur.toList.take (i * k) ++ v.cells.toList ++ cur.toList.drop (i * k + k)).length = cur.size := by
        simp only [List.length_append, hvl, List.length_take, List.length_drop, Array.length_toList]; omega
      refine ⟨⟨by rw [fm_len he], .inr ⟨g, cp, _, by simp, h2, setRow_heap w g cur _ e _ h3, by simpa using h4, h5, by rw [List.size_toArray, hcl, h6], ?_⟩⟩, ho.loc⟩
      rw [List.length_set, List.toList_toArray, set_flat he hi, ← hv]
      have t1 : cur.toList.take (i * k) = (l.flatMap enc).take (i * k) := by rw [← h7, List.take_take]; congr 1; omega
      have t2 : (l.flatMap enc).drop (i * k + k) = (cur.toList.drop (i * k + k)).take (l.length * k - (i * k + k)) := by rw [← h7, List.drop_take]
      rw [t1, t2]
      have hA : ((l.flatMap enc).take (i * k) ++ v.cells.toList).length = i * k + k := by
        rw [List.length_append, hvl, List.length_take, fm_len he]; omega
      rw [List.take_append, hA, List.take_of_length_le (by rw [hA]; exact hik)]
section
variable {rd : Option Nat} {P : Program} {n : Nat} {K : Fr → World → Prop} {fr : Fr} {w : World} {l : List UInt8} {T U e : TypeId} {x : Operand} {a : Option Addr} {c : Nat} {F : Nat → Prop}
theorem o_bs {d : Option Nat} {t : TypeId} {ps : String} {af : Array Edge} {g : Option (Nat × Bool)} (hP : P.underlying T = some (.slice e)) (he : P.underlying e = some (.int .u8)) (hU : P.underlying U = some .string) (hx : ev fr x = .slice a l.length c) (hs : Sl encB 1 F w a c l) :
    xop P fr w ⟨d, .convert T U x, t, ps, af, g⟩ = .ok (.value (str l)) w := by
  have key : (convert T U (.slice a l.length c)).run P w = .ok (str l) w := by
    cases a with
    | none =>
      have h0 : c = 0 := hs.nil rfl
      have h1 := hs.le
      have h2 : l = [] := List.eq_nil_of_length_eq_zero (by omega)
      subst h2
      rw [run_convert_bytes_string w T U e none _ c hP he hU]
      simp [Conv.bytesToString, str]
      rfl
    | some ad =>
      refine run_convert_bytes_back w T U e ad c l hP he hU fun j hj => ?_
      have hne : l ≠ [] := by rintro rfl; simp at hj
      obtain ⟨b, off, h1, h2, h3⟩ := hs.cells encB_ok hne
      simp only [Option.some.injEq] at h1
      subst h1
      have hfm : (l.flatMap encB)[j]? = some (.int .u8 (l[j].toNat : Int)) := by
        have h4 := fm_get (i := j) (x := l[j]) encB_ok (List.getElem?_eq_getElem hj) 0 (by decide)
        simpa [encB] using h4
      have := h3 j _ hfm
      unfold Addr.add
      by_cases h : j = 0
      · subst h; simpa using this
      · rw [if_neg h]; exact this
  simp only [xop, execOp, hx, key, eqGuard]
  simp [key]
theorem Rg_sb {ops : Array Oper} {rest : List Oper} {d : Option Nat} {ty : TypeId} {pos : String} {af : Array Edge} (hd : dstOk n d = true) (hP : P.underlying T = some .string) (hU : P.underlying U = some (.slice e)) (he : P.underlying e = some (.int .u8)) (hx : ev fr x = str l) (hl : l.length ≤ 100000000)
    (hk : ∀ a' c' w', Ext False w w' → Sl encB 1 (fun g => w.heap.size ≤ g) w' a' c' l → Rg rd P n ops rest K (fr.put d (.slice a' l.length c')) w') :
    Rg rd P n ops (⟨d, .convert T U x, ty, pos, af, none⟩ :: rest) K fr w := by
  have hrun := run_bytes_of_string (P := P) w T U e ⟨l.toArray⟩ hP hU he
  have hsz : (⟨l.toArray⟩ : ByteArray).size = l.length := by simp [ByteArray.size]
  rw [hsz] at hrun
  refine Rg_run hd (v := .slice (some ⟨w.heap.size, 0, none⟩) l.length (grownCap w l.length 0 e)) (w' := w.drew.alloc (.cells (bytesRow ⟨l.toArray⟩ (grownCap w l.length 0 e)) e ((bytesRow ⟨l.toArray⟩ (grownCap w l.length 0 e)).size, (bytesRow ⟨l.toArray⟩ (grownCap w l.length 0 e)).size + 1))) ?_ (hk _ _ _ ((Ext.drew w).ex (Ext.alloc _ _)) ?_)
  · simp only [execOp, hx, str]
    simp [hrun]
  · refine ⟨grownCap_ge _ _ _ _, grownCap_le_maxLen _ _ _ _ (by unfold maxLen; omega), (fun h => by cases h), fun i v hi => ?_⟩
    have hil := (List.getElem?_eq_some_iff.1 hi).1
    refine ⟨w.heap.size, 0, rfl, ⟨Nat.le_refl _, by show w.heap.size < (w.heap.push _).size; rw [Array.size_push]; exact Nat.lt_succ_self _⟩, ?_, rfl⟩
    intro j u hj
    have hj0 : j = 0 := by
      have := (List.getElem?_eq_some_iff.1 hj).1
      simp [encB] at this; omega
    subst hj0
    have hu : u = .int .u8 (v.toNat : Int) := by simp [encB] at hj; exact hj.symm
    have hc := World.cell?_alloc_mark w.drew (bytesRow ⟨l.toArray⟩ (grownCap w l.length 0 e)) e ((bytesRow ⟨l.toArray⟩ (grownCap w l.length 0 e)).size, (bytesRow ⟨l.toArray⟩ (grownCap w l.length 0 e)).size + 1) i
    have hb := bytesRow_at ⟨l.toArray⟩ (grownCap w l.length 0 e) i (by simpa using hil)
    rw [hb] at hc
    rw [hu]
    have e1 : l[i] = v := by simpa using (List.getElem?_eq_some_iff.1 hi).2
    simp only [Nat.mul_one, Nat.zero_add, Nat.add_zero]
    simpa [e1] using hc
end
def OwA {α : Type} (enc : α → List Value) (k : Nat) (e : TypeId) (w : World) (g : Nat) (v : Value) (l : List α) : Prop := Own enc k e (fun b => b = g) w v l ∧ v.ownBlock = some g ∧ g < w.heap.size
section
variable {α : Type} {enc : α → List Value} {k kc : Nat} {e : TypeId} {D : Nat → Prop} {w w' : World} {g : Nat} {v : Value} {l : List α} {c : Nat → Nat}
theorem OwA.lt (h : OwA enc k e w g v l) : g < w.heap.size := h.2.2
theorem OwA.col (h : OwA enc k e w g v l) (hc : c g = kc) : Own enc k e (fun b => c b = kc) w v l := h.1.mono fun b _ hb => by subst hb; exact hc
theorem OwA.blk (h : OwA enc k e w g v l) (hb : w'.heap[g]? = w.heap[g]?) : OwA enc k e w' g v l := by
  obtain ⟨⟨hr, hl⟩, ho, hlt⟩ := h
  have hlt' : g < w'.heap.size := by
    rw [Array.getElem?_eq_getElem hlt] at hb
    exact (Array.getElem?_eq_some_iff.1 hb).1
  refine ⟨⟨⟨hr.1, ?_⟩, hl⟩, ho, hlt'⟩
  rcases hr.2 with ⟨h1, h2⟩ | ⟨g', cap, cur, h1, h2, h3, h4⟩
  · exact .inl ⟨h1, h2⟩
  · have e1 : g' = g := by rw [h1] at ho; simpa [Value.ownBlock] using ho
    subst e1
    exact .inr ⟨g', cap, cur, h1, h2, hb.trans h3, h4⟩
theorem Own.blk0 (h : Own enc k e D w v l) (hne : l ≠ []) : ∃ g, v.ownBlock = some g ∧ D g ∧ OwA enc k e w g v l := by
  obtain ⟨g, c, rfl⟩ := h.sm hne
  have hg : (Value.slice (some ⟨g, 0, none⟩) l.length c).ownBlock = some g := rfl
  exact ⟨g, hg, h.loc g hg, h.at (fun b _ hb => by rw [hg] at hb; cases hb; rfl), hg, h.lt g hg⟩
end
end Go.Lx
/- The bytes of grants; the order of grants does not matter: plain law. Nothing of a program stands here. -/
namespace Go.Lx
open Go
set_option linter.unusedSimpArgs false
set_option linter.unusedVariables false
def entB (e : Ent) : List UInt8 := putU (iW e.r) ++ putB e.p.act ++ putB e.p.path ++ [putF e.p.deep]
def gbytesK (m : List Ent) (k : Nat) : List UInt8 := putU (BitVec.ofNat 64 m.length) ++ (m.take k).flatMap entB
def gbytes (m : List Ent) : List UInt8 := putU (BitVec.ofNat 64 m.length) ++ m.flatMap entB
theorem gbytesK_zero (m : List Ent) : gbytesK m 0 = putU (BitVec.ofNat 64 m.length) := by simp [gbytesK]
theorem gbytesK_end {m : List Ent} {k : Nat} (h : m.length ≤ k) : gbytesK m k = gbytes m := by rw [gbytesK, List.take_of_length_le h, gbytes]
theorem gbytesK_succ {m : List Ent} {k : Nat} (h : k < m.length) : gbytesK m (k + 1) = (((gbytesK m k ++ putU (iW (m.getD k ez).r)) ++ putB (m.getD k ez).p.act) ++ putB (m.getD k ez).p.path) ++ [putF (m.getD k ez).p.deep] := by
  have e : m[k] = m.getD k ez := by simp [List.getD, h]
  rw [gbytesK, gbytesK, List.take_succ_eq_append_getElem h, List.flatMap_append, e]
  simp [entB, List.append_assoc]
theorem putB_lenG (l : List UInt8) : (putB l).length ≤ 11 + l.length := by
  rw [putB, List.length_append]
  have := putU_len (BitVec.ofNat 64 l.length); omega
theorem entB_len {e : Ent} (h : e.p.ok) : (entB e).length ≤ 2000040 := by
  rw [entB, List.length_append, List.length_append, List.length_append]
  have h1 := putU_len (iW e.r); have h2 := putB_lenG e.p.act; have h3 := putB_lenG e.p.path
  have h4 := h.1; have h5 := h.2
  simp; omega
theorem fmE_len {m : List Ent} (h : ∀ e ∈ m, e.p.ok) : (m.flatMap entB).length ≤ 2000040 * m.length := by
  induction m with
  | nil => simp
  | cons s m ih =>
    rw [List.flatMap_cons, List.length_append, List.length_cons]
    have h1 := entB_len (h s (by simp)); have h2 := ih (fun e he => h e (by simp [he])); omega
theorem gbytesK_len {m : List Ent} (hm : ∀ e ∈ m, e.p.ok) (k : Nat) (h : m.length ≤ 14) : (gbytesK m k).length ≤ 29000000 := by
  rw [gbytesK, List.length_append]
  have h1 := putU_len (BitVec.ofNat 64 m.length)
  have h2 := fmE_len (m := m.take k) (fun e he => hm e (List.mem_of_mem_take he))
  have h3 : (m.take k).length ≤ m.length := by simp; omega
  omega
def grL (l : List Ent) : List Ent := l.foldl (fun m e => (grantR m e).1) []
def okE (e : Ent) : Prop := ¬ (e.r < 1 ∨ 63 < e.r) ∧ checkS e.p = 0
theorem grL_snoc (l : List Ent) (e : Ent) : grL (l ++ [e]) = (grantR (grL l) e).1 := by simp [grL]
theorem grantR_len (m : List Ent) (e : Ent) : (grantR m e).1.length ≤ m.length + 1 := by
  unfold grantR
  (repeat' split) <;> simp [insGo_lenG]
theorem grantR_mem {m : List Ent} (hl : m.length < 1000) {e x : Ent} : x ∈ (grantR m e).1 ↔ x ∈ m ∨ (x = e ∧ okE x) := by
  unfold grantR okE
  split
  · rename_i h
    exact ⟨.inl, fun q => q.elim id fun q => absurd (q.1 ▸ h) q.2.1⟩
  split
  · rename_i h h2
    exact ⟨.inl, fun q => q.elim id fun q => absurd (q.1 ▸ q.2.2) h2⟩
  split
  · rename_i h h2 h3
    exact ⟨.inl, fun q => q.elim id fun q => q.1 ▸ h3⟩
  split
  · omega
  · rename_i h h2 h3 h4
    show x ∈ insGo cmpE e m ↔ _
    rw [insGo_mem]
    constructor
    · rintro (rfl | q)
      · exact .inr ⟨rfl, h, Classical.byContradiction h2⟩
      · exact .inl q
    · rintro (q | q)
      · exact .inr q
      · exact .inl q.1
theorem grF : ∀ (l m : List Ent), m.length + l.length < 1000 → ∀ x, x ∈ l.foldl (fun m e => (grantR m e).1) m ↔ x ∈ m ∨ (x ∈ l ∧ okE x)
  | [], m, _, x => by simp
  | e :: l, m, h, x => by
    simp only [List.length_cons] at h
    rw [List.foldl_cons, grF l _ (by have := grantR_len m e; omega) x, grantR_mem (by omega), List.mem_cons]
    constructor
    · rintro ((q | q) | q)
      · exact .inl q
      · exact .inr ⟨.inl q.1, q.2⟩
      · exact .inr ⟨.inr q.1, q.2⟩
    · rintro (q | ⟨q | q, r⟩)
      · exact .inl (.inl q)
      · exact .inl (.inr ⟨q, r⟩)
      · exact .inr ⟨q, r⟩
theorem grL_ok {l : List Ent} (h : ∀ e ∈ l, e.p.ok) : OkG (grL l) := by
  have aux : ∀ (l m : List Ent), (∀ e ∈ l, e.p.ok) → OkG m → OkG (l.foldl (fun m e => (grantR m e).1) m) := by
    intro l
    induction l with
    | nil => intro m _ hm; exact hm
    | cons e l ih => intro m h hm; exact ih _ (fun x hx => h x (by simp [hx])) (hm.grant (h e (by simp)))
  exact aux l [] h OkG.nil
theorem grL_len (l : List Ent) : (grL l).length ≤ l.length := by
  have aux : ∀ (l m : List Ent), (l.foldl (fun m e => (grantR m e).1) m).length ≤ m.length + l.length := by
    intro l
    induction l with
    | nil => intro m; simp
    | cons e l ih => intro m; have h1 := ih (grantR m e).1; have h2 := grantR_len m e; simp only [List.foldl_cons, List.length_cons]; omega
  have := aux l []
  simpa [grL] using this
theorem asc_uniq {a b : List Ent} (ha : OkG a) (hb : OkG b) (h : ∀ x, x ∈ a ↔ x ∈ b) : a = b := by
  have aux : ∀ (a b : List Ent), a.Pairwise (fun x y => cmpE x y < 0) → b.Pairwise (fun x y => cmpE x y < 0) → (∀ e ∈ a, Ve e) → (∀ e ∈ b, Ve e) → (∀ x, x ∈ a ↔ x ∈ b) → a = b := by
    intro a
    induction a with
    | nil =>
      intro b _ _ _ _ h
      cases b with
      | nil => rfl
      | cons y b => exact absurd ((h y).2 (by simp)) (by simp)
    | cons x a ih =>
      intro b pa pb va vb h
      cases b with
      | nil => exact absurd ((h x).1 (by simp)) (by simp)
      | cons y b =>
        rw [List.pairwise_cons] at pa pb
        have irr : ∀ z, Ve z → ¬ cmpE z z < 0 := fun z hz => by have := (cmpE_eq hz hz).2 rfl; omega
        have exy : x = y := by
          rcases List.mem_cons.1 ((h x).1 (by simp)) with e | e
          · exact e
          · rcases List.mem_cons.1 ((h y).2 (by simp)) with f | f
            · exact f.symm
            · exact absurd (cmpE_tr (va x (by simp)) (vb y (by simp)) (va x (by simp)) (pa.1 y f) (pb.1 x e)) (irr x (va x (by simp)))
        subst exy
        rw [ih b pa.2 pb.2 (fun e he => va e (by simp [he])) (fun e he => vb e (by simp [he])) (fun z => ?_)]
        constructor
        · intro hz
          rcases List.mem_cons.1 ((h z).1 (by simp [hz])) with e | e
          · subst e; exact absurd (pa.1 z hz) (irr z (va z (by simp)))
          · exact e
        · intro hz
          rcases List.mem_cons.1 ((h z).2 (by simp [hz])) with e | e
          · subst e; exact absurd (pb.1 z hz) (irr z (vb z (by simp)))
          · exact e
  exact aux a b ha.asc hb.asc ha.ve hb.ve h
def tix (n t i : Nat) : Nat := n - 1 - (i + t) % n
theorem tix_lt {n t i : Nat} (h : i < n) : tix n t i < n := by unfold tix; omega
theorem tix_onto {n t j : Nat} (h : j < n) : ∃ i, i < n ∧ tix n t i = j := by
  have hn : 0 < n := by omega
  refine ⟨(n - 1 - j + (n - t % n)) % n, Nat.mod_lt _ hn, ?_⟩
  have hr := Nat.mod_lt t hn
  have e : ((n - 1 - j + (n - t % n)) % n + t) % n = n - 1 - j := by
    rw [Nat.mod_add_mod, ← Nat.add_mod_mod, Nat.add_assoc, show n - t % n + t % n = n by omega, Nat.add_mod_right, Nat.mod_eq_of_lt (by omega)]
  unfold tix
  rw [e]; omega
def ordA (l : List GOp) (k : Nat) : List Ent := (l.take k).map GOp.ent
def ordB (l : List GOp) (t k : Nat) : List Ent := (List.range k).map fun i => (l.getD (tix l.length t i) goz).ent
theorem ordA_succ {l : List GOp} {k : Nat} (h : k < l.length) : grL (ordA l (k + 1)) = (grantR (grL (ordA l k)) (l.getD k goz).ent).1 := by
  have e : l[k] = l.getD k goz := by simp [List.getD, h]
  rw [ordA, List.take_succ_eq_append_getElem h, List.map_append, e]
  exact grL_snoc _ _
theorem ordB_succ (l : List GOp) (t k : Nat) : grL (ordB l t (k + 1)) = (grantR (grL (ordB l t k)) (l.getD (tix l.length t k) goz).ent).1 := by
  rw [ordB, List.range_succ, List.map_append]
  exact grL_snoc _ _
theorem ordA_ok (l : List GOp) (k : Nat) : OkG (grL (ordA l k)) := grL_ok fun e he => by
  obtain ⟨o, _, rfl⟩ := List.mem_map.1 he
  exact o.okp
theorem ordB_ok (l : List GOp) (t k : Nat) : OkG (grL (ordB l t k)) := grL_ok fun e he => by
  obtain ⟨i, _, rfl⟩ := List.mem_map.1 he
  exact GOp.okp _
theorem ordA_len (l : List GOp) (k : Nat) : (grL (ordA l k)).length ≤ k := by
  have h1 := grL_len (ordA l k)
  have h2 : (ordA l k).length ≤ k := by simp [ordA]; omega
  omega
theorem ord_same (l : List GOp) (t : Nat) (hl : l.length ≤ 12) : grL (ordA l l.length) = grL (ordB l t l.length) := by
  refine asc_uniq (ordA_ok _ _) (ordB_ok _ _ _) fun x => ?_
  rw [grL, grL, grF _ _ (by simp [ordA]; omega), grF _ _ (by simp [ordB]; omega)]
  refine or_congr Iff.rfl (and_congr_left fun _ => ?_)
  rw [ordA, ordB, List.take_of_length_le (Nat.le_refl _), List.mem_map, List.mem_map]
  constructor
  · rintro ⟨o, ho, rfl⟩
    obtain ⟨j, hj, rfl⟩ := List.mem_iff_getElem.1 ho
    obtain ⟨i, hi, he⟩ := tix_onto (t := t) hj
    exact ⟨i, List.mem_range.2 hi, by rw [he]; simp [List.getD, hj]⟩
  · rintro ⟨i, hi, rfl⟩
    have h1 := tix_lt (t := t) (List.mem_range.1 hi)
    exact ⟨l.getD (tix l.length t i) goz, by simp [List.getD, h1], rfl⟩
end Go.Lx
