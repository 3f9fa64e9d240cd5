/- Several texts in one file. -/
import Derived.Test.YtjnjalalkbamkaaGreatDoorLk
import Derived.Test.YtjnjalalkbamkaaGreatDoorPure11f
import Derived.Test.YtjnjalalkbamkaaGreatDoorNorm
import Derived.Lib.BitFns
import Derived.Test.YtjnjalalkbamkaaGreatDoorOwn2
import Derived.Test.YtjnjalalkbamkaaGreatDoorDrawC
import Derived.Laws.IdiomStrings
set_option linter.unusedSimpArgs false
set_option linter.unusedVariables false
set_option linter.unnecessarySimpa false
/- Which role implies which. Nothing of a program stands here. -/
namespace Go.Lx
open Go
def ImpP (L : List Pr) (r s : Int) : Prop := ∃ a b : Fin 64, r = iv a ∧ s = iv b ∧ 1 ≤ a.val ∧ 1 ≤ b.val ∧ (b = a ∨ Rch L a b)
noncomputable def impLk (L : List Pr) (r s : Int) : Bool := @decide (ImpP L r s) (Classical.propDecidable _)
def HyO (F : Nat → Prop) (w : World) (v : Value) (imp : Int → Int → Bool) : Prop := (∃ L ph po o, v = .pointer (some ⟨ph, 0, none⟩) ∧ F ph ∧ At w ph 0 [.pointer (some ⟨po, 0, none⟩)] ∧ OdAt F w po o ∧ HOk o L ∧ imp = impLk L) ∨ v = .pointer none ∧ imp = fun _ _ => false
section
variable {F F' D : Nat → Prop} {γ : Prop} {w w' : World} {v : Value} {imp : Int → Int → Bool}
theorem HyO.keep (h : HyO F w v imp) (x : Bel γ D w w') (hd : ∀ b, b < w.heap.size → F b → ¬ D b) : HyO F w' v imp :=
 h.imp (fun ⟨L, ph, po, o, h1, h2, h3, h4, h5⟩ => ⟨L, ph, po, o, h1, h2, h3.keep x (hd ph h3.lt h2), h4.keep x hd, h5⟩) id
theorem HyO.ext (h : HyO F w v imp) (x : Ext γ w w') : HyO F w' v imp := h.keep x fun _ _ _ => id
theorem HyO.mono (h : HyO F w v imp) (hd : ∀ b, b < w.heap.size → F b → F' b) : HyO F' w v imp :=
 h.imp (fun ⟨L, ph, po, o, h1, h2, h3, h4, h5⟩ => ⟨L, ph, po, o, h1, hd ph h3.lt h2, h3, h4.mono hd, h5⟩) id
theorem HyO.none : HyO (fun _ => False) w (.pointer none) (fun _ _ => false) := .inr ⟨rfl, rfl⟩
end
end Go.Lx
/- What the statements about grants need. Nothing of a program stands here. -/
namespace Go.Lx
open Go
end Go.Lx
/- What the walks ask of this program's types of grants. -/
namespace Go.Proofs.YtjnjalalkbamkaaGreatDoor
open Go Go.Lx
set_option maxRecDepth 10000
theorem eqF_consA {P : Program} {d k : Nat} {xs ys a b : Array Value} {f : Field} {fs : List Field} {r r' : Bool} (hn : f.name ≠ "_") (ha : ∀ w, (isAgg f.type).run P w = .ok true w) (hs : ∀ w, (sizeOf f.type).run P w = .ok k w) (hx : xs.extract f.offset (f.offset + k) = a) (hy : ys.extract f.offset (f.offset + k) = b)
  (he : ∀ w, (Op.equalIn d f.type (.agg a) (.agg b)).run P w = .ok r w) (hr : ∀ w, (Op.eqFields d xs ys fs).run P w = .ok r' w) : ∀ w, (Op.eqFields d xs ys (f :: fs)).run P w = .ok (r && r') w := by
 intro w
 simp only [Op.eqFields, hn, ne_eq, not_false_eq_true, if_true, Sem.run_bind, part, ha, hs, Result.andThen_ok, hx, hy, Sem.run_pure, he]
 cases r
 ·simp
 ·simp [hr]
theorem el_ent : ElT Tryz.prog 173 218 4 48 (.agg #[.int .i64 0, .string ⟨#[]⟩, .string ⟨#[]⟩, .bool false]) := ⟨Tryz.underlying173, ⟨Tryz.t218, by kernel_rfl, rfl, rfl, rfl⟩, rfl, by decide, by decide⟩
end Go.Proofs.YtjnjalalkbamkaaGreatDoor
/- The bytes of numbers and sets, as the wire has them: plain law. Nothing of a program stands here. -/
namespace Go.Lx
open Go
def b7 (x : W64) : UInt8 := UInt8.ofNat (x &&& 127#64).toNat
theorem shr7_lt {x : W64} (h : x ≠ 0) : (x >>> 7).toNat < x.toNat := by
 have : x.toNat ≠ 0 := fun e => h (BitVec.eq_of_toNat_eq e)
 rw [BitVec.toNat_ushiftRight, Nat.shiftRight_eq_div_pow]; omega
def gT (x : W64) : List UInt8 := if h : x = 0 then [] else (b7 x ||| 128) :: gT (x >>> 7)
termination_by x.toNat
decreasing_by exact shr7_lt h
theorem gT_zero : gT 0 = [] := by rw [gT]; simp
theorem gT_some {x : W64} (h : x ≠ 0) : gT x = (b7 x ||| 128) :: gT (x >>> 7) := by rw [gT, dif_neg h]
def putU (x : W64) : List UInt8 := (b7 x :: gT (x >>> 7)).reverse
theorem b7_nat (x : W64) : (b7 x).toNat = x.toNat % 128 := by
 have h : (x &&& 127#64).toNat = x.toNat % 128 := by
  rw [BitVec.toNat_and]
  show x.toNat &&& 127 = _
  exact Nat.and_two_pow_sub_one_eq_mod x.toNat 7
 rw [b7, h, UInt8.toNat_ofNat']
 omega
theorem b8_nat (c : UInt8) (h : c.toNat < 128) : (c ||| 128).toNat = c.toNat + 128 := by
 rw [UInt8.toNat_or]
 show c.toNat ||| 128 = _
 have h1 := Nat.two_pow_add_eq_or_of_lt (i := 7) (b := c.toNat) h 1
 rw [Nat.or_comm]
 simp only [Nat.mul_one] at h1
 show 2 ^ 7 ||| c.toNat = _
 rw [← h1]; omega
def gVal : List UInt8 → Nat
 | [] => 0
 | c :: l => c.toNat % 128 + 128 * gVal l
theorem gVal_gT (x : W64) : gVal (gT x) = x.toNat := by
 rw [gT]
 split
 ·rename_i h; subst h; rfl
 ·rename_i h
  have h1 := gVal_gT (x >>> 7)
  have h2 := b7_nat x
  rw [gVal, h1, b8_nat _ (by omega), BitVec.toNat_ushiftRight, Nat.shiftRight_eq_div_pow, h2]
  omega
termination_by x.toNat
decreasing_by exact shr7_lt (by assumption)
theorem gT_ge (x : W64) : ∀ c ∈ gT x, 128 ≤ c.toNat := by
 rw [gT]
 split
 ·intro c hc; cases hc
 ·rename_i h
  have h1 := gT_ge (x >>> 7)
  intro c hc
  rcases List.mem_cons.1 hc with rfl | hc
  ·have := b7_nat x
   rw [b8_nat _ (by omega)]; omega
  ·exact h1 c hc
termination_by x.toNat
decreasing_by exact shr7_lt (by assumption)
theorem putU_val (x : W64) : gVal (b7 x :: gT (x >>> 7)) = x.toNat := by
 rw [gVal, gVal_gT, b7_nat, BitVec.toNat_ushiftRight, Nat.shiftRight_eq_div_pow]; omega
theorem putU_inj0 {x y : W64} (h : putU x = putU y) : x = y := by
 have h1 : b7 x :: gT (x >>> 7) = b7 y :: gT (y >>> 7) := List.reverse_inj.1 h
 have h2 := putU_val x
 rw [h1, putU_val] at h2
 exact BitVec.eq_of_toNat_eq h2.symm
theorem split_at {A B r s : List UInt8} {a b : UInt8} (hA : ∀ c ∈ A, 128 ≤ c.toNat) (hB : ∀ c ∈ B, 128 ≤ c.toNat) (ha : a.toNat < 128) (hb : b.toNat < 128) (h : A ++ a :: r = B ++ b :: s) : A = B ∧ a = b ∧ r = s := by
 induction A generalizing B with
 | nil =>
  cases B with
  | nil => simp at h; exact ⟨rfl, h.1, h.2⟩
  | cons c B =>
   simp at h
   have := hB c (by simp)
   rw [← h.1] at this; omega
 | cons d A ih =>
  cases B with
  | nil =>
   simp at h
   have := hA d (by simp)
   rw [h.1] at this; omega
  | cons c B =>
   simp at h
   obtain ⟨h1, h2, h3⟩ := ih (fun c hc => hA c (by simp [hc])) (fun c hc => hB c (by simp [hc])) h.2
   exact ⟨by rw [h.1, h1], h2, h3⟩
theorem putU_eq (x : W64) : putU x = (gT (x >>> 7)).reverse ++ [b7 x] := by rw [putU, List.reverse_cons]
theorem putU_inj {x y : W64} {r s : List UInt8} (h : putU x ++ r = putU y ++ s) : x = y ∧ r = s := by
 rw [putU_eq, putU_eq, List.append_assoc, List.append_assoc] at h
 have hx := b7_nat x; have hy := b7_nat y
 obtain ⟨h1, h2, h3⟩ := split_at (fun c hc => gT_ge _ c (by simpa using hc)) (fun c hc => gT_ge _ c (by simpa using hc)) (by omega) (by omega) h
 exact ⟨putU_inj0 (by rw [putU_eq, putU_eq, h1, h2]), h3⟩
theorem gT_len (x : W64) (k : Nat) (h : x.toNat < 2 ^ (7 * k)) : (gT x).length ≤ k := by
 induction k generalizing x with
 | zero =>
  have : x = 0 := BitVec.eq_of_toNat_eq (by simpa using h)
  rw [this, gT_zero]; simp
 | succ k ih =>
  by_cases hx : x = 0
  ·rw [hx, gT_zero]; simp
  ·rw [gT_some hx, List.length_cons]
   have := ih (x >>> 7) (by rw [BitVec.toNat_ushiftRight, Nat.shiftRight_eq_div_pow]; rw [Nat.mul_add, Nat.pow_add] at h; omega)
   omega
theorem QP (x : W64) : (putU x).length ≤ 11 := by
 have h := gT_len (x >>> 7) 10 (by have := (x >>> 7).isLt; omega)
 rw [putU_eq, List.length_append, List.length_reverse]; simp; omega
def byteW (x : W64) (k : Nat) : UInt8 := UInt8.ofNat (x >>> (8 * k)).toNat
structure RevI (l m : List UInt8) (i : Nat) : Prop where
 len : m.length = l.length
 le : 2 * i ≤ l.length + 1
 get : ∀ k, m[k]? = if k < i ∨ (l.length ≤ k + i ∧ k < l.length) then l[l.length - 1 - k]? else l[k]?
theorem RevI.start (l : List UInt8) : RevI l l 0 := ⟨rfl, by omega, fun k => by
 rw [if_neg (by omega)]⟩
theorem RevI.fin {l m : List UInt8} {i : Nat} (h : RevI l m i) (hi : l.length ≤ 2 * i + 1) : m = l.reverse := by
 refine List.ext_getElem? fun k => ?_
 rw [h.get k]
 by_cases hk : k < l.length
 ·rw [List.getElem?_reverse hk]
  split
  ·rfl
  ·have : k = l.length - 1 - k := by omega
   rw [← this]
 ·have h1 : l.reverse[k]? = none := by simp; omega
  rw [h1]
  split
  ·rename_i h2
   have := h.le
   have : l.length - 1 - k = 0 := by omega
   rcases Nat.eq_zero_or_pos l.length with h0 | h0
   ·simp [List.length_eq_zero_iff.1 h0]
   ·omega
  ·simp; omega
theorem RevI.step {l m : List UInt8} {i j : Nat} (h : RevI l m i) (hj : l.length = i + j + 1) (hij : i < j) : RevI l ((m.set i (m.getD j 0)).set j (m.getD i 0)) (i + 1) := by
 have hm := h.len
 refine ⟨by simp [hm], by omega, fun k => ?_⟩
 have h1 : m.getD j 0 = l.getD j 0 := by simp only [List.getD]; rw [h.get j, if_neg (by omega)]
 have h2 : m.getD i 0 = l.getD i 0 := by simp only [List.getD]; rw [h.get i, if_neg (by omega)]
 have gi : l[i]? = some (l.getD i 0) := by simp [List.getD, show i < l.length by omega]
 have gj : l[j]? = some (l.getD j 0) := by simp [List.getD, show j < l.length by omega]
 rw [h1, h2, List.getElem?_set, List.getElem?_set]
 by_cases e1 : j = k
 ·subst e1
  rw [if_pos rfl, if_pos (by simp; omega), if_pos (by omega), show l.length - 1 - j = i by omega, gi]
 ·rw [if_neg e1]
  by_cases e2 : i = k
  ·subst e2
   rw [if_pos rfl, if_pos (by omega), if_pos (by omega), show l.length - 1 - i = j by omega, gj]
  ·rw [if_neg e2, h.get k]
   by_cases c : k < i ∨ (l.length ≤ k + i ∧ k < l.length)
   ·rw [if_pos c, if_pos (by omega)]
   ·rw [if_neg c]
    by_cases c2 : k < i + 1 ∨ (l.length ≤ k + (i + 1) ∧ k < l.length)
    ·omega
    ·rw [if_neg c2]
structure BytI (x : W64) (n k : Nat) (m : List UInt8) : Prop where
 len : m.length = n
 get : ∀ j, j < k → m[j]? = some (byteW x j)
theorem BytI.start (x : W64) (n : Nat) : BytI x n 0 (List.replicate n 0) := ⟨by simp, fun j h => absurd h (Nat.not_lt_zero _)⟩
theorem BytI.step {x : W64} {n k : Nat} {m : List UInt8} (h : BytI x n k m) (hk : k < n) : BytI x n (k + 1) (m.set k (byteW x k)) := by
 have hl := h.len
 refine ⟨by simp [hl], fun j hj => ?_⟩
 rw [List.getElem?_set]
 by_cases e : k = j
 ·subst e; rw [if_pos rfl, if_pos (by omega)]
 ·rw [if_neg e]; exact h.get j (by omega)
theorem BytI.fin {x : W64} {n k : Nat} {m : List UInt8} (h : BytI x n k m) (hk : n ≤ k) : m = (List.range n).map (byteW x) := by
 refine List.ext_getElem? fun j => ?_
 by_cases hj : j < n
 ·rw [h.get j (by omega), List.getElem?_map, List.getElem?_range hj]; rfl
 ·rw [List.getElem?_eq_none (by rw [h.len]; omega), List.getElem?_eq_none (by simp; omega)]
def iW (i : Int) : W64 := BitVec.ofNat 64 i.toNat
def putF (b : Bool) : UInt8 := if b then 1 else 0
end Go.Lx
/- A writer of bytes in memory; the rules of its operations. Nothing of a program stands here. -/
namespace Go.Lx
open Go Go.RowKit
def Wr (T e : TypeId) (D : Nat → Prop) (w : World) (v : Value) (l : List UInt8) : Prop := ∃ b u, v = .pointer (some ⟨b, 0, none⟩) ∧ D b ∧ Box w b T [u] ∧ Own encB 1 e (fun g => D g ∧ g ≠ b) w u l
section
variable {T e : TypeId} {D D' : Nat → Prop} {γ : Prop} {w w' : World} {v : Value} {l : List UInt8}
theorem Wr.keepD (h : Wr T e D w v l) (x : Bel γ D' w w') (hd : ∀ g, g < w.heap.size → D g → ¬ D' g) : Wr T e D w' v l :=
 let ⟨b, u, h1, h2, h3, h4⟩ := h
 ⟨b, u, h1, h2, h3.keep x (hd b h3.lt h2), h4.keepD x fun g hg hD => hd g hg hD.1⟩
theorem Wr.ext (h : Wr T e D w v l) (x : Ext γ w w') : Wr T e D w' v l := h.keepD x fun _ _ _ => id
theorem Wr.mono (h : Wr T e D w v l) (hd : ∀ g, g < w.heap.size → D g → D' g) : Wr T e D' w v l :=
 let ⟨b, u, h1, h2, h3, h4⟩ := h
 ⟨b, u, h1, hd b h3.lt h2, h3, h4.mono fun g hg hD => ⟨hd g hg hD.1, hD.2⟩⟩
end
section
variable {P : Program} {fr : Fr} {w : World} {d : Option Nat} {t : TypeId} {ps : String} {af : Array Edge} {g : Option (Nat × Bool)} {x y z : Operand} {T U : TypeId}
theorem wrapU8 (n : Nat) : IntKind.u8.wrap (n : Int) = ((UInt8.ofNat n).toNat : Int) := by
 rw [UInt8.toNat_ofNat']
 simp [IntKind.wrap, IntKind.bits, IntKind.signed]
theorem o_convUB {a : W64} (hP : P.underlying T = some (.int .u64)) (hP' : P.underlying U = some (.int .u8)) (hx : ev fr x = u64 a) : xop P fr w ⟨d, .convert T U x, t, ps, af, g⟩ = .ok (.value (.int .u8 ((UInt8.ofNat a.toNat).toNat : Int))) w := by
 have h := o_conv (w := w) (d := d) (t := t) (ps := ps) (af := af) (g := g) (k' := .u8) hP hP' hx
 rw [wrapU8] at h
 exact h
theorem o_convI {i : Int} (hP : P.underlying T = some (.int .i64)) (hP' : P.underlying U = some (.int .u64)) (hx : ev fr x = .int .i64 i) (h0 : 0 ≤ i) (hl : i < 18446744073709551616) : xop P fr w ⟨d, .convert T U x, t, ps, af, g⟩ = .ok (.value (u64 (BitVec.ofNat 64 i.toNat))) w := by
 obtain ⟨n, rfl⟩ := Int.eq_ofNat_of_zero_le h0
 exact o_convV hP hP' hx (by omega)
def a31 (a : Int) : Int := ((BitVec.ofInt 64 a &&& 31#64).toNat : Int)
theorem o_bandB {a b : UInt8} (hx : ev fr x = .int .u8 (a.toNat : Int)) (hy : ev fr y = .int .u8 (b.toNat : Int)) : xop P fr w ⟨d, .binOp .and T x y U, t, ps, af, g⟩ = .ok (.value (.int .u8 ((a &&& b).toNat : Int))) w := by
 have e1 : (BitVec.ofInt 8 (a.toNat : Int)) = a.toBitVec := by
  rw [BitVec.ofInt_natCast]; apply BitVec.eq_of_toNat_eq; rw [BitVec.toNat_ofNat]; exact Nat.mod_eq_of_lt a.toNat_lt
 have e2 : (BitVec.ofInt 8 (b.toNat : Int)) = b.toBitVec := by
  rw [BitVec.ofInt_natCast]; apply BitVec.eq_of_toNat_eq; rw [BitVec.toNat_ofNat]; exact Nat.mod_eq_of_lt b.toNat_lt
 have e : IntKind.u8.wrap ((BitVec.ofInt IntKind.u8.bits (a.toNat : Int) &&& BitVec.ofInt IntKind.u8.bits (b.toNat : Int)).toNat : Int) = ((a &&& b).toNat : Int) := by
  show IntKind.u8.wrap ((BitVec.ofInt 8 (a.toNat : Int) &&& BitVec.ofInt 8 (b.toNat : Int)).toNat : Int) = _
  rw [e1, e2, ← UInt8.toBitVec_and]
  show IntKind.u8.wrap (((a &&& b).toNat : Nat) : Int) = _
  rw [wrapU8, UInt8.ofNat_toNat]
 simp only [xop, execOp, hx, hy, eqGuard, binOp, Op.intBits]
 simp only [e]; simp
theorem o_borB {a b : UInt8} (hx : ev fr x = .int .u8 (a.toNat : Int)) (hy : ev fr y = .int .u8 (b.toNat : Int)) : xop P fr w ⟨d, .binOp .or T x y U, t, ps, af, g⟩ = .ok (.value (.int .u8 ((a ||| b).toNat : Int))) w := by
 have e1 : (BitVec.ofInt 8 (a.toNat : Int)) = a.toBitVec := by
  rw [BitVec.ofInt_natCast]; apply BitVec.eq_of_toNat_eq; rw [BitVec.toNat_ofNat]; exact Nat.mod_eq_of_lt a.toNat_lt
 have e2 : (BitVec.ofInt 8 (b.toNat : Int)) = b.toBitVec := by
  rw [BitVec.ofInt_natCast]; apply BitVec.eq_of_toNat_eq; rw [BitVec.toNat_ofNat]; exact Nat.mod_eq_of_lt b.toNat_lt
 have e : IntKind.u8.wrap ((BitVec.ofInt IntKind.u8.bits (a.toNat : Int) ||| BitVec.ofInt IntKind.u8.bits (b.toNat : Int)).toNat : Int) = ((a ||| b).toNat : Int) := by
  show IntKind.u8.wrap ((BitVec.ofInt 8 (a.toNat : Int) ||| BitVec.ofInt 8 (b.toNat : Int)).toNat : Int) = _
  rw [e1, e2, ← UInt8.toBitVec_or]
  show IntKind.u8.wrap (((a ||| b).toNat : Nat) : Int) = _
  rw [wrapU8, UInt8.ofNat_toNat]
 simp only [xop, execOp, hx, hy, eqGuard, binOp, Op.intBits]
 simp only [e]; simp
end
def postOwnAt {α : Type} (enc : α → List Value) (k : Nat) (e : TypeId) (kc : Nat) (u : Value) (l : List α) : PostC := fun _ w c => Own enc k e (fun b => c b = kc) w u l
theorem postOwnAt_stable {α : Type} {enc : α → List Value} {k kc : Nat} {e : TypeId} {u : Value} {l : List α} : StableC kc (postOwnAt enc k e kc u l) := fun v w c w' c' q hq hx hp => Q1 u w c w' c' q hq hx hp
theorem OpC_elst {α : Type} {enc : α → List Value} {k : Nat} {e U : TypeId} {β : Prop} {P : Program} {fr : Fr} {w : World} {c : Nat → Nat} {ops : Array Oper} {ty : TypeId} {pos : String} {after : Array Edge} {kc : Nat} {x y : Operand} {v : Value} {l : List α} {a : Option Addr} {cp i m : Nat} {u : α} (h0 : kc ≠ 0)
  (he : EncOk enc k) (hs : ∀ w, (sizeOf U).run P w = .ok k w) (hx : ev fr x = .pointer (elp a (i * k))) (hy : ev fr y = v) (hv : v.cells.toList = enc u) (ho : Own enc k e (fun g => c g = kc) w (.slice a m cp) l) (hi : i < l.length) :
  OpC β kc P ops ⟨none, .store U x y, ty, pos, after, none⟩ fr w c (postOwnAt enc k e kc (.slice a m cp) (l.set i u)) := by
 rcases ho.row.2 with ⟨h1, h2⟩ | ⟨g, cap, cur, h1, h2, h3, h4, h5, h6, h7⟩
 ·omega
 ·have hsl : a = some ⟨g, 0, none⟩ ∧ m = l.length ∧ cp = cap := by simp at h1; exact h1
  obtain ⟨rfl, rfl, rfl⟩ := hsl
  rw [elp_some, Nat.zero_add] at hx
  have hlk : l.length * k ≤ cur.size := by rw [h6]; exact Nat.mul_le_mul_right _ h4
  have hik : i * k + k ≤ l.length * k := by rw [← Nat.succ_mul]; exact Nat.mul_le_mul_right _ hi
  have hvl : v.cells.toList.length = k := by rw [hv, he.len]
  have hst := run_storeCells_at (P := P) g (i * k) e v.cells.toList 0 cur w h3 (by rw [hvl]; omega) (by rw [hv]; exact he.one u)
  simp only [Nat.add_zero, hvl] at hst
  have hsz : v.cells.size = k := by rw [← Array.length_toList]; exact hvl
  have hcg : c g = kc := ho.loc g rfl
  refine .inl ⟨rfl, .inl ⟨lkV _ fr, w.setRow g (cur.toList.take (i * k) ++ v.cells.toList ++ cur.toList.drop (i * k + k)).toArray, c, .inr ⟨?_, rfl⟩, ⟨⟨rfl, rfl, rfl, by simp, fun j _ hj => setRow_other w g j _ (fun e => hj ⟨h0, by subst e; exact hcg⟩), fun _ => Nat.le_refl _⟩, fun _ _ => rfl⟩, ?_⟩⟩
  ·simp [execOp, hx, hy, Instr.storeAt, Instr.sureAddr, storeVar, hs, hsz, hst]
  ·have hcl : (cur.toList.take (i * k) ++ v.cells.toList ++ cur.toList.drop (i * k + k)).length = cur.size := by
    simp only [List.length_append, hvl, List.length_take, List.length_drop, Array.length_toList]; omega
   refine ⟨⟨by rw [fm_len he], .inr ⟨g, cp, _, by simp, h2, setRow_heap w g cur _ e _ h3, by simpa using h4, h5, by rw [List.size_toArray, hcl, h6], ?_⟩⟩, ho.loc⟩
   rw [List.length_set, List.toList_toArray, set_flat he hi, ← hv]
   have t1 : cur.toList.take (i * k) = (l.flatMap enc).take (i * k) := by rw [← h7, List.take_take]; congr 1; omega
   have t2 : (l.flatMap enc).drop (i * k + k) = (cur.toList.drop (i * k + k)).take (l.length * k - (i * k + k)) := by rw [← h7, List.drop_take]
   rw [t1, t2]
   have hA : ((l.flatMap enc).take (i * k) ++ v.cells.toList).length = i * k + k := by
    rw [List.length_append, hvl, List.length_take, fm_len he]; omega
   rw [List.take_append, hA, List.take_of_length_le (by rw [hA]; exact hik)]
section
variable {rd : Option Nat} {P : Program} {n : Nat} {K : Fr → World → Prop} {fr : Fr} {w : World} {l : List UInt8} {T U e : TypeId} {x : Operand} {a : Option Addr} {c : Nat} {F : Nat → Prop}
theorem o_bs {d : Option Nat} {t : TypeId} {ps : String} {af : Array Edge} {g : Option (Nat × Bool)} (hP : P.underlying T = some (.slice e)) (he : P.underlying e = some (.int .u8)) (hU : P.underlying U = some .string) (hx : ev fr x = .slice a l.length c) (hs : Sl encB 1 F w a c l) :
  xop P fr w ⟨d, .convert T U x, t, ps, af, g⟩ = .ok (.value (str l)) w := by
 have key : (convert T U (.slice a l.length c)).run P w = .ok (str l) w := by
  cases a with
  | none =>
   have h0 : c = 0 := hs.nil rfl
   have h1 := hs.le
   have h2 : l = [] := List.eq_nil_of_length_eq_zero (by omega)
   subst h2
   rw [run_convert_bytes_string w T U e none _ c hP he hU]
   simp [Conv.bytesToString, str]
   rfl
  | some ad =>
   refine run_convert_bytes_back w T U e ad c l hP he hU fun j hj => ?_
   have hne : l ≠ [] := by rintro rfl; simp at hj
   obtain ⟨b, off, h1, h2, h3⟩ := hs.cells QI hne
   simp only [Option.some.injEq] at h1
   subst h1
   have hfm : (l.flatMap encB)[j]? = some (.int .u8 (l[j].toNat : Int)) := by
    have h4 := fm_get (i := j) (x := l[j]) QI (List.getElem?_eq_getElem hj) 0 (by decide)
    simpa [encB] using h4
   have := h3 j _ hfm
   unfold Addr.add
   by_cases h : j = 0
   ·subst h; simpa using this
   ·rw [if_neg h]; exact this
 simp only [xop, execOp, hx, key, eqGuard]
 simp [key]
end
def OwA {α : Type} (enc : α → List Value) (k : Nat) (e : TypeId) (w : World) (g : Nat) (v : Value) (l : List α) : Prop := Own enc k e (fun b => b = g) w v l ∧ v.ownBlock = some g ∧ g < w.heap.size
section
variable {α : Type} {enc : α → List Value} {k kc : Nat} {e : TypeId} {D : Nat → Prop} {w w' : World} {g : Nat} {v : Value} {l : List α} {c : Nat → Nat}
theorem OwA.lt (h : OwA enc k e w g v l) : g < w.heap.size := h.2.2
theorem OwA.col (h : OwA enc k e w g v l) (hc : c g = kc) : Own enc k e (fun b => c b = kc) w v l := h.1.mono fun b _ hb => by subst hb; exact hc
theorem OwA.blk (h : OwA enc k e w g v l) (hb : w'.heap[g]? = w.heap[g]?) : OwA enc k e w' g v l := by
 obtain ⟨⟨hr, hl⟩, ho, hlt⟩ := h
 have hlt' : g < w'.heap.size := by
  rw [Array.getElem?_eq_getElem hlt] at hb
  exact (Array.getElem?_eq_some_iff.1 hb).1
 refine ⟨⟨⟨hr.1, ?_⟩, hl⟩, ho, hlt'⟩
 rcases hr.2 with ⟨h1, h2⟩ | ⟨g', cap, cur, h1, h2, h3, h4⟩
 ·exact .inl ⟨h1, h2⟩
 ·have e1 : g' = g := by rw [h1] at ho; simpa [Value.ownBlock] using ho
  subst e1
  exact .inr ⟨g', cap, cur, h1, h2, hb.trans h3, h4⟩
theorem Own.blk0 (h : Own enc k e D w v l) (hne : l ≠ []) : ∃ g, v.ownBlock = some g ∧ D g ∧ OwA enc k e w g v l := by
 obtain ⟨g, c, rfl⟩ := h.sm hne
 have hg : (Value.slice (some ⟨g, 0, none⟩) l.length c).ownBlock = some g := rfl
 exact ⟨g, hg, h.loc g hg, h.at (fun b _ hb => by rw [hg] at hb; cases hb; rfl), hg, h.lt g hg⟩
end
end Go.Lx
/- The bytes of grants; the order of grants does not matter: plain law. Nothing of a program stands here. -/
namespace Go.Lx
open Go
end Go.Lx
/- Reading numbers and byte strings from the front of bytes: plain law. Nothing of a program stands here. -/
namespace Go.Lx
open Go
def grp (v : W64) (b : UInt8) : W64 := (v <<< 7) ||| BitVec.ofNat 64 (b &&& 127).toNat
def numGo : Nat → W64 → List UInt8 → W64 × Nat
 | _, _, [] => (0, 0)
 | k, v, b :: r => if ((k == 0 && b == 128) || decide (144115188075855871 < v.toNat)) = true then (0, 0) else if b.toNat < 128 then (grp v b, k + 1) else numGo (k + 1) (grp v b) r
def numR (l : List UInt8) : W64 × Nat := numGo 0 0 l
theorem and127 (b : UInt8) : (b &&& 127).toNat = b.toNat % 128 := by
 rw [UInt8.toNat_and]
 exact Nat.and_two_pow_sub_one_eq_mod b.toNat 7
theorem grp_nat {v : W64} {b : UInt8} (h : v.toNat < 2 ^ 57) : (grp v b).toNat = v.toNat * 128 + b.toNat % 128 := by
 have h1 : (BitVec.ofNat 64 (b &&& 127).toNat).toNat = b.toNat % 128 := by
  rw [BitVec.toNat_ofNat, and127]; omega
 have h2 : (v <<< 7).toNat = v.toNat * 128 := by
  rw [BitVec.toNat_shiftLeft, Nat.shiftLeft_eq]; omega
 rw [grp, BitVec.toNat_or, h1, h2]
 have h3 := Nat.two_pow_add_eq_or_of_lt (i := 7) (b := b.toNat % 128) (by omega) v.toNat
 rw [Nat.mul_comm] at h3
 exact h3.symm
theorem numGo_le : ∀ (l : List UInt8) (k : Nat) (v : W64), (numGo k v l).2 ≤ k + l.length
 | [], k, v => by simp [numGo]
 | b :: r, k, v => by
  rw [numGo]
  split
  ·simp
  split
  ·simp
  ·have := numGo_le r (k + 1) (grp v b)
   rw [List.length_cons]; omega
theorem numR_le (l : List UInt8) : (numR l).2 ≤ l.length := by have := numGo_le l 0 0; rw [numR]; omega
theorem numGo_app : ∀ (A : List UInt8) (k : Nat) (v y : W64) (r : List UInt8), (∀ c ∈ A, 128 ≤ c.toNat) → (k = 0 → ∀ c, A.head? = some c → c ≠ 128) → (∀ j, j < A.length → ((A.take j).foldl grp v).toNat < 2 ^ 57) → A.foldl grp v = y → numGo k v (A ++ r) = numGo (k + A.length) y r
 | [], k, v, y, r, _, _, _, h => by simp at h; subst h; rfl
 | c :: A, k, v, y, r, h1, h2, h3, h4 => by
  have hc := h1 c (by simp)
  have hv : v.toNat < 2 ^ 57 := by have := h3 0 (by simp); simpa using this
  rw [List.cons_append, numGo, if_neg, if_neg (by omega)]
  ·have := numGo_app A (k + 1) (grp v c) y r (fun d hd => h1 d (by simp [hd])) (fun e => by omega) (fun j hj => by have := h3 (j + 1) (by simp; omega); simpa using this) (by simpa using h4)
   rw [this, List.length_cons]; congr 1; omega
  ·intro e
   rw [Bool.or_eq_true, Bool.and_eq_true] at e
   rcases e with ⟨e1, e2⟩ | e
   ·exact h2 (by simpa using e1) c rfl (by simpa using e2)
   ·have := of_decide_eq_true e; omega
theorem gT_fold (y : W64) (hy : y.toNat < 2 ^ 57) : (gT y).reverse.foldl grp 0 = y ∧ ∀ j, j < (gT y).length → (((gT y).reverse.take j).foldl grp 0).toNat < 2 ^ 57 := by
 rw [gT]
 split
 ·rename_i h; subst h; exact ⟨rfl, fun j hj => by simp at hj⟩
 ·rename_i h
  have hlt := shr7_lt h
  have hs : (y >>> 7).toNat = y.toNat / 128 := by rw [BitVec.toNat_ushiftRight, Nat.shiftRight_eq_div_pow]
  obtain ⟨ih, ihj⟩ := gT_fold (y >>> 7) (by omega)
  have hb := b7_nat y
  refine ⟨?_, fun j hj => ?_⟩
  ·rw [List.reverse_cons, List.foldl_append, ih]
   show grp (y >>> 7) (b7 y ||| 128) = y
   apply BitVec.eq_of_toNat_eq
   rw [grp_nat (by omega), b8_nat _ (by omega), hs]; omega
  ·rw [List.reverse_cons]
   simp only [List.length_cons] at hj
   rcases Nat.lt_or_ge j (gT (y >>> 7)).length with h1 | h1
   ·rw [List.take_append_of_le_length (by rw [List.length_reverse]; omega)]; exact ihj j h1
   ·have : j = (gT (y >>> 7)).length := by omega
    subst this
    rw [List.take_append_of_le_length (by rw [List.length_reverse]; omega), List.take_of_length_le (by rw [List.length_reverse]; omega), ih]; omega
termination_by y.toNat
decreasing_by exact shr7_lt (by assumption)
theorem gT_head (y : W64) : ∀ c, (gT y).reverse.head? = some c → c ≠ 128 := by
 rw [gT]
 split
 ·intro c h; simp at h
 ·rename_i h
  intro c hc
  rw [List.reverse_cons, List.head?_append] at hc
  have hb := b7_nat y
  cases hr : (gT (y >>> 7)).reverse.head? with
  | some d =>
   rw [hr] at hc
   simp at hc
   subst hc
   exact gT_head (y >>> 7) d hr
  | none =>
   rw [hr] at hc
   simp at hc
   have hz : gT (y >>> 7) = [] := by simpa using hr
   have hy0 : y >>> 7 = 0 := Classical.byContradiction fun hq => by rw [gT_some hq] at hz; cases hz
   have hs : (y >>> 7).toNat = y.toNat / 128 := by rw [BitVec.toNat_ushiftRight, Nat.shiftRight_eq_div_pow]
   rw [hy0] at hs
   have hyn : y.toNat ≠ 0 := fun e => h (BitVec.eq_of_toNat_eq (by simpa using e))
   intro e
   have h8 := b8_nat (b7 y) (by omega)
   rw [hc, e] at h8
   have : (128 : UInt8).toNat = 128 := rfl
   simp at hs
   omega
termination_by y.toNat
decreasing_by exact shr7_lt (by assumption)
theorem numR_putU (x : W64) (r : List UInt8) : numR (putU x ++ r) = (x, (putU x).length) := by
 have hb := b7_nat x
 have hs : (x >>> 7).toNat = x.toNat / 128 := by rw [BitVec.toNat_ushiftRight, Nat.shiftRight_eq_div_pow]
 have hlt : (x >>> 7).toNat < 2 ^ 57 := by have := x.isLt; omega
 obtain ⟨h1, h2⟩ := gT_fold (x >>> 7) hlt
 rw [putU_eq, numR, List.append_assoc, numGo_app _ 0 0 (x >>> 7) _ (fun c hc => gT_ge _ c (by simpa using hc)) (fun _ => gT_head _) (fun j hj => h2 j (by simpa using hj)) h1]
 rw [List.singleton_append, numGo, if_neg, if_pos (by omega)]
 ·have e : grp (x >>> 7) (b7 x) = x := by
   apply BitVec.eq_of_toNat_eq
   rw [grp_nat hlt, hs]; omega
  rw [e]; simp
 ·intro e
  rw [Bool.or_eq_true, Bool.and_eq_true] at e
  rcases e with ⟨_, e2⟩ | e
  ·have : b7 x = 128 := by simpa using e2
   rw [this] at hb
   have : (128 : UInt8).toNat = 128 := rfl
   omega
  ·have := of_decide_eq_true e; omega
theorem numC (k : Nat) (c : UInt8) (y : W64) : (((k : Int) == 0 && (c.toNat : Int) == 128) || decide ((144115188075855871 : Int) < (y.toNat : Int))) = ((k == 0 && c == 128) || decide (144115188075855871 < y.toNat)) := by
 have e1 : ((k : Int) == 0) = (k == 0) := by rw [Bool.eq_iff_iff]; simp
 have e2 : ((c.toNat : Int) == 128) = (c == 128) := by
  rw [Bool.eq_iff_iff, beq_iff_eq, beq_iff_eq, ← UInt8.toNat_inj]
  have : (128 : UInt8).toNat = 128 := rfl
  omega
 have e3 : decide ((144115188075855871 : Int) < (y.toNat : Int)) = decide (144115188075855871 < y.toNat) := by
  rw [Bool.eq_iff_iff, decide_eq_true_iff, decide_eq_true_iff]; omega
 rw [e1, e2, e3]
theorem drop_cons {l : List UInt8} {k : Nat} (h : k < l.length) : l.drop k = l.getD k 0 :: l.drop (k + 1) := by
 have e : l[k] = l.getD k 0 := by simp [List.getD, h]
 rw [← e]; exact List.drop_eq_getElem_cons h
theorem numGo_bad {l : List UInt8} {k : Nat} {v : W64} (h : k < l.length) (hb : ((k == 0 && l.getD k 0 == 128) || decide (144115188075855871 < v.toNat)) = true) : numGo k v (l.drop k) = (0, 0) := by
 rw [drop_cons h, numGo, if_pos hb]
theorem numGo_stop {l : List UInt8} {k : Nat} {v : W64} (h : k < l.length) (hb : ¬ ((k == 0 && l.getD k 0 == 128) || decide (144115188075855871 < v.toNat)) = true) (hs : (l.getD k 0).toNat < 128) : numGo k v (l.drop k) = (grp v (l.getD k 0), k + 1) := by
 rw [drop_cons h, numGo, if_neg hb, if_pos hs]
theorem numGo_on {l : List UInt8} {k : Nat} {v : W64} (h : k < l.length) (hb : ¬ ((k == 0 && l.getD k 0 == 128) || decide (144115188075855871 < v.toNat)) = true) (hs : ¬ (l.getD k 0).toNat < 128) : numGo k v (l.drop k) = numGo (k + 1) (grp v (l.getD k 0)) (l.drop (k + 1)) := by
 rw [drop_cons h, numGo, if_neg hb, if_neg hs]
abbrev RSt := List UInt8 × Int
def failS (s : RSt) (e : Int) : RSt := if (s.2 == 0) = true then (s.1, e) else s
def refS (s : RSt) (bad : Bool) (e : Int) : RSt := if bad = true then failS s e else s
def uintS (s : RSt) (most : W64) : RSt × W64 := if (s.2 == 0) = true then (if (numR s.1).2 = 0 then ((s.1, 6), 0) else if most.toNat < (numR s.1).1.toNat then ((s.1, 2), 0) else ((s.1.drop (numR s.1).2, s.2), (numR s.1).1)) else (s, 0)
theorem uintS_le (s : RSt) (most : W64) : (uintS s most).2.toNat ≤ most.toNat := by
 unfold uintS
 split
 ·split
  ·simp
  split
  ·simp
  ·simp only; omega
 ·simp
def countS (s : RSt) (most : Nat) : RSt × Nat := if (s.2 == 0) = true then (if (numR s.1).2 = 0 then ((s.1, 6), 0) else if most < (numR s.1).1.toNat then ((s.1, 3), 0) else ((s.1.drop (numR s.1).2, s.2), (numR s.1).1.toNat)) else (s, 0)
def flagS (s : RSt) : RSt × Bool := if (s.2 == 0) = true then (if s.1 = [] ∨ 1 < (s.1.getD 0 0).toNat then ((s.1, 6), false) else ((s.1.drop 1, s.2), s.1.getD 0 0 == 1)) else (s, false)
def endS (s : RSt) : Int := if (s.2 == 0) = true ∧ s.1 ≠ [] then 6 else s.2
theorem flag_eq (c : UInt8) : ((c.toNat : Int) == 1) = (c == 1) := by
 rw [Bool.eq_iff_iff, beq_iff_eq, beq_iff_eq, ← UInt8.toNat_inj]
 have : (1 : UInt8).toNat = 1 := rfl
 omega
end Go.Lx
/- A reader of bytes in memory. Nothing of a program stands here. -/
namespace Go.Lx
open Go Go.RowKit
def PtB (v : Value) (g : Nat) : Prop := v = .pointer (some ⟨g, 0, none⟩)
theorem PtB.eq {b g : Nat} (h : PtB (.pointer (some ⟨b, 0, none⟩)) g) : g = b := by
 unfold PtB at h
 simp only [Value.pointer.injEq, Option.some.injEq, Addr.mk.injEq, and_true] at h
 exact h.symm
abbrev rdC (u : Value) (e : Int) : List Value := [u, .int .i64 e]
def Rdr (T : TypeId) (D : Nat → Prop) (w : World) (v : Value) (s : RSt) : Prop := ∃ b u, v = .pointer (some ⟨b, 0, none⟩) ∧ D b ∧ Box w b T [u, .int .i64 s.2] ∧ Rd encB 1 (fun g => D g ∧ g ≠ b) w u s.1
section
variable {T : TypeId} {D D' : Nat → Prop} {γ : Prop} {w w' : World} {v : Value} {s : RSt}
theorem Rdr.keepD (h : Rdr T D w v s) (x : Bel γ D' w w') (hd : ∀ g, g < w.heap.size → D g → ¬ D' g) : Rdr T D w' v s :=
 let ⟨b, u, h1, h2, h3, a, c, h4, h5⟩ := h
 ⟨b, u, h1, h2, h3.keep x (hd b h3.lt h2), a, c, h4, h5.keep x fun g hg hD => hd g hg hD.1⟩
theorem Rdr.ext (h : Rdr T D w v s) (x : Ext γ w w') : Rdr T D w' v s := h.keepD x fun _ _ _ => id
theorem Rdr.mono (h : Rdr T D w v s) (hd : ∀ g, g < w.heap.size → D g → D' g) : Rdr T D' w v s :=
 let ⟨b, u, h1, h2, h3, a, c, h4, h5⟩ := h
 ⟨b, u, h1, hd b h3.lt h2, h3, a, c, h4, h5.mono fun g hg hD => ⟨hd g hg hD.1, hD.2⟩⟩
theorem Rdr.weak (h : Rdr T D w v s) {w1 w2 : World} (x : Bel γ (PtB v) w1 w2) : Bel γ D w1 w2 := by
 obtain ⟨b, u, rfl, h2, _⟩ := h
 exact Bel.mono x fun g _ hg => by rw [PtB.eq hg]; exact h2
theorem Rdr.wk {P : Program} {f : Nat} {args : Array Value} {A : Value → World → Prop} {s' : RSt} (h : Rdr T D w v s) (h1 : Ok P f args w fun u w' => A u w' ∧ Rdr T D w' v s' ∧ Bel False (PtB v) w w') : Ok P f args w fun u w' => A u w' ∧ Rdr T D w' v s' ∧ Bel False D w w' :=
 h1.mono fun _ _ ⟨a, b, c⟩ => ⟨a, b, h.weak c⟩
theorem Rdr.ptr (h : Rdr T D w v s) : ∃ b, v = .pointer (some ⟨b, 0, none⟩) := let ⟨b, _, h1, _⟩ := h; ⟨b, h1⟩
theorem Rdr.open {b : Nat} (h : Rdr T D w (.pointer (some ⟨b, 0, none⟩)) s) : ∃ a c, Box w b T [.slice a s.1.length c, .int .i64 s.2] ∧ Sl encB 1 (fun g => D g ∧ g ≠ b) w a c s.1 := by
 obtain ⟨b', u, h1, h2, h3, a, c, rfl, h5⟩ := h
 simp only [Value.pointer.injEq, Option.some.injEq, Addr.mk.injEq, and_true] at h1
 subst h1
 exact ⟨a, c, h3, h5⟩
end
theorem refS_no {s : RSt} {b : Bool} {e : Int} (h : b = false) : refS s b e = s := by rw [refS, h]; rfl
theorem refS_yes {s : RSt} {b : Bool} {e : Int} (h : b = true) (hok : (s.2 == 0) = true) : refS s b e = (s.1, e) := by rw [refS, if_pos h, failS, if_pos hok]
section
variable {P : Program} {fr : Fr} {w : World} {d : Option Nat} {t : TypeId} {ps : String} {af : Array Edge} {g : Option (Nat × Bool)} {x y : Operand} {T U : TypeId}
theorem o_quoU {a b : W64} (hx : ev fr x = u64 a) (hy : ev fr y = u64 b) (hb : b ≠ 0) : xop P fr w ⟨d, .binOp .quo T x y U, t, ps, af, g⟩ = .ok (.value (u64 (a / b))) w := by
 have h0 : (b.toNat : Int) ≠ 0 := by
  intro h
  apply hb
  apply BitVec.eq_of_toNat_eq
  have : b.toNat = 0 := by omega
  rw [this]; rfl
 have hd : a.toNat / b.toNat ≤ a.toNat := Nat.div_le_self _ _
 have hl := a.isLt
 have h2 : ((a.toNat : Int) / (b.toNat : Int)) = ((a.toNat / b.toNat : Nat) : Int) := by rw [Int.natCast_ediv]
 have h1 : ¬ (b.toNat = 0) := by omega
 simp [xop, execOp, hx, hy, u64, eqGuard, binOp, Op.intDiv, h0, h1]
 rw [h2, wrapU', BitVec.toNat_ofNat, Nat.mod_eq_of_lt (by omega)]
theorem o_addB {a b : UInt8} (hx : ev fr x = .int .u8 (a.toNat : Int)) (hy : ev fr y = .int .u8 (b.toNat : Int)) : xop P fr w ⟨d, .binOp .add T x y U, t, ps, af, g⟩ = .ok (.value (.int .u8 ((a + b).toNat : Int))) w := by
 have h := o_addw (P := P) (w := w) (d := d) (t := t) (ps := ps) (af := af) (g := g) (T := T) (U := U) hx hy
 have e : IntKind.u8.wrap ((a.toNat : Int) + (b.toNat : Int)) = ((a + b).toNat : Int) := by
  have h1 : ((a.toNat : Int) + (b.toNat : Int)) = ((a.toNat + b.toNat : Nat) : Int) := by omega
  rw [h1, wrapU8, UInt8.toNat_ofNat', UInt8.toNat_add]
 rw [e] at h
 exact h
end
theorem b7_rem (x : W64) : UInt8.ofNat (x % 128#64).toNat = b7 x := by
 apply UInt8.toNat_inj.1
 have h8 : (128#64).toNat = 128 := rfl
 rw [b7_nat, UInt8.toNat_ofNat', BitVec.toNat_umod, h8]
 omega
theorem b7_add (x : W64) : UInt8.ofNat (x % 128#64).toNat + 128 = b7 x ||| 128 := by
 rw [b7_rem]
 have h := b7_nat x
 apply UInt8.toNat_inj.1
 rw [UInt8.toNat_add, b8_nat _ (by omega)]
 have : (128 : UInt8).toNat = 128 := rfl
 omega
theorem quo128 (x : W64) : x / 128#64 = x >>> 7 := by
 apply BitVec.eq_of_toNat_eq
 rw [BitVec.toNat_udiv, BitVec.toNat_ushiftRight, Nat.shiftRight_eq_div_pow]; rfl
