/- Several texts in one file. -/
import Derived.Test.YtdnkjdmfnmdpdaaGreatDoorPure11f
import Derived.Laws.CopyRow
import Derived.Laws.IdiomCopy
import Derived.Test.YtdnkjdmfnmdpdaaGreatDoorDraw
import Derived.RangeFuncIn
import Derived.RangeFuncRecord
import Derived.Lib.TrailingZeros
import Derived.Test.YtdnkjdmfnmdpdaaGreatDoorShelf
import Derived.Test.YtdnkjdmfnmdpdaaGreatDoorPure11
import Derived.Laws.Pointers
set_option linter.unusedSimpArgs false
set_option linter.unusedVariables false
set_option linter.unnecessarySimpa false
/- Sets of numbers below 64, as a slice of at most one word; copy. Nothing of a program stands here. -/
namespace Go.Lx
open Go
section
variable {rd : Option Nat} {α : Type} {enc : α → List Value} {P : Program} {n by_ : Nat} {K : Fr → World → Prop} {fr : Fr} {w : World} {T e : TypeId} {z : Value} {D F : Nat → Prop} {l s : List α}
end
def encU (x : W64) : List Value := [u64 x]
theorem gm {α : Type} {l : List α} {k : Nat} {z : α} (h : k < l.length) : l.getD k z ∈ l := by
 have : l.getD k z = l[k] := by simp [List.getD, h]
 rw [this]; exact List.getElem_mem h
def wl (x : W64) : List W64 := if x = 0 then [] else [x]
structure SV where
 a : Option Addr
 c : Nat
 x : W64
def encSV (s : SV) : List Value := [.slice s.a (wl s.x).length s.c]
def sz : SV := ⟨none, 0, 0⟩
def oneW (i : Nat) : W64 := 1#64 <<< i
theorem oneW_get (i j : Nat) (hi : i < 64) : (oneW i).getLsbD j = decide (j = i) := by
 unfold oneW
 rw [BitVec.getLsbD_shiftLeft, BitVec.getLsbD_one]
 by_cases h : j = i
 ·subst h; simp [hi]
 ·by_cases h2 : j < i
  ·simp [h2, h]
  ·have : ¬ (j - i = 0) := by omega
   simp [this, h]
section
variable {P : Program} {fr : Fr} {w : World} {d : Option Nat} {t : TypeId} {ps : String} {af : Array Edge} {g : Option (Nat × Bool)} {x y z : Operand} {k : IntKind} {T U : TypeId}
theorem o_quoT {a : Int} {b : Nat} (hx : ev fr x = .int .i64 a) (hy : ev fr y = .int .i64 (b : Int)) (ha : 0 ≤ a) (hb : 0 < b) (hr : I64 a) : xop P fr w ⟨d, .binOp .quo T x y U, t, ps, af, g⟩ = .ok (.value (.int .i64 ((a.toNat / b : Nat) : Int))) w := by
 rw [o_quo hx hy ha (by omega) hr]
 have : a / (b : Int) = ((a.toNat / b : Nat) : Int) := by
  rw [Int.natCast_ediv, Int.toNat_of_nonneg ha]
 rw [this]
end
def encJ (x : Int) : List Value := [.int .i64 x]
theorem encJ_ok : EncOk encJ 1 := ⟨by decide, fun _ => rfl, fun x u hu => by simp [encJ] at hu; subst hu; rfl⟩
def ofW (l : List Int) : W64 := l.foldl (fun x i => x ||| oneW i.toNat) 0
structure TopI (l : List Int) (k : Nat) (t : Int) : Prop where
 le : k ≤ l.length
 lo : -1 ≤ t
 hi : t < 64
 ge : ∀ i, i < k → l.getD i 0 ≤ t
theorem TopI.start (l : List Int) : TopI l 0 (-1) := ⟨Nat.zero_le _, Int.le_refl _, by decide, fun i hi => by omega⟩
theorem TopI.next {l : List Int} {k : Nat} {t : Int} (h : TopI l k t) (hk : k < l.length) (hl : l.getD k 0 < 64) : TopI l (k + 1) (if t < l.getD k 0 then l.getD k 0 else t) := by
 refine ⟨hk, ?_, ?_, ?_⟩
 ·have := h.lo; split <;> omega
 ·have := h.hi; split <;> omega
 ·intro i hi
  rcases Nat.lt_or_ge i k with h1 | h1
  ·have := h.ge i h1; split <;> omega
  ·have : i = k := by omega
   subst this
   split <;> omega
section
variable {P : Program} {fr : Fr} {w : World} {d : Option Nat} {t : TypeId} {ps : String} {af : Array Edge} {g : Option (Nat × Bool)} {x y z : Operand} {T U : TypeId}
end
def subW (x y : W64) : Bool := (x &&& ~~~y) == 0
theorem sub_iff {x y : W64} : subW x y = true ↔ ∀ i, x.getLsbD i = true → y.getLsbD i = true := by
 unfold subW
 rw [beq_iff_eq]
 constructor
 ·intro h i hx
  have hi : i < 64 := by
   apply Classical.byContradiction
   intro hn
   rw [BitVec.getLsbD_of_ge _ _ (by omega)] at hx; cases hx
  have := congrArg (fun z : W64 => z.getLsbD i) h
  simp [hx, hi] at this
  exact this
 ·intro h
  apply BitVec.eq_of_getLsbD_eq
  intro i hi
  cases hx : x.getLsbD i with
  | false => simp [hx]
  | true => simp [hx, h i hx]
/-! Union, cut, difference of one. -/
/-! The members, ascending. -/
def memW (x : W64) (k : Nat) : List Int := ((List.range k).filter fun i => x.getLsbD i).map fun (i : Nat) => (i : Int)
theorem mem_yes {x : W64} {k : Nat} (h : x.getLsbD k = true) : memW x (k + 1) = memW x k ++ [(k : Int)] := by
 unfold memW
 rw [List.range_succ, List.filter_append, List.map_append]; simp [h]
theorem mem_no {x : W64} {k : Nat} (h : x.getLsbD k = false) : memW x (k + 1) = memW x k := by
 unfold memW
 rw [List.range_succ, List.filter_append, List.map_append]; simp [h]
theorem memW_ok (x : W64) : ∀ p ∈ memW x 64, 0 ≤ p ∧ p < 64 := by
 intro p hp
 obtain ⟨i, hi, rfl⟩ := List.mem_map.1 hp
 have := List.mem_range.1 (List.mem_filter.1 hi).1
 omega
theorem ofW_get (l : List Int) (h : ∀ p ∈ l, 0 ≤ p ∧ p < 64) (j : Nat) : (ofW l).getLsbD j = l.any fun p => p == (j : Int) := by
 have gen : ∀ (l : List Int) (x : W64), (∀ p ∈ l, 0 ≤ p ∧ p < 64) → (l.foldl (fun x i => x ||| oneW i.toNat) x).getLsbD j = (x.getLsbD j || l.any fun p => p == (j : Int)) := by
  intro l
  induction l with
  | nil => intro x _; simp
  | cons a r ih =>
   intro x hl
   have ha := hl a (by simp)
   rw [List.foldl_cons, ih _ (fun p hp => hl p (by simp [hp])), BitVec.getLsbD_or, oneW_get _ _ (by omega), List.any_cons, Bool.or_assoc]
   congr 2
   rw [Bool.eq_iff_iff]; simp; omega
 have := gen l 0 h
 unfold ofW
 rw [this]; simp
theorem bit_rem (x : W64) (k : Nat) : (((x >>> k) % 2#64) == 1#64) = x.getLsbD k := by
 have e : (x >>> k) % 2#64 = if x.getLsbD k then 1#64 else 0#64 := by
  apply BitVec.eq_of_toNat_eq
  rw [BitVec.toNat_umod, BitVec.toNat_ushiftRight]
  have h1 : x.getLsbD k = (x.toNat >>> k).testBit 0 := by
   rw [BitVec.getLsbD, Nat.testBit_shiftRight]; rfl
  rw [h1, Nat.testBit_zero]
  by_cases h : x.toNat >>> k % 2 = 1
  ·simp [h]
  ·have : x.toNat >>> k % 2 = 0 := by omega
   simp [this]
 rw [e]
 cases x.getLsbD k <;> simp
section
variable {P : Program} {fr : Fr} {w : World} {d : Option Nat} {t : TypeId} {ps : String} {af : Array Edge} {g : Option (Nat × Bool)} {x y z : Operand} {T U : TypeId}
theorem o_uremU {a b : W64} (hx : ev fr x = u64 a) (hy : ev fr y = u64 b) (hb : b ≠ 0) : xop P fr w ⟨d, .binOp .rem T x y U, t, ps, af, g⟩ = .ok (.value (u64 (a % b))) w := by
 have h0 : (b.toNat : Int) ≠ 0 := by
  intro h
  apply hb
  apply BitVec.eq_of_toNat_eq
  have : b.toNat = 0 := by omega
  rw [this]; rfl
 have e : (a.toNat : Int).tmod (b.toNat : Int) = ((a % b).toNat : Int) := by
  rw [Int.tmod_eq_emod_of_nonneg (by omega), BitVec.toNat_umod, Int.natCast_emod]
 have h1 : ¬ (b.toNat = 0) := by omega
 simp [xop, execOp, hx, hy, u64, eqGuard, binOp, Op.intDiv, h0, h1, e]
 try omega
end
end Go.Lx
/- A range over a function: what an iterator must do, and the rule for the statement. No round is left early here. Nothing of a program stands here. -/
namespace Go.Lx
open Go Go.RowKit
theorem Bel.putObj {w : World} {b : Nat} {o : Obj} {D : Nat → Prop} (hD : D b) : Bel False D w (w.putObj b o) :=
 ⟨rfl, rfl, rfl, by simp [World.putObj], fun c _ hc => World.putObj_heap_other (fun e => hc (e ▸ hD)), False.elim⟩
theorem Mks.kp {γ : Prop} {D : Nat → Prop} {w w' : World} : ∀ {l : List Nat}, Mks w l → Bel γ D w w' → (∀ b, b ∈ l → b < w.heap.size → ¬ D b) → Mks w' l
 | [], _, _, _ => trivial
 | b :: r, h, x, hd => ⟨h.1, (x.block b (Array.getElem?_eq_some_iff.1 h.2.1).1 (hd b List.mem_cons_self (Array.getElem?_eq_some_iff.1 h.2.1).1)).trans h.2.1, Mks.kp h.2.2 x (fun c hc => hd c (List.mem_cons_of_mem _ hc))⟩
theorem Mks.lt {w : World} : ∀ {l : List Nat}, Mks w l → ∀ b, b ∈ l → b < w.heap.size
 | [], _, b, hb => by simp at hb
 | c :: r, h, b, hb => by
  rcases List.mem_cons.1 hb with rfl | hb
  ·exact (Array.getElem?_eq_some_iff.1 h.2.1).1
  ·exact Mks.lt h.2.2 b hb
theorem Mks.ext {γ : Prop} {w w' : World} {l : List Nat} (h : Mks w l) (x : Ext γ w w') : Mks w' l := h.kp x fun _ _ _ => id
end Go.Lx
/- The members of a word, from the least on; the library's count of trailing zeros; a call of yield. -/
namespace Go.Lx
open Go Go.RowKit
def ctzW (x : W64) : Nat := Lib.ctz 64 x.toNat
theorem ctz_spec {x : W64} (h : x ≠ 0) : ∃ m, x.toNat = 2 ^ ctzW x * (2 * m + 1) ∧ ctzW x < 64 := by
 have h0 : x.toNat ≠ 0 := fun e => h (by apply BitVec.eq_of_toNat_eq; simpa using e)
 have := Lib.ctzFrom_spec 64 x.toNat (by omega) x.isLt
 have e : ctzW x = Lib.ctzFrom 64 x.toNat := by simp [ctzW, Lib.ctz, h0]
 rw [e]; exact this
theorem odd_bit (m i : Nat) : (2 * m + 1).testBit i = if i = 0 then true else m.testBit (i - 1) := by
 cases i with
 | zero => simp [Nat.testBit_zero]
 | succ i => simp [Nat.testBit_succ]; congr 1; omega
theorem even_bit (m i : Nat) : (2 * m).testBit i = if i = 0 then false else m.testBit (i - 1) := by
 cases i with
 | zero => simp [Nat.testBit_zero]
 | succ i => simp [Nat.testBit_succ]
theorem ctz_bit {x : W64} (h : x ≠ 0) (i : Nat) : x.getLsbD i = if i < ctzW x then false else if i = ctzW x then true else x.getLsbD i := by
 obtain ⟨m, hm, hk⟩ := ctz_spec h
 have e : x.getLsbD i = x.toNat.testBit i := rfl
 by_cases h1 : i < ctzW x
 ·rw [if_pos h1, e, hm]
  have := Nat.testBit_two_pow_mul_add (2 * m + 1) (b := 0) (i := ctzW x) (by exact Nat.two_pow_pos _) i
  rw [Nat.add_zero] at this
  rw [this, if_pos h1]; simp
 ·rw [if_neg h1]
  by_cases h2 : i = ctzW x
  ·rw [if_pos h2, e, hm]
   have := Nat.testBit_two_pow_mul_add (2 * m + 1) (b := 0) (i := ctzW x) (by exact Nat.two_pow_pos _) i
   rw [Nat.add_zero] at this
   rw [this, if_neg h1, odd_bit, if_pos (by omega)]
  ·rw [if_neg h2]
theorem clear_bit {x : W64} (h : x ≠ 0) (i : Nat) : (x &&& (x - 1#64)).getLsbD i = (x.getLsbD i && !decide (i = ctzW x)) := by
 obtain ⟨m, hm, hk⟩ := ctz_spec h
 have hp : 0 < 2 ^ ctzW x := Nat.two_pow_pos _
 have h0 : 1 ≤ x.toNat := by rw [hm]; exact Nat.mul_pos hp (by omega)
 have e1 : (x - 1#64).toNat = 2 ^ ctzW x * (2 * m) + (2 ^ ctzW x - 1) := by
  have hlt := x.isLt
  rw [BitVec.toNat_sub]
  simp only [BitVec.toNat_ofNat, Nat.reducePow, Nat.reduceMod, Nat.reduceSub]
  have e2 : x.toNat = 2 ^ ctzW x * (2 * m) + 2 ^ ctzW x := by rw [hm]; exact Nat.mul_succ _ _
  omega
 rw [BitVec.getLsbD_and]
 have ex : x.getLsbD i = x.toNat.testBit i := rfl
 have ey : (x - 1#64).getLsbD i = (x - 1#64).toNat.testBit i := rfl
 have a1 := Nat.testBit_two_pow_mul_add (2 * m + 1) (b := 0) (i := ctzW x) hp i
 rw [Nat.add_zero, ← hm] at a1
 have a2 := Nat.testBit_two_pow_mul_add (2 * m) (b := 2 ^ ctzW x - 1) (i := ctzW x) (by omega) i
 rw [ex, ey, e1, a1, a2]
 by_cases h1 : i < ctzW x
 ·simp [h1]
 ·rw [if_neg h1, if_neg h1, odd_bit, even_bit]
  by_cases h2 : i = ctzW x
  ·subst h2; simp
  ·have : i - ctzW x ≠ 0 := by omega
   simp [this, h2]
theorem mem_step {x : W64} (h : x ≠ 0) (k : Nat) : memW x k = (if ctzW x < k then (ctzW x : Int) :: memW (x &&& (x - 1#64)) k else []) ∧ (k ≤ ctzW x → memW (x &&& (x - 1#64)) k = []) := by
 induction k with
 | zero => exact ⟨rfl, fun _ => rfl⟩
 | succ k ih =>
  obtain ⟨h1, h2⟩ := ih
  have hb := ctz_bit h k
  have hc := clear_bit h k
  by_cases a : k < ctzW x
  ·rw [if_pos a] at hb
   rw [hb] at hc
   rw [mem_no hb, mem_no (by simpa using hc), h1, if_neg (by omega), if_neg (by omega)]
   exact ⟨rfl, fun _ => h2 (by omega)⟩
  ·rw [if_neg a] at hb
   by_cases c : k = ctzW x
   ·rw [if_pos c] at hb
    rw [hb, c] at hc
    rw [mem_yes hb, h1, if_neg (by omega), if_pos (by omega)]
    have := mem_no (x := x &&& (x - 1#64)) (k := k) (by rw [c]; simpa using hc)
    rw [this, h2 (by omega), c]
    exact ⟨rfl, fun h => by omega⟩
   ·have hc' : (x &&& (x - 1#64)).getLsbD k = x.getLsbD k := by rw [hc]; simp [c]
    refine ⟨?_, fun h => by omega⟩
    cases hx : x.getLsbD k with
    | true => rw [mem_yes hx, mem_yes (hc'.trans hx), h1, if_pos (by omega), if_pos (by omega)]; rfl
    | false => rw [mem_no hx, mem_no (hc'.trans hx), h1, if_pos (by omega), if_pos (by omega)]
theorem mem_cons {x : W64} (h : x ≠ 0) : memW x 64 = (ctzW x : Int) :: memW (x &&& (x - 1#64)) 64 := by
 obtain ⟨m, hm, hk⟩ := ctz_spec h
 have := (mem_step h 64).1
 rwa [if_pos hk] at this
abbrev tabL : List Value := Lib.deBruijn64tab.map fun (n : Nat) => Value.int .u8 (n : Int)
abbrev Tb (w : World) : Prop := At w 2 0 tabL
theorem Tb.at {w : World} (h : Tb w) : Proofs.TabAt 2 Lib.deBruijn64tab w := by
 intro j hj
 have := h.get (v := .int .u8 ((Lib.deBruijn64tab.getD j 0 : Nat) : Int)) j (by
  rw [tabL, List.getElem?_map, List.getElem?_eq_getElem hj]
  simp [List.getD, List.getElem?_eq_getElem hj])
 rwa [Nat.zero_add] at this
section
variable {P : Program} {n : Nat} {K : Fr → World → Prop} {fr : Fr} {w : World}
end
end Go.Lx
/- Pairs of numbers below 64. Nothing of a program stands here. -/
namespace Go.Lx
open Go
abbrev Pr := Fin 64 × Fin 64
def iv (x : Fin 64) : Int := (x.val : Int)
def encPr (p : Pr) : List Value := [.int .i64 (iv p.1), .int .i64 (iv p.2)]
theorem encPr_ok : EncOk encPr 2 := ⟨by decide, fun _ => rfl, fun x u hu => by
 simp [encPr] at hu
 rcases hu with rfl | rfl <;> rfl⟩
def pz0 : Pr := (0, 0)
theorem iv_ge (x : Fin 64) : 0 ≤ iv x ∧ iv x < 64 := by unfold iv; have := x.isLt; omega
theorem iv_inj {x y : Fin 64} : iv x = iv y ↔ x = y := by
 unfold iv
 constructor
 ·intro h; exact Fin.ext (by omega)
 ·rintro rfl; rfl
theorem iv_beq (x y : Fin 64) : (iv x == iv y) = (x == y) := by
 rw [Bool.eq_iff_iff, beq_iff_eq, beq_iff_eq, iv_inj]
end Go.Lx
/- Pointers and nil; a checked type. Nothing of a program stands here. -/
namespace Go.Lx
open Go Go.RowKit
section
variable {P : Program} {fr : Fr} {w : World} {d : Option Nat} {t : TypeId} {ps : String} {af : Array Edge} {g : Option (Nat × Bool)} {x y z : Operand} {T K E U : TypeId}
theorem o_nilc {v : Addr} (hx : ev fr x = .pointer (some v)) : xop P fr w ⟨d, .nilCheck x, t, ps, af, g⟩ = .ok (.value (.pointer (some v))) w := by
 simp [xop, execOp, hx]
theorem pointee_of {tp : TypeId} (hT : P.underlying T = some (.pointer tp)) : P.underlying T = some (.pointer (P.pointee T)) := by
 have : P.pointee T = tp := by unfold Program.pointee; rw [hT]
 rw [this]; exact hT
theorem o_peq {a : Option Addr} {tp : TypeId} (hT : P.underlying T = some (.pointer tp)) (hx : ev fr x = .pointer a) (hy : ev fr y = .pointer none) : xop P fr w ⟨d, .binOp .eql T x y U, t, ps, af, g⟩ = .ok (.value (.bool a.isNone)) w := by
 have := run_eql_pointer_nil (P := P) (w := w) T a (pointee_of hT)
 simp only [xop, execOp, hx, hy, eqGuard]
 simp [this]
theorem o_pne {a : Option Addr} {tp : TypeId} (hT : P.underlying T = some (.pointer tp)) (hx : ev fr x = .pointer a) (hy : ev fr y = .pointer none) : xop P fr w ⟨d, .binOp .neq T x y U, t, ps, af, g⟩ = .ok (.value (.bool !a.isNone)) w := by
 have := run_neq_pointer_nil (P := P) (w := w) T a (pointee_of hT)
 simp only [xop, execOp, hx, hy, eqGuard]
 simp [this]
end
end Go.Lx
/- An order in memory: its block, its pairs, the sets above and below each element. Nothing of a program stands here. -/
namespace Go.Lx
open Go Go.RowKit
structure OV where
 n : Nat
 ap : Option Addr
 cp : Nat
 pairs : List Pr
 aa : Option Addr
 ca : Nat
 above : List SV
 ab : Option Addr
 cb : Nat
 below : List SV
 asp : Option Addr
 csp : Nat
 sorted : List Int
def encOd (o : OV) : List Value := [.int .i64 (o.n : Int), .slice o.ap o.pairs.length o.cp, .slice o.aa o.above.length o.ca, .slice o.ab o.below.length o.cb, .slice o.asp o.sorted.length o.csp]
def WdsAt (F : Nat → Prop) (w : World) (l : List SV) : Prop := ∀ s ∈ l, Sl encU 1 F w s.a s.c (wl s.x)
structure OdAt (F : Nat → Prop) (w : World) (p : Nat) (o : OV) : Prop where
 blk : F p
 at' : At w p 0 (encOd o)
 pr : Sl encPr 2 F w o.ap o.cp o.pairs
 ab : Sl encSV 1 F w o.aa o.ca o.above
 be : Sl encSV 1 F w o.ab o.cb o.below
 wa : WdsAt F w o.above
 wb : WdsAt F w o.below
 la : o.above.length = o.n
 lb : o.below.length = o.n
 hn : o.n ≤ 64
section
variable {F F' D : Nat → Prop} {γ : Prop} {w w' : World} {p : Nat} {o : OV}
theorem WdsAt.keep {l : List SV} (h : WdsAt F w l) (x : Bel γ D w w') (hd : ∀ b, b < w.heap.size → F b → ¬ D b) : WdsAt F w' l := fun s hs => (h s hs).keep x hd
theorem WdsAt.mono {l : List SV} (h : WdsAt F w l) (hd : ∀ b, b < w.heap.size → F b → F' b) : WdsAt F' w l := fun s hs => (h s hs).mono hd
theorem WdsAt.ext {l : List SV} (h : WdsAt F w l) (x : Ext γ w w') : WdsAt F w' l := fun s hs => (h s hs).ext x
theorem OdAt.lt (h : OdAt F w p o) : p < w.heap.size := h.at'.lt
theorem OdAt.keep (h : OdAt F w p o) (x : Bel γ D w w') (hd : ∀ b, b < w.heap.size → F b → ¬ D b) : OdAt F w' p o :=
 ⟨h.blk, h.at'.keep x (hd p h.lt h.blk), h.pr.keep x hd, h.ab.keep x hd, h.be.keep x hd, h.wa.keep x hd, h.wb.keep x hd, h.la, h.lb, h.hn⟩
theorem OdAt.ext (h : OdAt F w p o) (x : Ext γ w w') : OdAt F w' p o := h.keep x fun _ _ _ => id
theorem OdAt.mono (h : OdAt F w p o) (hd : ∀ b, b < w.heap.size → F b → F' b) : OdAt F' w p o :=
 ⟨hd p h.lt h.blk, h.at', h.pr.mono hd, h.ab.mono hd, h.be.mono hd, h.wa.mono hd, h.wb.mono hd, h.la, h.lb, h.hn⟩
end
@[irreducible] def belO (o : OV) (a : Int) : W64 := if 0 ≤ a ∧ a < (o.n : Int) then (o.below.getD a.toNat sz).x else 0
@[irreducible] def junO (o : OV) (r : Int) : W64 := if 1 ≤ r ∧ r ≤ 63 then belO o r ||| oneW r.toNat else 0
def HrAt (F : Nat → Prop) (w : World) (v : Value) : Option OV → Prop
 | none => v = .pointer none
 | some o => ∃ ph po, v = .pointer (some ⟨ph, 0, none⟩) ∧ F ph ∧ At w ph 0 [.pointer (some ⟨po, 0, none⟩)] ∧ OdAt F w po o
def junH (H : Option OV) (r : Int) : W64 := match H with
 | none => 0
 | some o => junO o r
def closH (H : Option OV) (l : List Int) : W64 := l.foldl (fun x r => x ||| junH H r) 0
section
variable {F F' D : Nat → Prop} {γ : Prop} {w w' : World} {v : Value} {H : Option OV}
theorem HrAt.keep (h : HrAt F w v H) (x : Bel γ D w w') (hd : ∀ b, b < w.heap.size → F b → ¬ D b) : HrAt F w' v H := by
 cases H with
 | none => exact h
 | some o =>
  obtain ⟨ph, po, h1, h2, h3, h4⟩ := h
  exact ⟨ph, po, h1, h2, h3.keep x (hd ph h3.lt h2), h4.keep x hd⟩
theorem HrAt.ext (h : HrAt F w v H) (x : Ext γ w w') : HrAt F w' v H := h.keep x fun _ _ _ => id
theorem HrAt.mono (h : HrAt F w v H) (hd : ∀ b, b < w.heap.size → F b → F' b) : HrAt F' w v H := by
 cases H with
 | none => exact h
 | some o =>
  obtain ⟨ph, po, h1, h2, h3, h4⟩ := h
  exact ⟨ph, po, h1, hd ph h3.lt h2, h3, h4.mono hd⟩
end
end Go.Lx
