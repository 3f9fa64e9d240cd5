/- Words of 64 bits: the rules of their operations. Nothing of a program stands here. -/
import Derived.Test.YtncmjgmlnnenhaaDoorMore
namespace Go.Lx
open Go
set_option linter.unusedSimpArgs false
set_option linter.unusedVariables false
set_option linter.unnecessarySimpa false
abbrev W64 := BitVec 64
def u64 (x : W64) : Value := .int .u64 (x.toNat : Int)
theorem wrapU (x : W64) : IntKind.u64.wrap (x.toNat : Int) = (x.toNat : Int) := by
  have h := x.isLt
  simp [IntKind.wrap, IntKind.bits, IntKind.signed]
  omega
theorem wrapU' (n : Nat) : IntKind.u64.wrap (n : Int) = ((BitVec.ofNat 64 n).toNat : Int) := by
  simp [IntKind.wrap, IntKind.bits, IntKind.signed]
theorem ofInt_toNat (x : W64) : BitVec.ofInt 64 (x.toNat : Int) = x := by
  rw [BitVec.ofInt_natCast, BitVec.ofNat_toNat, BitVec.setWidth_eq]
section
variable {P : Program} {fr : Fr} {w : World} {d : Option Nat} {t : TypeId} {ps : String} {af : Array Edge} {g : Option (Nat × Bool)} {x y z : Operand} {k : IntKind} {a b : W64} {T U : TypeId} {n : Nat}
theorem o_band (hx : ev fr x = u64 a) (hy : ev fr y = u64 b) : xop P fr w ⟨d, .binOp .and T x y U, t, ps, af, g⟩ = .ok (.value (u64 (a &&& b))) w := by
  have e0 : IntKind.u64.wrap ((BitVec.ofInt 64 (a.toNat : Int) &&& BitVec.ofInt 64 (b.toNat : Int)).toNat : Int) = ((a &&& b).toNat : Int) := by rw [ofInt_toNat, ofInt_toNat, wrapU]
  have e : IntKind.u64.wrap ((BitVec.ofInt IntKind.u64.bits (a.toNat : Int) &&& BitVec.ofInt IntKind.u64.bits (b.toNat : Int)).toNat : Int) = ((a &&& b).toNat : Int) := e0
  simp only [xop, execOp, hx, hy, u64, eqGuard, binOp, Op.intBits]
  simp only [e]; simp
theorem o_bor (hx : ev fr x = u64 a) (hy : ev fr y = u64 b) : xop P fr w ⟨d, .binOp .or T x y U, t, ps, af, g⟩ = .ok (.value (u64 (a ||| b))) w := by
  have e0 : IntKind.u64.wrap ((BitVec.ofInt 64 (a.toNat : Int) ||| BitVec.ofInt 64 (b.toNat : Int)).toNat : Int) = ((a ||| b).toNat : Int) := by rw [ofInt_toNat, ofInt_toNat, wrapU]
  have e : IntKind.u64.wrap ((BitVec.ofInt IntKind.u64.bits (a.toNat : Int) ||| BitVec.ofInt IntKind.u64.bits (b.toNat : Int)).toNat : Int) = ((a ||| b).toNat : Int) := e0
  simp only [xop, execOp, hx, hy, u64, eqGuard, binOp, Op.intBits]
  simp only [e]; simp
theorem o_bxor (hx : ev fr x = u64 a) (hy : ev fr y = u64 b) : xop P fr w ⟨d, .binOp .xor T x y U, t, ps, af, g⟩ = .ok (.value (u64 (a ^^^ b))) w := by
  have e0 : IntKind.u64.wrap ((BitVec.ofInt 64 (a.toNat : Int) ^^^ BitVec.ofInt 64 (b.toNat : Int)).toNat : Int) = ((a ^^^ b).toNat : Int) := by rw [ofInt_toNat, ofInt_toNat, wrapU]
  have e : IntKind.u64.wrap ((BitVec.ofInt IntKind.u64.bits (a.toNat : Int) ^^^ BitVec.ofInt IntKind.u64.bits (b.toNat : Int)).toNat : Int) = ((a ^^^ b).toNat : Int) := e0
  simp only [xop, execOp, hx, hy, u64, eqGuard, binOp, Op.intBits]
  simp only [e]; simp
theorem o_bandn (hx : ev fr x = u64 a) (hy : ev fr y = u64 b) : xop P fr w ⟨d, .binOp .andNot T x y U, t, ps, af, g⟩ = .ok (.value (u64 (a &&& ~~~b))) w := by
  have e0 : IntKind.u64.wrap ((BitVec.ofInt 64 (a.toNat : Int) &&& ~~~BitVec.ofInt 64 (b.toNat : Int)).toNat : Int) = ((a &&& ~~~b).toNat : Int) := by rw [ofInt_toNat, ofInt_toNat, wrapU]
  have e : IntKind.u64.wrap ((BitVec.ofInt IntKind.u64.bits (a.toNat : Int) &&& ~~~BitVec.ofInt IntKind.u64.bits (b.toNat : Int)).toNat : Int) = ((a &&& ~~~b).toNat : Int) := e0
  simp only [xop, execOp, hx, hy, u64, eqGuard, binOp, Op.intBits]
  simp only [e]; simp
theorem o_shlU (hx : ev fr x = u64 a) (hy : ev fr y = .int k (n : Int)) (hn : n < 64) : xop P fr w ⟨d, .binOp .shl T x y U, t, ps, af, g⟩ = .ok (.value (u64 (a <<< n))) w := by
  have e : IntKind.u64.wrap ((a.toNat : Int) * 2 ^ n) = ((a <<< n).toNat : Int) := by
    have h : ((a.toNat : Int) * 2 ^ n) = ((a.toNat * 2 ^ n : Nat) : Int) := by simp
    rw [h, wrapU', BitVec.toNat_shiftLeft, BitVec.toNat_ofNat, Nat.shiftLeft_eq]
  have h0 : ¬ ((n : Int) < 0) := by omega
  have h1 : min ((n : Int).toNat) 64 = n := by rw [Int.toNat_natCast]; omega
  have h1' : min ((n : Int).toNat) IntKind.u64.bits = n := h1
  simp only [xop, execOp, hx, hy, u64, eqGuard, binOp, Op.shift, if_neg h0]
  simp only [h1', e]; simp
theorem o_shrU (hx : ev fr x = u64 a) (hy : ev fr y = .int k (n : Int)) (hn : n < 64) : xop P fr w ⟨d, .binOp .shr T x y U, t, ps, af, g⟩ = .ok (.value (u64 (a >>> n))) w := by
  have e : Int.fdiv (a.toNat : Int) (2 ^ n) = ((a >>> n).toNat : Int) := by
    rw [BitVec.toNat_ushiftRight, Nat.shiftRight_eq_div_pow]
    rw [Int.fdiv_eq_ediv_of_nonneg _ (by exact Int.le_of_lt (Int.pow_pos (by decide)))]
    simp
  have h0 : ¬ ((n : Int) < 0) := by omega
  have h1 : min ((n : Int).toNat) 64 = n := by rw [Int.toNat_natCast]; omega
  have h1' : min ((n : Int).toNat) IntKind.u64.bits = n := h1
  simp only [xop, execOp, hx, hy, u64, eqGuard, binOp, Op.shift, if_neg h0]
  simp only [h1', e]; simp
theorem eqU (a b : W64) : ((a.toNat : Int) == (b.toNat : Int)) = (a == b) := by
  rw [Bool.eq_iff_iff, beq_iff_eq, beq_iff_eq, ← BitVec.toNat_inj]; omega
theorem o_eqU (hx : ev fr x = u64 a) (hy : ev fr y = u64 b) : xop P fr w ⟨d, .binOp .eql T x y U, t, ps, af, g⟩ = .ok (.value (.bool (a == b))) w := by
  rw [o_eql hx hy, eqU]
theorem o_neU (hx : ev fr x = u64 a) (hy : ev fr y = u64 b) : xop P fr w ⟨d, .binOp .neq T x y U, t, ps, af, g⟩ = .ok (.value (.bool (a != b))) w := by
  rw [o_neq hx hy]; unfold bne; rw [eqU]
theorem o_subU (hx : ev fr x = u64 a) (hy : ev fr y = u64 b) : xop P fr w ⟨d, .binOp .sub T x y U, t, ps, af, g⟩ = .ok (.value (u64 (a - b))) w := by
  have e : IntKind.u64.wrap ((a.toNat : Int) - (b.toNat : Int)) = ((a - b).toNat : Int) := by
    have h1 := a.isLt
    have h2 := b.isLt
    rw [BitVec.toNat_sub]
    simp [IntKind.wrap, IntKind.bits, IntKind.signed]
    omega
  simp [xop, execOp, hx, hy, u64, eqGuard, binOp, Op.intArith, e]
end
end Go.Lx
