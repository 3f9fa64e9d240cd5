/- The rules of single operations that leave the world alone: one equation each on an operation's run. Nothing of a program stands here. -/
import Derived.Test.YtncmjgmlnnenhaaDoorBase
namespace Go.Lx
open Go
set_option linter.unusedSimpArgs false
set_option linter.unusedVariables false
set_option linter.unnecessarySimpa false
/-- A string, by the list of its bytes. -/
def str (l : List UInt8) : Value := .string ⟨l.toArray⟩
theorem toList_mk (l : List UInt8) : (⟨l.toArray⟩ : ByteArray).toList = l := by simp
theorem size_mk (l : List UInt8) : (⟨l.toArray⟩ : ByteArray).size = l.length := by simp [ByteArray.size]
theorem str_of (s : ByteArray) : Value.string s = str s.data.toList := by simp [str]
def big : Int := 9223372036854775807
/-- In the range of int. -/
def I64 (a : Int) : Prop := -9223372036854775808 ≤ a ∧ a ≤ 9223372036854775807
theorem wrap_in {a : Int} (h : I64 a) : IntKind.i64.wrap a = a := IntWalk.i64_in _ h
theorem ev_const (fr : Fr) (v : Value) : ev fr (.const v) = v := rfl
section
variable {P : Program} {fr : Fr} {w : World} {d : Option Nat} {t : TypeId} {ps : String} {af : Array Edge} {g : Option (Nat × Bool)} {x y z : Operand} {k : IntKind} {a b : Int} {T U : TypeId}
abbrev xop (P : Program) (fr : Fr) (w : World) (o : Oper) : Result Next := (execOp (ev fr) o).run P w
theorem o_move : xop P fr w ⟨d, .move x, t, ps, af, g⟩ = .ok (.value (ev fr x)) w := rfl
theorem o_assign : xop P fr w ⟨d, .assign x, t, ps, af, g⟩ = .ok (.value (ev fr x)) w := rfl
theorem o_movec {v : Value} : xop P fr w ⟨d, .move (.const v), t, ps, af, g⟩ = .ok (.value v) w := rfl
theorem o_assignc {v : Value} : xop P fr w ⟨d, .assign (.const v), t, ps, af, g⟩ = .ok (.value v) w := rfl
theorem o_movef {f : FuncId} : xop P fr w ⟨d, .move (.func f), t, ps, af, g⟩ = .ok (.value (.func (.func f) #[] #[])) w := rfl
theorem o_assignf {f : FuncId} : xop P fr w ⟨d, .assign (.func f), t, ps, af, g⟩ = .ok (.value (.func (.func f) #[] #[])) w := rfl
theorem o_moveg {f : Nat} : xop P fr w ⟨d, .move (.global f), t, ps, af, g⟩ = .ok (.value (.pointer (some ⟨f, 0, none⟩))) w := rfl
theorem o_moveh {v : Value} (h : ev fr x = v) : xop P fr w ⟨d, .move x, t, ps, af, g⟩ = .ok (.value v) w := by subst h; rfl
theorem o_assignh {v : Value} (h : ev fr x = v) : xop P fr w ⟨d, .assign x, t, ps, af, g⟩ = .ok (.value v) w := by subst h; rfl
theorem o_pick {c : Bool} {p q : Value} (h : ev fr z = .bool c) (hp : ev fr x = p) (hq : ev fr y = q) : xop P fr w ⟨d, .pick z x y, t, ps, af, g⟩ = .ok (.value (bif c then p else q)) w := by
  subst hp hq
  cases c <;> simp [xop, execOp, h, asBool]
theorem o_pickT {v : Value} (h : ev fr z = .bool true) (hx : ev fr x = v) : xop P fr w ⟨d, .pick z x y, t, ps, af, g⟩ = .ok (.value v) w := by
  subst hx; simp [xop, execOp, h, asBool]
theorem o_pickF {v : Value} (h : ev fr z = .bool false) (hy : ev fr y = v) : xop P fr w ⟨d, .pick z x y, t, ps, af, g⟩ = .ok (.value v) w := by
  subst hy; simp [xop, execOp, h, asBool]
theorem o_and {c v : Bool} {u : Value} (h : ev fr z = .bool c) (hx : ev fr x = (bif c == true then .bool v else u)) : xop P fr w ⟨d, .pick z x (.const (.bool false)), t, ps, af, g⟩ = .ok (.value (.bool (c && v))) w := by
  cases c <;> simp [xop, execOp, h, asBool, ev_const, hx]
theorem o_or {c v : Bool} {u : Value} (h : ev fr z = .bool c) (hx : ev fr x = (bif c == false then .bool v else u)) : xop P fr w ⟨d, .pick z (.const (.bool true)) x, t, ps, af, g⟩ = .ok (.value (.bool (c || v))) w := by
  cases c <;> simp [xop, execOp, h, asBool, ev_const, hx]
theorem o_not {c : Bool} (h : ev fr x = .bool c) : xop P fr w ⟨d, .unOp .not T x, t, ps, af, g⟩ = .ok (.value (.bool (!c))) w := by
  simp [xop, execOp, h, Op.unary]
theorem o_neg (h : ev fr x = .int .i64 a) (hr : I64 (-a)) : xop P fr w ⟨d, .unOp .neg T x, t, ps, af, g⟩ = .ok (.value (.int .i64 (-a))) w := by
  have e := wrap_in hr
  simp [xop, execOp, h, Op.unary, Op.intArith, e]
theorem o_add (hx : ev fr x = .int .i64 a) (hy : ev fr y = .int .i64 b) (hr : I64 (a + b)) : xop P fr w ⟨d, .binOp .add T x y U, t, ps, af, g⟩ = .ok (.value (.int .i64 (a + b))) w := by
  have e := wrap_in hr
  simp [xop, execOp, hx, hy, eqGuard, binOp, Op.intArith, e]
theorem o_sub (hx : ev fr x = .int .i64 a) (hy : ev fr y = .int .i64 b) (hr : I64 (a - b)) : xop P fr w ⟨d, .binOp .sub T x y U, t, ps, af, g⟩ = .ok (.value (.int .i64 (a - b))) w := by
  have e := wrap_in hr
  simp [xop, execOp, hx, hy, eqGuard, binOp, Op.intArith, e]
theorem o_mul (hx : ev fr x = .int .i64 a) (hy : ev fr y = .int .i64 b) (hr : I64 (a * b)) : xop P fr w ⟨d, .binOp .mul T x y U, t, ps, af, g⟩ = .ok (.value (.int .i64 (a * b))) w := by
  have e := wrap_in hr
  simp [xop, execOp, hx, hy, eqGuard, binOp, Op.intArith, e]
theorem o_addw (hx : ev fr x = .int k a) (hy : ev fr y = .int k b) : xop P fr w ⟨d, .binOp .add T x y U, t, ps, af, g⟩ = .ok (.value (.int k (k.wrap (a + b)))) w := by
  simp [xop, execOp, hx, hy, eqGuard, binOp, Op.intArith]
theorem o_lss (hx : ev fr x = .int k a) (hy : ev fr y = .int k b) : xop P fr w ⟨d, .binOp .lss T x y U, t, ps, af, g⟩ = .ok (.value (.bool (decide (a < b)))) w := by
  simp [xop, execOp, hx, hy, eqGuard, binOp, Op.intCmp]
theorem o_leq (hx : ev fr x = .int k a) (hy : ev fr y = .int k b) : xop P fr w ⟨d, .binOp .leq T x y U, t, ps, af, g⟩ = .ok (.value (.bool (decide (a ≤ b)))) w := by
  simp [xop, execOp, hx, hy, eqGuard, binOp, Op.intCmp]
theorem o_gtr (hx : ev fr x = .int k a) (hy : ev fr y = .int k b) : xop P fr w ⟨d, .binOp .gtr T x y U, t, ps, af, g⟩ = .ok (.value (.bool (decide (b < a)))) w := by
  simp [xop, execOp, hx, hy, eqGuard, binOp, Op.intCmp]
theorem o_geq (hx : ev fr x = .int k a) (hy : ev fr y = .int k b) : xop P fr w ⟨d, .binOp .geq T x y U, t, ps, af, g⟩ = .ok (.value (.bool (decide (b ≤ a)))) w := by
  simp [xop, execOp, hx, hy, eqGuard, binOp, Op.intCmp]
theorem o_eql (hx : ev fr x = .int k a) (hy : ev fr y = .int k b) : xop P fr w ⟨d, .binOp .eql T x y U, t, ps, af, g⟩ = .ok (.value (.bool (a == b))) w := by
  simp [xop, execOp, hx, hy, eqGuard, binOp, Op.intCmp]
theorem o_neq (hx : ev fr x = .int k a) (hy : ev fr y = .int k b) : xop P fr w ⟨d, .binOp .neq T x y U, t, ps, af, g⟩ = .ok (.value (.bool (a != b))) w := by
  simp [xop, execOp, hx, hy, eqGuard, binOp, Op.intCmp]
theorem o_rem (hx : ev fr x = .int .i64 a) (hy : ev fr y = .int .i64 b) (ha : 0 ≤ a) (hb : 0 < b) (hr : I64 a) : xop P fr w ⟨d, .binOp .rem T x y U, t, ps, af, g⟩ = .ok (.value (.int .i64 (a % b))) w := by
  have h0 : b ≠ 0 := by omega
  have e2 : a.tmod b = a % b := Int.tmod_eq_emod_of_nonneg ha
  have h3 : a % b ≤ a := by rw [Int.emod_def]; have := Int.mul_nonneg (Int.le_of_lt hb) (Int.ediv_nonneg ha (Int.le_of_lt hb)); omega
  have e1 : IntKind.i64.wrap (a % b) = a % b := wrap_in ⟨by have := Int.emod_nonneg a h0; omega, by have := hr.2; omega⟩
  simp [xop, execOp, hx, hy, eqGuard, binOp, Op.intDiv, h0, e2, e1]
theorem o_quo (hx : ev fr x = .int .i64 a) (hy : ev fr y = .int .i64 b) (ha : 0 ≤ a) (hb : 0 < b) (hr : I64 a) : xop P fr w ⟨d, .binOp .quo T x y U, t, ps, af, g⟩ = .ok (.value (.int .i64 (a / b))) w := by
  have h0 : b ≠ 0 := by omega
  have e2 : a.tdiv b = a / b := Int.tdiv_eq_ediv_of_nonneg ha
  have h3 : a / b ≤ a := Int.ediv_le_self b ha
  have h4 : 0 ≤ a / b := Int.ediv_nonneg ha (by omega)
  have e1 : IntKind.i64.wrap (a / b) = a / b := wrap_in ⟨by omega, by have := hr.2; omega⟩
  simp [xop, execOp, hx, hy, eqGuard, binOp, Op.intDiv, h0, e2, e1]
theorem o_beql {p q : Bool} (hP : P.underlying T = some .bool) (hx : ev fr x = .bool p) (hy : ev fr y = .bool q) : xop P fr w ⟨d, .binOp .eql T x y U, t, ps, af, g⟩ = .ok (.value (.bool (p == q))) w := by
  simp [xop, execOp, hx, hy, eqGuard, run_eql_bool w T p q hP]
theorem o_bneq {p q : Bool} (hP : P.underlying T = some .bool) (hx : ev fr x = .bool p) (hy : ev fr y = .bool q) : xop P fr w ⟨d, .binOp .neq T x y U, t, ps, af, g⟩ = .ok (.value (.bool (!(p == q)))) w := by
  have e : (binOp .neq T (.bool p) (.bool q)).run P w = .ok (.bool (!(p == q))) w := by
    simp only [binOp]
    simp [run_equal_bool w T p q hP]
  simp [xop, execOp, hx, hy, eqGuard, e]
variable {l m : List UInt8}
theorem o_sadd (hx : ev fr x = str l) (hy : ev fr y = str m) (h : ((l.length + m.length : Nat) : Int) ≤ 9223372036854775807) : xop P fr w ⟨d, .binOp .add T x y U, t, ps, af, g⟩ = .ok (.value (str (l ++ m))) w := by
  have e : (⟨l.toArray⟩ ++ ⟨m.toArray⟩ : ByteArray) = ⟨(l ++ m).toArray⟩ := by
    apply ByteArray.ext; simp
  have h2 : ¬ ((9223372036854775807 : Int) < (l.length : Int) + (m.length : Int)) := by omega
  have hmx : IntKind.i64.max = 9223372036854775807 := by decide
  simp [xop, execOp, hx, hy, str, eqGuard, binOp, Op.stringOp, size_mk, e, hmx, h2]
theorem o_seql (hx : ev fr x = str l) (hy : ev fr y = str m) : xop P fr w ⟨d, .binOp .eql T x y U, t, ps, af, g⟩ = .ok (.value (.bool (l == m))) w := by
  simp [xop, execOp, hx, hy, str, eqGuard, binOp, Op.stringOp]
theorem o_sneq (hx : ev fr x = str l) (hy : ev fr y = str m) : xop P fr w ⟨d, .binOp .neq T x y U, t, ps, af, g⟩ = .ok (.value (.bool (!(l == m)))) w := by
  simp [xop, execOp, hx, hy, str, eqGuard, binOp, Op.stringOp]
theorem o_slss (hx : ev fr x = str l) (hy : ev fr y = str m) : xop P fr w ⟨d, .binOp .lss T x y U, t, ps, af, g⟩ = .ok (.value (.bool (Op.bytesLess l m))) w := by
  simp [xop, execOp, hx, hy, str, eqGuard, binOp, Op.stringOp]
theorem o_sgtr (hx : ev fr x = str l) (hy : ev fr y = str m) : xop P fr w ⟨d, .binOp .gtr T x y U, t, ps, af, g⟩ = .ok (.value (.bool (!(Op.bytesLess l m || l == m)))) w := by
  simp [xop, execOp, hx, hy, str, eqGuard, binOp, Op.stringOp]
theorem o_sleq (hx : ev fr x = str l) (hy : ev fr y = str m) : xop P fr w ⟨d, .binOp .leq T x y U, t, ps, af, g⟩ = .ok (.value (.bool (Op.bytesLess l m || l == m))) w := by
  simp [xop, execOp, hx, hy, str, eqGuard, binOp, Op.stringOp]
theorem o_sgeq (hx : ev fr x = str l) (hy : ev fr y = str m) : xop P fr w ⟨d, .binOp .geq T x y U, t, ps, af, g⟩ = .ok (.value (.bool (!Op.bytesLess l m))) w := by
  simp [xop, execOp, hx, hy, str, eqGuard, binOp, Op.stringOp]
theorem o_slen (hP : P.underlying T = some .string) (hx : ev fr x = str l) : xop P fr w ⟨d, .call { callee := .builtin .len, args := #[x], argTypes := #[T] }, t, ps, af, g⟩ = .ok (.value (.int .i64 (l.length : Int))) w := by
  simp [xop, execOp, resolve, invoke, builtin, hx, str, run_len_string (h := hP), goInt, size_mk]
theorem o_llen {e : TypeId} {p : Option Addr} {n c : Nat} (hP : P.underlying T = some (.slice e)) (hx : ev fr x = .slice p n c) : xop P fr w ⟨d, .call { callee := .builtin .len, args := #[x], argTypes := #[T] }, t, ps, af, g⟩ = .ok (.value (.int .i64 (n : Int))) w := by
  have h : (Builtin.len_ #[T] t #[.slice p n c]).run P w = .ok (goInt n) w := by simp [Builtin.len_, run_underlying hP]
  simp [xop, execOp, resolve, invoke, builtin, hx, h, goInt]
theorem o_sidx {i : Nat} (hP : P.underlying T = some .string) (hx : ev fr x = str l) (hy : ev fr y = .int k (i : Int)) (h : i < l.length) : xop P fr w ⟨d, .index T x y, t, ps, af, g⟩ = .ok (.value (.int .u8 ((l.getD i 0).toNat : Int))) w := by
  have hs : (0 : Int) ≤ (i : Int) ∧ (i : Int) < (⟨l.toArray⟩ : ByteArray).size := ⟨by omega, by rw [size_mk]; omega⟩
  have e := run_index_string w T ⟨l.toArray⟩ k i hP
  rw [dif_pos hs] at e
  have e2 : (⟨l.toArray⟩ : ByteArray)[(i : Int).toNat]'(by rw [size_mk]; omega) = l.getD i 0 := by
    simp only [Int.toNat_natCast]
    simp [List.getD, h]
    rfl
  simp only [xop, execOp, hx, hy, str, Sem.run_bind, e, e2]
  simp
theorem o_sslice {i j : Nat} (hP : P.underlying T = some .string) (hx : ev fr x = str l) (hi : ev fr y = .int .i64 (i : Int)) (hj : ev fr z = .int .i64 (j : Int)) (h : i ≤ j) (hl : j ≤ l.length) :
    xop P fr w ⟨d, .slice T x (some y) (some z) none, t, ps, af, g⟩ = .ok (.value (str ((l.take j).drop i))) w := by
  have e : (⟨l.toArray⟩ : ByteArray).extract i j = ⟨((l.take j).drop i).toArray⟩ := by
    apply ByteArray.ext; simp [ByteArray.data_extract]; rw [List.drop_take]
  have hi' : (i : Int) ≤ j := by omega
  have hj' : (j : Int) ≤ l.length := by omega
  have h2 : i ≤ l.length := by omega
  simp [xop, execOp, hx, hi, hj, str, Instr.slice, Instr.sliceAt, Instr.sliceBounds, Instr.sliceBound, asIntOf, run_underlying hP, size_mk, e, hl, h]
theorem o_sfrom {i : Nat} (hP : P.underlying T = some .string) (hx : ev fr x = str l) (hi : ev fr y = .int .i64 (i : Int)) (h : i ≤ l.length) :
    xop P fr w ⟨d, .slice T x (some y) none none, t, ps, af, g⟩ = .ok (.value (str (l.drop i))) w := by
  have e : (⟨l.toArray⟩ : ByteArray).extract i l.length = ⟨(l.drop i).toArray⟩ := by
    apply ByteArray.ext; simp [ByteArray.data_extract]; rw [List.take_of_length_le (by simp)]
  simp [xop, execOp, hx, hi, str, Instr.slice, Instr.sliceAt, Instr.sliceBounds, Instr.sliceBound, asIntOf, run_underlying hP, size_mk, e, h]
theorem o_sto {j : Nat} (hP : P.underlying T = some .string) (hx : ev fr x = str l) (hj : ev fr z = .int .i64 (j : Int)) (hl : j ≤ l.length) :
    xop P fr w ⟨d, .slice T x none (some z) none, t, ps, af, g⟩ = .ok (.value (str (l.take j))) w := by
  have e : (⟨l.toArray⟩ : ByteArray).extract 0 j = ⟨(l.take j).toArray⟩ := by
    apply ByteArray.ext; simp [ByteArray.data_extract]
  simp [xop, execOp, hx, hj, str, Instr.slice, Instr.sliceAt, Instr.sliceBounds, Instr.sliceBound, asIntOf, run_underlying hP, size_mk, e, hl]
theorem o_extract {vs : Array Value} {i : Nat} {v : Value} (hx : ev fr x = .tuple vs) (hv : vs[i]? = some v) : xop P fr w ⟨d, .extract x i, t, ps, af, g⟩ = .ok (.value v) w := by
  simp [xop, execOp, hx, Instr.extract, hv]
theorem o_conv {k' : IntKind} (hP : P.underlying T = some (.int k)) (hP' : P.underlying U = some (.int k')) (hx : ev fr x = .int k a) : xop P fr w ⟨d, .convert T U x, t, ps, af, g⟩ = .ok (.value (.int k' (k'.wrap a))) w := by
  simp [xop, execOp, hx, convert, run_underlying hP, run_underlying hP', Conv.intToInt]
theorem o_fn0 {F : Fn} : xop P fr w ⟨d, .makeFunc F #[] #[], t, ps, af, g⟩ = .ok (.value (.func F #[] #[])) w := by simp [xop, execOp, Instr.makeFunc]
theorem o_fn1 {F : Fn} {p : Option Addr} (hx : ev fr x = .pointer p) : xop P fr w ⟨d, .makeFunc F #[] #[x], t, ps, af, g⟩ = .ok (.value (.func F #[] #[.pointer p])) w := by simp [xop, execOp, Instr.makeFunc, hx]
theorem o_fn2 {F : Fn} {p q : Option Addr} (hx : ev fr x = .pointer p) (hy : ev fr y = .pointer q) : xop P fr w ⟨d, .makeFunc F #[] #[x, y], t, ps, af, g⟩ = .ok (.value (.func F #[] #[.pointer p, .pointer q])) w := by simp [xop, execOp, Instr.makeFunc, hx, hy]
theorem o_fn3 {F : Fn} {p q r : Option Addr} (hx : ev fr x = .pointer p) (hy : ev fr y = .pointer q) (hz : ev fr z = .pointer r) : xop P fr w ⟨d, .makeFunc F #[] #[x, y, z], t, ps, af, g⟩ = .ok (.value (.func F #[] #[.pointer p, .pointer q, .pointer r])) w := by simp [xop, execOp, Instr.makeFunc, hx, hy, hz]
end
end Go.Lx
