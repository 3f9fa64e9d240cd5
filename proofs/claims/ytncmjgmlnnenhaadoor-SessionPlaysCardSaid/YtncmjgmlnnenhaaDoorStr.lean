/- Equality of structs, told by an encoding. Nothing of a program stands here. -/
import Derived.Test.YtncmjgmlnnenhaaDoorSlx
import Derived.Laws.StructEq
namespace Go.Lx
open Go
set_option linter.unusedSimpArgs false
set_option linter.unusedVariables false
set_option linter.unnecessarySimpa false
/-- The structs of type T that enc lays are told apart by the program's own equality. -/
structure EqT {α : Type} [BEq α] (P : Program) (T : TypeId) (enc : α → List Value) : Prop where
  gd : P.eqGuardType P.depth T = false
  run : ∀ (w : World) x y, (Op.equalIn 10000 T (.agg (enc x).toArray) (.agg (enc y).toArray)).run P w = .ok (x == y) w
section
variable {P : Program} {d : Nat} {xs ys : Array Value} {f : Field} {fs : List Field} {v u : Value} {r r' : Bool}
theorem eqF_nil : ∀ w, (Op.eqFields d xs ys []).run P w = .ok true w := fun _ => rfl
theorem eqF_cons (hn : f.name ≠ "_") (ha : ∀ w, (isAgg f.type).run P w = .ok false w) (hx : xs[f.offset]? = some v) (hy : ys[f.offset]? = some u) (he : ∀ w, (Op.equalIn d f.type v u).run P w = .ok r w) (hr : ∀ w, (Op.eqFields d xs ys fs).run P w = .ok r' w) :
    ∀ w, (Op.eqFields d xs ys (f :: fs)).run P w = .ok (r && r') w := by
  intro w
  simp only [Op.eqFields, hn, ne_eq, not_false_eq_true, if_true, Sem.run_bind, part, ha, Result.andThen_ok, Bool.false_eq_true, if_false, hx, hy, Sem.run_pure, he]
  cases r
  · simp
  · simp [hr]
theorem eqI_str {T : TypeId} (l m : List UInt8) (h : P.underlying T = some .string) : ∀ w, (Op.equalIn (d + 1) T (str l) (str m)).run P w = .ok (l == m) w := by
  intro w
  have := run_equalIn_string (P := P) w d T ⟨l.toArray⟩ ⟨m.toArray⟩ h
  rw [toList_mk, toList_mk] at this
  exact this
end
section
variable {α : Type} [BEq α] {enc : α → List Value} {P : Program} {fr : Fr} {w : World} {d : Option Nat} {t : TypeId} {ps : String} {af : Array Edge} {g : Option (Nat × Bool)} {x y : Operand} {T U : TypeId} {a b : α}
theorem o_teql (h : EqT P T enc) (hx : ev fr x = .agg (enc a).toArray) (hy : ev fr y = .agg (enc b).toArray) : xop P fr w ⟨d, .binOp .eql T x y U, t, ps, af, g⟩ = .ok (.value (.bool (a == b))) w := by
  simp only [xop, execOp, hx, hy, Sem.run_bind, run_eqGuard_agg w .eql T x y _ _ h.gd, Result.andThen_ok, run_eql_struct, h.run]
  rfl
theorem o_tneq (h : EqT P T enc) (hx : ev fr x = .agg (enc a).toArray) (hy : ev fr y = .agg (enc b).toArray) : xop P fr w ⟨d, .binOp .neq T x y U, t, ps, af, g⟩ = .ok (.value (.bool (!(a == b)))) w := by
  simp only [xop, execOp, hx, hy, Sem.run_bind, run_eqGuard_agg w .neq T x y _ _ h.gd, Result.andThen_ok, run_neq_struct, h.run]
  rfl
end
end Go.Lx
