/- Cuts of slices that are read; calls of what has no body. Nothing of a program stands here. -/
import Derived.Test.YtncmjgmlnnenhaaDoorBox
namespace Go.Lx
open Go Go.RowKit
set_option linter.unusedSimpArgs false
set_option linter.unusedVariables false
set_option linter.unnecessarySimpa false
section
variable {α : Type} {enc : α → List Value} {k : Nat} {F : Nat → Prop} {w w' : World} {a : Option Addr} {c : Nat} {l : List α}
theorem Sl.take (h : Sl enc k F w a c l) (j : Nat) : Sl enc k F w a c (l.take j) :=
  ⟨by rw [List.length_take]; have := h.le; omega, h.cap, h.nil, fun i x hi => h.el i x (by
    rw [List.getElem?_take] at hi
    split at hi
    · exact hi
    · cases hi)⟩
theorem Sl.drop {j : Nat} (h : Sl enc k F w a c l) (hj : j ≤ l.length) : Sl enc k F w (if c = j then a else elp a (j * k)) (c - j) (l.drop j) := by
  refine ⟨by rw [List.length_drop]; have := h.le; omega, by have := h.cap; omega, ?_, ?_⟩
  · intro ha
    split at ha
    · omega
    · have : a = Option.none := by cases a with
        | none => rfl
        | some _ => simp [elp] at ha
      rw [h.nil this]; omega
  · intro i x hi
    rw [List.getElem?_drop] at hi
    obtain ⟨b, off, rfl, h2, h3, h4⟩ := h.el (j + i) x hi
    have hlt := (List.getElem?_eq_some_iff.1 hi).1
    have hc : c ≠ j := by have := h.le; omega
    rw [if_neg hc, elp_some]
    exact ⟨b, off + j * k, rfl, h2, by rw [show off + j * k + i * k = off + (j + i) * k from by rw [Nat.add_mul]; omega]; exact h3, h4⟩
end
theorem Own.capOf {α : Type} {enc : α → List Value} {k m c : Nat} {D : Nat → Prop} {e : TypeId} {w : World} {a : Option Addr} {l : List α} (ho : Own enc k e D w (.slice a m c) l) : m ≤ c ∧ m = l.length := by
  rcases ho.row.2 with ⟨h1, h2⟩ | ⟨g', cap, cur, h1, _, _, h4, _⟩
  · simp at h1; omega
  · simp at h1; omega
section
variable {P : Program} {fr : Fr} {w : World} {d : Option Nat} {t : TypeId} {ps : String} {af : Array Edge} {g : Option (Nat × Bool)}
theorem o_minL {x y : Operand} {tys : Array TypeId} {a b : Int} (hx : ev fr x = .int .i64 a) (hy : ev fr y = .int .i64 b) (h : a ≤ b) :
    xop P fr w ⟨d, .call { callee := .builtin .min, args := #[x, y], argTypes := tys }, t, ps, af, g⟩ = .ok (.value (.int .i64 a)) w := by
  rw [o_min hx hy, if_neg (by omega)]
theorem o_minR {x y : Operand} {tys : Array TypeId} {a b : Int} (hx : ev fr x = .int .i64 a) (hy : ev fr y = .int .i64 b) (h : b ≤ a) :
    xop P fr w ⟨d, .call { callee := .builtin .min, args := #[x, y], argTypes := tys }, t, ps, af, g⟩ = .ok (.value (.int .i64 b)) w := by
  rw [o_min hx hy]
  by_cases e : b < a
  · rw [if_pos e]
  · rw [if_neg e, show a = b from by omega]
theorem o_iaO {P : Program} {α : Type} {enc : α → List Value} {k m c i : Nat} {D : Nat → Prop} {T e : TypeId} {a : Option Addr} {l : List α} {x y : Operand} {s : Nat} {K : IntKind} (hP : P.underlying T = some (.slice e)) (hs : ∀ w, (sizeOf e).run P w = .ok s w) (ho : Own enc k e D w (.slice a m c) l)
    (hx : ev fr x = .slice a m c) (hy : ev fr y = .int K (i : Int)) (hi : i < m) : xop P fr w ⟨d, .indexAddr T x y, t, ps, af, g⟩ = .ok (.value (.pointer (elp a (i * s)))) w := by
  rcases ho.row.2 with ⟨h1, h2⟩ | ⟨g', cap, cur, h1, _⟩
  · simp at h1; omega
  · simp at h1
    obtain ⟨rfl, _⟩ := h1
    rw [elp_some]
    exact o_ia hP hs hx hy hi
end
section
variable {rd : Option Nat} {P : Program} {n : Nat} {K : Fr → World → Prop} {fr : Fr} {w : World} {α : Type} {enc : α → List Value} {k : Nat} {F : Nat → Prop} {a : Option Addr} {c : Nat} {l : List α} {T e : TypeId}
theorem Rg_slto {ops : Array Oper} {rest : List Oper} {d : Option Nat} {ty : TypeId} {pos : String} {af : Array Edge} {x z : Operand} {s j : Nat} (hd : dstOk n d = true) (hP : P.underlying T = some (.slice e)) (hs : ∀ w, (sizeOf e).run P w = .ok s w) (hr : Sl enc k F w a c l)
    (hx : ev fr x = .slice a l.length c) (hj : ev fr z = .int .i64 (j : Int)) (hl : j ≤ l.length) (hk : Sl enc k F w a c (l.take j) → Rg rd P n ops rest K (fr.put d (.slice a (l.take j).length c)) w) :
    Rg rd P n ops (⟨d, .slice T x none (some z) none, ty, pos, af, none⟩ :: rest) K fr w := by
  have hle := hr.le
  refine Rg_run hd (o_slto hP hs hx hj (by omega)) ?_
  have := hk (hr.take j)
  rwa [List.length_take, Nat.min_eq_left hl] at this
theorem Rg_slfrom {ops : Array Oper} {rest : List Oper} {d : Option Nat} {ty : TypeId} {pos : String} {af : Array Edge} {x z : Operand} {j : Nat} (hd : dstOk n d = true) (hP : P.underlying T = some (.slice e)) (hs : ∀ w, (sizeOf e).run P w = .ok k w) (hr : Sl enc k F w a c l)
    (hx : ev fr x = .slice a l.length c) (hj : ev fr z = .int .i64 (j : Int)) (hl : j ≤ l.length) (hk : ∀ a' c', Sl enc k F w a' c' (l.drop j) → Rg rd P n ops rest K (fr.put d (.slice a' (l.drop j).length c')) w) :
    Rg rd P n ops (⟨d, .slice T x (some z) none none, ty, pos, af, none⟩ :: rest) K fr w := by
  have hle := hr.le
  refine Rg_run hd (v := .slice (if c = j then a else elp a (j * k)) (l.length - j) (c - j)) (w' := w) ?_ ?_
  · have h2 : (j : Int) ≤ l.length := by omega
    simp [execOp, hx, hj, Instr.slice, Instr.sliceAt, Instr.sliceBounds, Instr.sliceBound, asIntOf, run_underlying hP, hl, hs, elp]
  · have := hk _ _ (hr.drop hl)
    rwa [List.length_drop] at this
end
section
variable {P : Program} {fr : Fr} {w : World} {d : Option Nat} {t : TypeId} {ps : String} {af : Array Edge} {g : Option (Nat × Bool)}
theorem o_ext2 {f : FuncId} {x1 x2 : Operand} {v1 v2 v : Value} {tys : Array TypeId} (h1 : ev fr x1 = v1) (h2 : ev fr x2 = v2) (hc : (callFunc f #[v1, v2]).run P w = .ok (.value v) w) :
    xop P fr w ⟨d, .call { callee := .value (.func f), args := #[x1, x2], argTypes := tys }, t, ps, af, g⟩ = .ok (.value v) w := by
  subst h1 h2
  have e : ev fr (.func f) = .func (.func f) #[] #[] := rfl
  simp [xop, execOp, resolve, e, Deferred.ofValue, invoke, hc]
end
theorem sl_none {α : Type} {enc : α → List Value} {k c : Nat} {F : Nat → Prop} {w : World} {a : Option Addr} {l : List α} (h : Sl enc k F w a c l) (e : a.isNone = true) : l = [] := by
  have h0 : a = none := by cases a with
    | none => rfl
    | some a => cases e
  have h1 := h.nil h0
  have h2 := h.le
  exact List.eq_nil_of_length_eq_zero (by omega)
theorem Sl.clip {α : Type} {enc : α → List Value} {k c : Nat} {F : Nat → Prop} {w : World} {a : Option Addr} {l : List α} (h : Sl enc k F w a c l) : Sl enc k F w a l.length l :=
  ⟨Nat.le_refl _, Nat.le_trans h.le h.cap, fun e => by have := h.nil e; have := h.le; omega, h.el⟩
theorem o_sl3 {P : Program} {fr : Fr} {w : World} {d : Option Nat} {t : TypeId} {ps : String} {af : Array Edge} {g : Option (Nat × Bool)} {T e : TypeId} {x y z : Operand} {a : Option Addr} {n c s j m : Nat} (hP : P.underlying T = some (.slice e)) (hs : ∀ w, (sizeOf e).run P w = .ok s w) (hx : ev fr x = .slice a n c) (hy : ev fr y = .int .i64 (j : Int)) (hz : ev fr z = .int .i64 (m : Int)) (h1 : j ≤ m) (h2 : m ≤ c) :
    xop P fr w ⟨d, .slice T x none (some y) (some z), t, ps, af, g⟩ = .ok (.value (.slice a j m)) w := by
  have e0 : (if m = 0 then a else a.map (·.add (0 * s))) = a := by
    by_cases h : m = 0
    · rw [if_pos h]
    · rw [if_neg h]; cases a with
      | none => rfl
      | some v => simp [Addr.add]
  simp [xop, execOp, hx, hy, hz, Instr.slice, Instr.sliceAt, Instr.sliceBounds, Instr.sliceBound, asIntOf, run_underlying hP, h1, h2, hs]
  intro _
  cases a <;> simp [Addr.add]
end Go.Lx
