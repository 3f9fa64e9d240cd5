/- Calls: of a named function, and of a closure. Nothing of a program stands here. -/
import Derived.Test.YtncmjgmlnnenhaaDoorMem
namespace Go.Lx
open Go Go.RowKit
set_option linter.unusedSimpArgs false
set_option linter.unusedVariables false
set_option linter.unnecessarySimpa false
section
variable {P : Program} {fr : Fr} {w : World} {d : Option Nat} {t : TypeId} {ps : String} {af : Array Edge} {g : Option (Nat × Bool)}
theorem o_call0 {f : FuncId} {tys : Array TypeId} (hc : ∀ args w, (callFunc f args).run P w = .ok (.enter f args) w)  :
    xop P fr w ⟨d, .call { callee := .value (.func f), args := #[], argTypes := tys }, t, ps, af, g⟩ = .ok (.enter f #[]) w := by
  skip
  simp [xop, execOp, resolve, ev, Deferred.ofValue, invoke, hc]
theorem o_clo0 {f : FuncId} {y : Operand} {cs : Array Value} {tys : Array TypeId} (hc : ∀ args w, (callFunc f args).run P w = .ok (.enter f args) w) (hf : ev fr y = .func (.func f) #[] cs)  :
    xop P fr w ⟨d, .call { callee := .value y, args := #[], argTypes := tys }, t, ps, af, g⟩ = .ok (.enter f (#[] ++ cs)) w := by
  skip
  simp [xop, execOp, resolve, hf, Deferred.ofValue, invoke, hc]
theorem o_call1 {f : FuncId} {x1 : Operand} {v1 : Value} {tys : Array TypeId} (hc : ∀ args w, (callFunc f args).run P w = .ok (.enter f args) w) (h1 : ev fr x1 = v1) :
    xop P fr w ⟨d, .call { callee := .value (.func f), args := #[x1], argTypes := tys }, t, ps, af, g⟩ = .ok (.enter f #[v1]) w := by
  subst h1
  simp [xop, execOp, resolve, ev, Deferred.ofValue, invoke, hc]
theorem o_clo1 {f : FuncId} {y : Operand} {cs : Array Value} {x1 : Operand} {v1 : Value} {tys : Array TypeId} (hc : ∀ args w, (callFunc f args).run P w = .ok (.enter f args) w) (hf : ev fr y = .func (.func f) #[] cs) (h1 : ev fr x1 = v1) :
    xop P fr w ⟨d, .call { callee := .value y, args := #[x1], argTypes := tys }, t, ps, af, g⟩ = .ok (.enter f (#[v1] ++ cs)) w := by
  subst h1
  simp [xop, execOp, resolve, hf, Deferred.ofValue, invoke, hc]
theorem o_call2 {f : FuncId} {x1 x2 : Operand} {v1 v2 : Value} {tys : Array TypeId} (hc : ∀ args w, (callFunc f args).run P w = .ok (.enter f args) w) (h1 : ev fr x1 = v1) (h2 : ev fr x2 = v2) :
    xop P fr w ⟨d, .call { callee := .value (.func f), args := #[x1, x2], argTypes := tys }, t, ps, af, g⟩ = .ok (.enter f #[v1, v2]) w := by
  subst h1 h2
  simp [xop, execOp, resolve, ev, Deferred.ofValue, invoke, hc]
theorem o_clo2 {f : FuncId} {y : Operand} {cs : Array Value} {x1 x2 : Operand} {v1 v2 : Value} {tys : Array TypeId} (hc : ∀ args w, (callFunc f args).run P w = .ok (.enter f args) w) (hf : ev fr y = .func (.func f) #[] cs) (h1 : ev fr x1 = v1) (h2 : ev fr x2 = v2) :
    xop P fr w ⟨d, .call { callee := .value y, args := #[x1, x2], argTypes := tys }, t, ps, af, g⟩ = .ok (.enter f (#[v1, v2] ++ cs)) w := by
  subst h1 h2
  simp [xop, execOp, resolve, hf, Deferred.ofValue, invoke, hc]
theorem o_call3 {f : FuncId} {x1 x2 x3 : Operand} {v1 v2 v3 : Value} {tys : Array TypeId} (hc : ∀ args w, (callFunc f args).run P w = .ok (.enter f args) w) (h1 : ev fr x1 = v1) (h2 : ev fr x2 = v2) (h3 : ev fr x3 = v3) :
    xop P fr w ⟨d, .call { callee := .value (.func f), args := #[x1, x2, x3], argTypes := tys }, t, ps, af, g⟩ = .ok (.enter f #[v1, v2, v3]) w := by
  subst h1 h2 h3
  simp [xop, execOp, resolve, ev, Deferred.ofValue, invoke, hc]
theorem o_clo3 {f : FuncId} {y : Operand} {cs : Array Value} {x1 x2 x3 : Operand} {v1 v2 v3 : Value} {tys : Array TypeId} (hc : ∀ args w, (callFunc f args).run P w = .ok (.enter f args) w) (hf : ev fr y = .func (.func f) #[] cs) (h1 : ev fr x1 = v1) (h2 : ev fr x2 = v2) (h3 : ev fr x3 = v3) :
    xop P fr w ⟨d, .call { callee := .value y, args := #[x1, x2, x3], argTypes := tys }, t, ps, af, g⟩ = .ok (.enter f (#[v1, v2, v3] ++ cs)) w := by
  subst h1 h2 h3
  simp [xop, execOp, resolve, hf, Deferred.ofValue, invoke, hc]
theorem o_call4 {f : FuncId} {x1 x2 x3 x4 : Operand} {v1 v2 v3 v4 : Value} {tys : Array TypeId} (hc : ∀ args w, (callFunc f args).run P w = .ok (.enter f args) w) (h1 : ev fr x1 = v1) (h2 : ev fr x2 = v2) (h3 : ev fr x3 = v3) (h4 : ev fr x4 = v4) :
    xop P fr w ⟨d, .call { callee := .value (.func f), args := #[x1, x2, x3, x4], argTypes := tys }, t, ps, af, g⟩ = .ok (.enter f #[v1, v2, v3, v4]) w := by
  subst h1 h2 h3 h4
  simp [xop, execOp, resolve, ev, Deferred.ofValue, invoke, hc]
theorem o_call5 {f : FuncId} {x1 x2 x3 x4 x5 : Operand} {v1 v2 v3 v4 v5 : Value} {tys : Array TypeId} (hc : ∀ args w, (callFunc f args).run P w = .ok (.enter f args) w) (h1 : ev fr x1 = v1) (h2 : ev fr x2 = v2) (h3 : ev fr x3 = v3) (h4 : ev fr x4 = v4) (h5 : ev fr x5 = v5) :
    xop P fr w ⟨d, .call { callee := .value (.func f), args := #[x1, x2, x3, x4, x5], argTypes := tys }, t, ps, af, g⟩ = .ok (.enter f #[v1, v2, v3, v4, v5]) w := by
  subst h1 h2 h3 h4 h5
  simp [xop, execOp, resolve, ev, Deferred.ofValue, invoke, hc]
theorem o_call6 {f : FuncId} {x1 x2 x3 x4 x5 x6 : Operand} {v1 v2 v3 v4 v5 v6 : Value} {tys : Array TypeId} (hc : ∀ args w, (callFunc f args).run P w = .ok (.enter f args) w) (h1 : ev fr x1 = v1) (h2 : ev fr x2 = v2) (h3 : ev fr x3 = v3) (h4 : ev fr x4 = v4) (h5 : ev fr x5 = v5) (h6 : ev fr x6 = v6) :
    xop P fr w ⟨d, .call { callee := .value (.func f), args := #[x1, x2, x3, x4, x5, x6], argTypes := tys }, t, ps, af, g⟩ = .ok (.enter f #[v1, v2, v3, v4, v5, v6]) w := by
  subst h1 h2 h3 h4 h5 h6
  simp [xop, execOp, resolve, ev, Deferred.ofValue, invoke, hc]
end
theorem bnot_t {c : Bool} (h : (!c) = true) : c = false := by cases c <;> simp_all
theorem bnot_f {c : Bool} (h : (!c) = false) : c = true := by cases c <;> simp_all
theorem gwrap (c v : Bool) : Value.bool v = (bif c then .bool v else .bool v) := by cases c <;> rfl
theorem gsel {c : Bool} {v u : Value} (h : c = true) : (bif c then v else u) = v := by rw [h]; rfl
theorem gand {c q : Bool} {v u : Value} (h : c = true) : (bif c && q then v else u) = (bif q then v else u) := by rw [h]; rfl
theorem andL {a b : Bool} (h : (a && b) = true) : a = true := by cases a <;> simp_all
theorem andR {a b : Bool} (h : (a && b) = true) : b = true := by cases b <;> simp_all
section
variable {rd : Option Nat} {P : Program} {n : Nat} {K : Fr → World → Prop} {fr : Fr} {w : World}
/-- A new block. -/
theorem Rg_new {ops : Array Oper} {d : Option Nat} {op : Op} {ty : TypeId} {pos : String} {af : Array Edge} {rest : List Oper} {cs : Array Value} {T : TypeId} (hd : dstOk n d = true)
    (h : (execOp (ev fr) ⟨d, op, ty, pos, af, none⟩).run P w = .ok (.value (.pointer (some ⟨w.heap.size, 0, none⟩))) (w.alloc (.cells cs T)))
    (hk : ∀ b w', Ext True w w' → At w' b 0 cs.toList → Rg rd P n ops rest K (fr.put d (.pointer (some ⟨b, 0, none⟩))) w') : Rg rd P n ops (⟨d, op, ty, pos, af, none⟩ :: rest) K fr w :=
  Rg_run hd h (hk _ _ (Ext.alloc _ _) (At.alloc w cs T (0, 0)))
/-- A guarded operation whose guard is itself guarded. -/
theorem Rg_may2 {ops : Array Oper} {d : Option Nat} {op : Op} {ty : TypeId} {pos : String} {after : Array Edge} {rest : List Oper} {v : Value} {b c oc : Bool} (i g : Nat) (hi : (ops[i]?).bind (·.dst) = some g) (hc : fr g = (bif oc then .bool c else undef)) (hd : dstOk n d = true) (h : (oc && (c == b)) = true → (execOp (ev fr) ⟨d, op, ty, pos, after, none⟩).run P w = .ok (.value v) w) (hk : Rg rd P n ops rest K (fr.put d (bif oc && (c == b) then v else undef)) w) : Rg rd P n ops (⟨d, op, ty, pos, after, some (i, b)⟩ :: rest) K fr w := by
  cases oc with
  | true => exact Rg_may i g hi hc hd (by simpa using h) (by simpa using hk)
  | false =>
    intro N Q hq a ha
    refine wpListIn_step fun K' hK' => ?_
    have hy : yielded ops a.tmps i = none := by
      unfold yielded
      have h1 : a.tmps.getD g undef = undef := by
        have : frOf a g = undef := by rw [ha.fr]; exact hc
        exact this
      rw [Array.getD_eq_getD_getElem?] at h1
      cases hx : a.tmps[g]? with
      | none => simp [hi, hx]
      | some y => rw [hx] at h1; simp at h1; subst h1; simp [hi, hx, undef]
    have hw : Region.wanted (⟨d, op, ty, pos, after, some (i, b)⟩ : Oper) (yielded ops a.tmps) = false := by
      simp only [Region.wanted, hy]; rfl
    rw [hw]
    exact ⟨fun _ _ => trivial, hK' _ _ (hk N Q hq _ (is_put ha hd undef))⟩
/-- A guarded call of known outcome that makes new memory alone. -/
theorem Rg_mayCall {γ : Prop} {ops : Array Oper} {d : Option Nat} {op : Op} {ty : TypeId} {pos : String} {after : Array Edge} {rest : List Oper} {v : Value} {f : FuncId} {args : Array Value} {b c : Bool} (i g : Nat) (hi : (ops[i]?).bind (·.dst) = some g) (hc : fr g = .bool c) (hd : dstOk n d = true) (h : (c == b) = true → (execOp (ev fr) ⟨d, op, ty, pos, after, none⟩).run P w = .ok (.enter f args) w ∧ Ok P f args w fun v' w' => v' = v ∧ Ext γ w w') (hk : ∀ w', Ext γ w w' → Rg rd P n ops rest K (fr.put d (bif c == b then v else undef)) w') : Rg rd P n ops (⟨d, op, ty, pos, after, some (i, b)⟩ :: rest) K fr w := by
  cases hcb : (c == b) with
  | true =>
    have : c = b := by simpa using hcb
    subst this
    obtain ⟨h1, h2⟩ := h hcb
    refine Rg_on i g hi hc (Rg_enter hd h1 (h2.mono ?_))
    rintro v' w' ⟨rfl, x⟩
    have := hk w' x
    rw [hcb] at this
    exact this
  | false =>
    have := hk w (Ext.rfl' w)
    rw [hcb] at this
    exact Rg_off i g rfl hi hc hcb hd this
theorem Rg_mayCall2 {γ : Prop} {ops : Array Oper} {d : Option Nat} {op : Op} {ty : TypeId} {pos : String} {after : Array Edge} {rest : List Oper} {v : Value} {f : FuncId} {args : Array Value} {b c oc : Bool} (i g : Nat) (hi : (ops[i]?).bind (·.dst) = some g) (hc : fr g = (bif oc then .bool c else undef)) (hd : dstOk n d = true) (h : (oc && (c == b)) = true → (execOp (ev fr) ⟨d, op, ty, pos, after, none⟩).run P w = .ok (.enter f args) w ∧ Ok P f args w fun v' w' => v' = v ∧ Ext γ w w') (hk : ∀ w', Ext γ w w' → Rg rd P n ops rest K (fr.put d (bif oc && (c == b) then v else undef)) w') : Rg rd P n ops (⟨d, op, ty, pos, after, some (i, b)⟩ :: rest) K fr w := by
  cases oc with
  | true => exact Rg_mayCall (v := v) i g hi hc hd (by simpa using h) (by simpa using hk)
  | false => exact Rg_may2 (v := undef) i g (oc := false) hi hc hd (by simp) (by simpa using hk w (Ext.rfl' w))
end
end Go.Lx
