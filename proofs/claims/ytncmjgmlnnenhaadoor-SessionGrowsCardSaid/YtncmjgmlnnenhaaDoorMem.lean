/- Several texts in one file. -/
import Derived.Test.YtncmjgmlnnenhaaDoorBase
import Derived.Laws.AppendOwn
/- Memory: what a block holds, how a world goes on, and the operations that read and write cells. Nothing of a program stands here. -/
namespace Go.Lx
open Go Go.RowKit
set_option linter.unusedSimpArgs false
set_option linter.unusedVariables false
set_option linter.unnecessarySimpa false
structure Bel (β : Prop) (D : Nat → Prop) (w w' : World) : Prop where
  os : w'.os = w.os
  tape : w'.tape = w.tape
  output : w'.output = w.output
  size : w.heap.size ≤ w'.heap.size
  block : ∀ b, b < w.heap.size → ¬ D b → w'.heap[b]? = w.heap[b]?
  drawn : β → w.drawn ≤ w'.drawn
abbrev NoB : Nat → Prop := fun _ => False
abbrev Lt (n : Nat) : Nat → Prop := fun b => b < n
abbrev Rng (m n : Nat) : Nat → Prop := fun b => m ≤ b ∧ b < n
abbrev Fsh (w w' : World) : Nat → Prop := Rng w.heap.size w'.heap.size
abbrev Ext (β : Prop) (w w' : World) : Prop := Bel β NoB w w'
theorem Bel.refl {β : Prop} (D : Nat → Prop) (w : World) : Bel β D w w := ⟨rfl, rfl, rfl, Nat.le_refl _, fun _ _ _ => rfl, fun _ => Nat.le_refl _⟩
theorem Bel.mono {β : Prop} {D D' : Nat → Prop} {w w' : World} (h : Bel β D w w') (hD : ∀ b, b < w.heap.size → D b → D' b) : Bel β D' w w' :=
  ⟨h.os, h.tape, h.output, h.size, fun b hb hn => h.block b hb fun x => hn (hD b hb x), h.drawn⟩
theorem Bel.weak {β : Prop} {D : Nat → Prop} {w w' : World} (h : Bel β D w w') : Bel False D w w' := ⟨h.os, h.tape, h.output, h.size, h.block, False.elim⟩
theorem Bel.tr {β γ : Prop} {D D1 D2 : Nat → Prop} {a b c : World} (h : Bel β D1 a b) (k : Bel γ D2 b c) (h1 : ∀ g, g < a.heap.size → D1 g → D g) (h2 : ∀ g, g < a.heap.size → D2 g → D g) (hg : β → γ := by first | exact fun h => h | exact fun _ => trivial | exact False.elim) : Bel β D a c :=
  ⟨k.os.trans h.os, k.tape.trans h.tape, k.output.trans h.output, Nat.le_trans h.size k.size, fun g hb hn =>
    (k.block g (Nat.lt_of_lt_of_le hb h.size) fun x => hn (h2 g hb x)).trans (h.block g hb fun x => hn (h1 g hb x)), fun x => Nat.le_trans (h.drawn x) (k.drawn (hg x))⟩
theorem Bel.ex {β γ : Prop} {D : Nat → Prop} {a b c : World} (h : Bel β D a b) (k : Ext γ b c) (hg : β → γ := by first | exact fun h => h | exact fun _ => trivial | exact False.elim) : Bel β D a c := h.tr k (fun _ _ x => x) (fun _ _ x => x.elim) hg
theorem Bel.same {β γ : Prop} {D : Nat → Prop} {a b c : World} (h : Bel β D a b) (k : Bel γ D b c) (hg : β → γ := by first | exact fun h => h | exact fun _ => trivial | exact False.elim) : Bel β D a c := h.tr k (fun _ _ x => x) (fun _ _ x => x) hg
theorem Bel.out {β γ : Prop} {D D' : Nat → Prop} {a b c : World} (h : Bel β D a b) (k : Bel γ D' b c) (hd : ∀ g, g < a.heap.size → D' g → D g) (hg : β → γ := by first | exact fun h => h | exact fun _ => trivial | exact False.elim) : Bel β D a c := h.tr k (fun _ _ x => x) hd hg
theorem Ext.rfl' {β : Prop} (w : World) : Ext β w w := Bel.refl _ _
theorem Ext.tr {β γ : Prop} {a b c : World} (h : Ext β a b) (k : Ext γ b c) (hg : β → γ := by first | exact fun h => h | exact fun _ => trivial | exact False.elim) : Ext β a c := Bel.ex h k hg
theorem Bel.below {β : Prop} {D : Nat → Prop} {B : Nat} {w w' : World} (h : Bel β D w w') (hB : ∀ b, b < B → b < w.heap.size ∧ ¬ D b) : Below B w w' :=
  ⟨h.os, h.tape, h.output, h.size, fun k hk => h.block k (hB k hk).1 (hB k hk).2⟩
theorem Ext.below {β : Prop} {w w' : World} (h : Ext β w w') : Below w.heap.size w w' := Bel.below h fun _ hb => ⟨hb, id⟩
theorem Ext.alloc {β : Prop} (w : World) (o : Obj) : Ext β w (w.alloc o) := ⟨rfl, rfl, rfl, by simp, fun b hb _ => heap_alloc_old w _ hb, fun _ => Nat.le_refl _⟩
theorem Ext.drew {β : Prop} (w : World) : Ext β w w.drew := ⟨rfl, rfl, rfl, Nat.le_refl _, fun _ _ _ => rfl, fun _ => Nat.le_succ _⟩
def At (w : World) (b off : Nat) (cs : List Value) : Prop := ∀ i v, cs[i]? = some v → w.cell? ⟨b, off + i, none⟩ = some v
theorem At.lt {w : World} {b off : Nat} {c : Value} {cs : List Value} (h : At w b off (c :: cs)) : b < w.heap.size :=
  World.block_lt_of_cell? w ⟨b, off + 0, none⟩ (h 0 c rfl)
theorem At.blk {w w' : World} {b off : Nat} {cs : List Value} (h : At w b off cs) (hb : w'.heap[b]? = w.heap[b]?) : At w' b off cs :=
  fun i v hi => by rw [World.cell?_of_block (w := w) (a := ⟨b, off + i, none⟩) hb]; exact h i v hi
theorem At.keep {γ : Prop} {D : Nat → Prop} {w w' : World} {b off : Nat} {cs : List Value} (h : At w b off cs) (x : Bel γ D w w') (hd : ¬ D b) : At w' b off cs := by
  cases cs with
  | nil => intro i v hi; simp at hi
  | cons c cs => exact h.blk (x.block b h.lt hd)
theorem At.ext {γ : Prop} {w w' : World} {b off : Nat} {cs : List Value} (h : At w b off cs) (x : Ext γ w w') : At w' b off cs := h.keep x id
theorem At.alloc (w : World) (cs : Array Value) (T : TypeId) (fz : Nat × Nat) : At (w.alloc (.cells cs T fz)) w.heap.size 0 cs.toList := by
  intro i v hi
  rw [Nat.zero_add]
  simp only [World.cell?, World.alloc, Array.getElem?_push_size]
  simpa using hi
theorem At.get {w : World} {b off : Nat} {cs : List Value} {v : Value} (h : At w b off cs) (i : Nat) (hi : cs[i]? = some v) : w.cell? ⟨b, off + i, none⟩ = some v := h i v hi
theorem At.sub {w : World} {b off : Nat} {cs : List Value} (h : At w b off cs) (i k : Nat) : At w b (off + i) ((cs.drop i).take k) := by
  intro j v hj
  have h1 : cs[i + j]? = some v := by
    rw [List.getElem?_take] at hj
    split at hj
    · rw [List.getElem?_drop] at hj; exact hj
    · cases hj
  have := h (i + j) v h1
  rwa [show off + (i + j) = off + i + j from by omega] at this
section
variable {P : Program} {fr : Fr} {w : World} {d : Option Nat} {t : TypeId} {ps : String} {af : Array Edge} {g : Option (Nat × Bool)} {x y z : Operand} {k : IntKind} {T U : TypeId} {b off : Nat}
theorem o_load1 {v : Value} (ha : ∀ w, (isAgg T).run P w = .ok false w) (hx : ev fr x = .pointer (some ⟨b, off, none⟩)) (h : w.cell? ⟨b, off, none⟩ = some v) : xop P fr w ⟨d, .load T x, t, ps, af, g⟩ = .ok (.value v) w := by
  simp [xop, execOp, hx, Instr.loadAt, Instr.sureAddr, loadVar, ha, load, Sem.run, h]
theorem run_loadCellsFrom (a : Addr) (cs : List Value) : ∀ (n i : Nat) (acc : Array Value), n + i = cs.length → (∀ j v, cs[j]? = some v → w.cell? (a.add j) = some v) →
    (loadCellsFrom a i n acc).run P w = .ok (acc ++ (cs.drop i).toArray) w := by
  intro n
  induction n with
  | zero =>
    intro i acc hn h
    simp [loadCellsFrom, List.drop_eq_nil_of_le (by omega : cs.length ≤ i)]
  | succ n ih =>
    intro i acc hn h
    have hi : i < cs.length := by omega
    have hc := h i cs[i] (List.getElem?_eq_getElem hi)
    have hl : (load (a.add i)).run P w = .ok cs[i] w := by simp [load, Sem.run, hc]
    rw [loadCellsFrom]
    simp only [Sem.run_bind, hl, Result.andThen_ok]
    rw [ih (i + 1) _ (by omega) h, List.drop_eq_getElem_cons hi]
    simp
theorem run_loadAgg {n : Nat} {cs : List Value} (hn : cs.length = n) (h : At w b off cs) : (loadCells ⟨b, off, none⟩ n).run P w = .ok cs.toArray w := by
  unfold loadCells
  rw [run_loadCellsFrom (P := P) (w := w) ⟨b, off, none⟩ cs n 0 #[] (by omega)]
  · simp
  · intro j v hj
    have := h j v hj
    unfold Addr.add
    by_cases hz : j = 0
    · subst hz; simpa using this
    · rw [if_neg hz]; exact this
theorem o_loadS {n : Nat} {cs : List Value} (ha : ∀ w, (isAgg T).run P w = .ok true w) (hs : ∀ w, (sizeOf T).run P w = .ok n w) (hx : ev fr x = .pointer (some ⟨b, off, none⟩)) (h : At w b off cs) (hn : cs.length = n) :
    xop P fr w ⟨d, .load T x, t, ps, af, g⟩ = .ok (.value (.agg cs.toArray)) w := by
  simp [xop, execOp, hx, Instr.loadAt, Instr.sureAddr, loadVar, ha, hs, run_loadAgg hn h]
theorem o_box {v : Value} (hx : ev fr x = v) : xop P fr w ⟨d, .box T x, t, ps, af, g⟩ = .ok (.value (.pointer (some ⟨w.heap.size, 0, none⟩))) (w.alloc (.cells v.cells T)) := by
  simp [xop, execOp, hx, Instr.box, newVar, newRow, newObj, Sem.run]
theorem o_alloc {v : Value} (hz : ∀ w, (zeroValue T).run P w = .ok v w) : xop P fr w ⟨d, .alloc T, t, ps, af, g⟩ = .ok (.value (.pointer (some ⟨w.heap.size, 0, none⟩))) (w.alloc (.cells v.cells T)) := by
  simp [xop, execOp, Instr.alloc, hz, newVar, newRow, newObj, Sem.run]
theorem o_fa {fs : Array Field} {f n : Nat} {F : Field} (hP : P.underlying T = some (.struct fs)) (hf : fs[f]? = some F) (hs : ∀ w, (sizeOf F.type).run P w = .ok (n + 1) w) (hx : ev fr x = .pointer (some ⟨b, off, none⟩)) :
    xop P fr w ⟨d, .fieldAddr T x f, t, ps, af, g⟩ = .ok (.value (.pointer (some ⟨b, off + F.offset, none⟩))) w := by
  have e : (⟨b, off, none⟩ : Addr).add F.offset = ⟨b, off + F.offset, none⟩ := by
    unfold Addr.add
    by_cases h : F.offset = 0
    · rw [if_pos h, h]; rfl
    · rw [if_neg h]
  simp [xop, execOp, hx, Instr.fieldAt, Instr.sureAddr, run_underlying hP, hf, fieldPlace, hs, e]
theorem o_ia {e : TypeId} {n c i s : Nat} (hP : P.underlying T = some (.slice e)) (hs : ∀ w, (sizeOf e).run P w = .ok s w) (hx : ev fr x = .slice (some ⟨b, off, none⟩) n c) (hy : ev fr y = .int k (i : Int)) (hi : i < n) :
    xop P fr w ⟨d, .indexAddr T x y, t, ps, af, g⟩ = .ok (.value (.pointer (some ⟨b, off + i * s, none⟩))) w := by
  have e1 : (⟨b, off, none⟩ : Addr).add (i * s) = ⟨b, off + i * s, none⟩ := by
    unfold Addr.add
    by_cases h : i * s = 0
    · rw [if_pos h, h]; rfl
    · rw [if_neg h]
  have hi' : (i : Int) < n := by omega
  simp [xop, execOp, hx, hy, Instr.indexAt, asIntOf, run_underlying hP, hs, e1, hi]
end
end Go.Lx
/- Calls: of a named function, and of a closure. Nothing of a program stands here. -/
namespace Go.Lx
open Go Go.RowKit
set_option linter.unusedSimpArgs false
set_option linter.unusedVariables false
set_option linter.unnecessarySimpa false
section
variable {P : Program} {fr : Fr} {w : World} {d : Option Nat} {t : TypeId} {ps : String} {af : Array Edge} {g : Option (Nat × Bool)}
theorem o_call0 {f : FuncId} {tys : Array TypeId} (hc : ∀ args w, (callFunc f args).run P w = .ok (.enter f args) w)  :
    xop P fr w ⟨d, .call { callee := .value (.func f), args := #[], argTypes := tys }, t, ps, af, g⟩ = .ok (.enter f #[]) w := by
  skip
  simp [xop, execOp, resolve, ev, Deferred.ofValue, invoke, hc]
theorem o_call1 {f : FuncId} {x1 : Operand} {v1 : Value} {tys : Array TypeId} (hc : ∀ args w, (callFunc f args).run P w = .ok (.enter f args) w) (h1 : ev fr x1 = v1) :
    xop P fr w ⟨d, .call { callee := .value (.func f), args := #[x1], argTypes := tys }, t, ps, af, g⟩ = .ok (.enter f #[v1]) w := by
  subst h1
  simp [xop, execOp, resolve, ev, Deferred.ofValue, invoke, hc]
theorem o_call2 {f : FuncId} {x1 x2 : Operand} {v1 v2 : Value} {tys : Array TypeId} (hc : ∀ args w, (callFunc f args).run P w = .ok (.enter f args) w) (h1 : ev fr x1 = v1) (h2 : ev fr x2 = v2) :
    xop P fr w ⟨d, .call { callee := .value (.func f), args := #[x1, x2], argTypes := tys }, t, ps, af, g⟩ = .ok (.enter f #[v1, v2]) w := by
  subst h1 h2
  simp [xop, execOp, resolve, ev, Deferred.ofValue, invoke, hc]
theorem o_clo2 {f : FuncId} {y : Operand} {cs : Array Value} {x1 x2 : Operand} {v1 v2 : Value} {tys : Array TypeId} (hc : ∀ args w, (callFunc f args).run P w = .ok (.enter f args) w) (hf : ev fr y = .func (.func f) #[] cs) (h1 : ev fr x1 = v1) (h2 : ev fr x2 = v2) :
    xop P fr w ⟨d, .call { callee := .value y, args := #[x1, x2], argTypes := tys }, t, ps, af, g⟩ = .ok (.enter f (#[v1, v2] ++ cs)) w := by
  subst h1 h2
  simp [xop, execOp, resolve, hf, Deferred.ofValue, invoke, hc]
theorem o_call3 {f : FuncId} {x1 x2 x3 : Operand} {v1 v2 v3 : Value} {tys : Array TypeId} (hc : ∀ args w, (callFunc f args).run P w = .ok (.enter f args) w) (h1 : ev fr x1 = v1) (h2 : ev fr x2 = v2) (h3 : ev fr x3 = v3) :
    xop P fr w ⟨d, .call { callee := .value (.func f), args := #[x1, x2, x3], argTypes := tys }, t, ps, af, g⟩ = .ok (.enter f #[v1, v2, v3]) w := by
  subst h1 h2 h3
  simp [xop, execOp, resolve, ev, Deferred.ofValue, invoke, hc]
theorem o_call4 {f : FuncId} {x1 x2 x3 x4 : Operand} {v1 v2 v3 v4 : Value} {tys : Array TypeId} (hc : ∀ args w, (callFunc f args).run P w = .ok (.enter f args) w) (h1 : ev fr x1 = v1) (h2 : ev fr x2 = v2) (h3 : ev fr x3 = v3) (h4 : ev fr x4 = v4) :
    xop P fr w ⟨d, .call { callee := .value (.func f), args := #[x1, x2, x3, x4], argTypes := tys }, t, ps, af, g⟩ = .ok (.enter f #[v1, v2, v3, v4]) w := by
  subst h1 h2 h3 h4
  simp [xop, execOp, resolve, ev, Deferred.ofValue, invoke, hc]
end
theorem bnot_t {c : Bool} (h : (!c) = true) : c = false := by cases c <;> simp_all
theorem bnot_f {c : Bool} (h : (!c) = false) : c = true := by cases c <;> simp_all
theorem gsel {c : Bool} {v u : Value} (h : c = true) : (bif c then v else u) = v := by rw [h]; rfl
section
variable {rd : Option Nat} {P : Program} {n : Nat} {K : Fr → World → Prop} {fr : Fr} {w : World}
theorem Rg_mayCall {γ : Prop} {ops : Array Oper} {d : Option Nat} {op : Op} {ty : TypeId} {pos : String} {after : Array Edge} {rest : List Oper} {v : Value} {f : FuncId} {args : Array Value} {b c : Bool} (i g : Nat) (hi : (ops[i]?).bind (·.dst) = some g) (hc : fr g = .bool c) (hd : dstOk n d = true) (h : (c == b) = true → (execOp (ev fr) ⟨d, op, ty, pos, after, none⟩).run P w = .ok (.enter f args) w ∧ Ok P f args w fun v' w' => v' = v ∧ Ext γ w w') (hk : ∀ w', Ext γ w w' → Rg rd P n ops rest K (fr.put d (bif c == b then v else undef)) w') : Rg rd P n ops (⟨d, op, ty, pos, after, some (i, b)⟩ :: rest) K fr w := by
  cases hcb : (c == b) with
  | true =>
    have : c = b := by simpa using hcb
    subst this
    obtain ⟨h1, h2⟩ := h hcb
    refine Rg_on i g hi hc (Rg_enter hd h1 (h2.mono ?_))
    rintro v' w' ⟨rfl, x⟩
    have := hk w' x
    rw [hcb] at this
    exact this
  | false =>
    have := hk w (Ext.rfl' w)
    rw [hcb] at this
    exact Rg_off i g rfl hi hc hcb hd this
end
end Go.Lx
/- Loops: the slots that a round writes are told by a list; all others are as they were ahead of the loop. Nothing of a program stands here. -/
namespace Go.Lx
open Go Go.RowKit
set_option linter.unusedSimpArgs false
set_option linter.unusedVariables false
set_option linter.unnecessarySimpa false
def inR (R : List (Nat × Nat)) (j : Nat) : Bool := R.any fun p => Nat.ble p.1 j && Nat.ble j p.2
def mix (R : List (Nat × Nat)) (fr base : Fr) : Fr := ⟨fun j => bif inR R j then base j else fr j, fr.ds⟩
def setL (fr : Fr) : List (Nat × Value) → Fr
  | [] => fr
  | p :: r => (setL fr r).set p.1 p.2
def slotsOk (fr : Fr) : List (Nat × Value) → Prop
  | [] => True
  | p :: r => fr p.1 = p.2 ∧ slotsOk fr r
def Off (R : List (Nat × Nat)) (fr g : Fr) : Prop := g.ds = fr.ds ∧ ∀ j, inR R j = false → g j = fr j
theorem set_ne {fr : Fr} {d j : Nat} {v : Value} (h : j ≠ d) : fr.set d v j = fr j := by
  have : Nat.beq j d = false := by
    cases hx : Nat.beq j d with
    | false => rfl
    | true => exact absurd (Nat.eq_of_beq_eq_true hx) h
  simp only [Fr.set, this, cond_false]
theorem set_eq {fr : Fr} {d : Nat} {v : Value} : fr.set d v d = v := by
  have : Nat.beq d d = true := Nat.beq_refl d
  simp only [Fr.set, this, cond_true]
theorem set_same {fr : Fr} {d : Nat} {v : Value} (h : fr d = v) : fr.set d v = fr := by
  refine Fr.ext' (fun j => ?_) rfl
  by_cases hj : j = d
  · subst hj; rw [set_eq, h]
  · rw [set_ne hj]
theorem setL_same {fr : Fr} : ∀ {L : List (Nat × Value)}, slotsOk fr L → setL fr L = fr
  | [], _ => rfl
  | p :: r, h => by rw [setL, setL_same h.2, set_same h.1]
theorem mix_same {R : List (Nat × Nat)} {fr g : Fr} (h : Off R fr g) : mix R fr g = g := by
  refine Fr.ext' (fun j => ?_) h.1.symm
  simp only [mix]
  cases hj : inR R j with
  | true => rfl
  | false => rw [cond_false, h.2 j hj]
theorem off_refl (R : List (Nat × Nat)) (fr : Fr) : Off R fr fr := ⟨rfl, fun _ _ => rfl⟩
theorem off_set {R : List (Nat × Nat)} {fr g : Fr} {d : Nat} {v : Value} (hd : inR R d = true) (h : Off R fr g) : Off R fr (g.set d v) := by
  refine ⟨h.1, fun j hj => ?_⟩
  rw [set_ne (by intro e; subst e; rw [hd] at hj; cases hj)]
  exact h.2 j hj
theorem off_put {R : List (Nat × Nat)} {fr g : Fr} {d : Nat} {v : Value} (hd : inR R d = true) (h : Off R fr g) : Off R fr (g.put (some d) v) := off_set hd h
theorem off_putN {R : List (Nat × Nat)} {fr g : Fr} {v : Value} (h : Off R fr g) : Off R fr (g.put none v) := h
theorem off_setL {R : List (Nat × Nat)} {fr g : Fr} : ∀ {L : List (Nat × Value)}, (L.all fun p => inR R p.1) = true → Off R fr g → Off R fr (setL g L)
  | [], _, h => h
  | p :: r, hL, h => by
    rw [List.all_cons, Bool.and_eq_true] at hL
    exact off_set hL.1 (off_setL hL.2 h)
theorem off_mix {R : List (Nat × Nat)} {fr base : Fr} : Off R fr (mix R fr base) := by
  refine ⟨rfl, fun j hj => ?_⟩
  simp only [mix, hj, cond_false]
def subR (R' R : List (Nat × Nat)) : Bool := R'.all fun p => R.any fun q => Nat.ble q.1 p.1 && Nat.ble p.2 q.2
theorem inR_sub {R' R : List (Nat × Nat)} {j : Nat} (h : subR R' R = true) (hj : inR R' j = true) : inR R j = true := by
  simp only [inR, List.any_eq_true, Bool.and_eq_true, Nat.ble_eq] at hj ⊢
  obtain ⟨p, hp, h1, h2⟩ := hj
  simp only [subR, List.all_eq_true, List.any_eq_true, Bool.and_eq_true, Nat.ble_eq] at h
  obtain ⟨q, hq, h3, h4⟩ := h p hp
  exact ⟨q, hq, by omega, by omega⟩
theorem off_mix' {R R' : List (Nat × Nat)} {fr fr' base : Fr} (hs : subR R' R = true) (h : Off R fr fr') : Off R fr (mix R' fr' base) := by
  refine ⟨h.1, fun j hj => ?_⟩
  have : inR R' j = false := by
    cases hx : inR R' j with
    | false => rfl
    | true => rw [inR_sub hs hx] at hj; cases hj
  simp only [mix, this, cond_false]
  exact h.2 j hj
theorem W_for {rd : Option Nat} {P : Program} {n : Nat} {c : Code} {K : Fr → World → Prop} {E : Nat → Fr → World → Prop} {Rt : Fr → World → Prop} {fr : Fr} {w : World} {α : Type}
    (R : List (Nat × Nat)) (S : α → List (Nat × Value)) (I : α → World → Prop) (mu : α → Nat) (x0 : α) (hS : slotsOk fr (S x0)) (h0 : I x0 w)
    (hr : ∀ x base w, I x w → W rd P n c (fun fr' w' => ∃ y, slotsOk fr' (S y) ∧ Off R fr fr' ∧ I y w' ∧ mu y < mu x) E Rt (setL (mix R fr base) (S x)) w) :
    W rd P n (.loop c) K E Rt fr w := by
  refine W_loop (fun x fr' w' => slotsOk fr' (S x) ∧ Off R fr fr' ∧ I x w') mu x0 ⟨hS, off_refl _ _, h0⟩ ?_
  rintro x fr' w' ⟨h1, h2, h3⟩
  have := hr x fr' w' h3
  rw [mix_same h2, setL_same h1] at this
  refine this.mono ?_ (fun _ _ _ h => h) (fun _ _ h => h)
  rintro fr2 w2 ⟨y, h1, h2, h3, h4⟩
  exact ⟨y, ⟨h1, h2, h3⟩, h4⟩
end Go.Lx
/- Slices that are read: a slice of elements of k cells each, told by a list. Nothing of a program stands here. -/
namespace Go.Lx
open Go Go.RowKit
set_option linter.unusedSimpArgs false
set_option linter.unusedVariables false
set_option linter.unnecessarySimpa false
structure Sl {α : Type} (enc : α → List Value) (k : Nat) (F : Nat → Prop) (w : World) (a : Option Addr) (c : Nat) (l : List α) : Prop where
  le : l.length ≤ c
  cap : c ≤ maxLen
  nil : a = none → c = 0
  el : ∀ i x, l[i]? = some x → ∃ b off, a = some ⟨b, off, none⟩ ∧ (F b ∧ b < w.heap.size) ∧ At w b (off + i * k) (enc x) ∧ (enc x).length = k
def Rd {α : Type} (enc : α → List Value) (k : Nat) (F : Nat → Prop) (w : World) (v : Value) (l : List α) : Prop := ∃ a c, v = .slice a l.length c ∧ Sl enc k F w a c l
section
variable {α : Type} {enc : α → List Value} {k : Nat} {F : Nat → Prop} {w w' : World} {a : Option Addr} {c : Nat} {l : List α}
theorem Sl.keep {γ : Prop} {D : Nat → Prop} (h : Sl enc k F w a c l) (x : Bel γ D w w') (hd : ∀ b, b < w.heap.size → F b → ¬ D b) : Sl enc k F w' a c l :=
  ⟨h.le, h.cap, h.nil, fun i y hy => let ⟨b, off, h1, h2, h3, h4⟩ := h.el i y hy; ⟨b, off, h1, ⟨h2.1, Nat.lt_of_lt_of_le h2.2 x.size⟩, h3.keep x (hd b h2.2 h2.1), h4⟩⟩
theorem Sl.ext {γ : Prop} (h : Sl enc k F w a c l) (x : Ext γ w w') : Sl enc k F w' a c l := h.keep x fun _ _ _ h => h
theorem Sl.mono {F' : Nat → Prop} (h : Sl enc k F w a c l) (hF : ∀ b, b < w.heap.size → F b → F' b) : Sl enc k F' w a c l :=
  ⟨h.le, h.cap, h.nil, fun i y hy => let ⟨b, off, h1, h2, h3, h4⟩ := h.el i y hy; ⟨b, off, h1, ⟨hF b h2.2 h2.1, h2.2⟩, h3, h4⟩⟩
theorem Sl.top (h : Sl enc k F w a c l) : Sl enc k (Lt w.heap.size) w a c l := h.mono fun _ hb _ => hb
theorem Sl.rd (h : Sl enc k F w a c l) : Rd enc k F w (.slice a l.length c) l := ⟨a, c, rfl, h⟩
theorem Sl.trd (h : Sl enc k F w a c l) : Rd enc k (Lt w.heap.size) w (.slice a l.length c) l := h.top.rd
theorem Sl.none : Sl enc k F w none 0 ([] : List α) := ⟨Nat.le_refl _, Nat.zero_le _, fun _ => rfl, fun i x h => by simp at h⟩
theorem Rd.none : Rd enc k F w (.slice none 0 0) ([] : List α) := ⟨_, _, rfl, Sl.none⟩
theorem Rd.keep {γ : Prop} {D : Nat → Prop} {v : Value} (h : Rd enc k F w v l) (x : Bel γ D w w') (hd : ∀ b, b < w.heap.size → F b → ¬ D b) : Rd enc k F w' v l := let ⟨a, c, h1, h2⟩ := h; ⟨a, c, h1, h2.keep x hd⟩
theorem Rd.ext {γ : Prop} {v : Value} (h : Rd enc k F w v l) (x : Ext γ w w') : Rd enc k F w' v l := h.keep x fun _ _ _ h => h
theorem Rd.mono {F' : Nat → Prop} {v : Value} (h : Rd enc k F w v l) (hF : ∀ b, b < w.heap.size → F b → F' b) : Rd enc k F' w v l := let ⟨a, c, h1, h2⟩ := h; ⟨a, c, h1, h2.mono hF⟩
theorem Rd.top {v : Value} (h : Rd enc k F w v l) : Rd enc k (Lt w.heap.size) w v l := h.mono fun _ hb _ => hb
theorem Sl.len (h : Sl enc k F w a c l) : (l.length : Int) ≤ 9223372036854775807 := by
  have h1 := h.le; have h2 := h.cap; unfold maxLen at h2; omega
end
def elp (a : Option Addr) (j : Nat) : Option Addr := a.map fun a => a.add j
theorem elp_some (b off j : Nat) : elp (some ⟨b, off, none⟩) j = some ⟨b, off + j, none⟩ := by
  simp only [elp, Option.map_some, Addr.add]
  by_cases h : j = 0
  · subst h; rfl
  · rw [if_neg h]
section
variable {P : Program} {fr : Fr} {w : World} {d : Option Nat} {t : TypeId} {ps : String} {af : Array Edge} {g : Option (Nat × Bool)} {x y z : Operand} {T U : TypeId} {α : Type} {enc : α → List Value} {k : Nat} {F : Nat → Prop} {a : Option Addr} {c : Nat} {l : List α} {K : IntKind}
theorem o_iaR {e : TypeId} {n i s : Nat} (hP : P.underlying T = some (.slice e)) (hs : ∀ w, (sizeOf e).run P w = .ok s w) (hr : Sl enc k F w a c l) (hx : ev fr x = .slice a l.length n) (hy : ev fr y = .int K (i : Int)) (hi : i < l.length) :
    xop P fr w ⟨d, .indexAddr T x y, t, ps, af, g⟩ = .ok (.value (.pointer (elp a (i * s)))) w := by
  obtain ⟨b, off, rfl, _⟩ := hr.el i _ (List.getElem?_eq_getElem hi)
  rw [elp_some]
  exact o_ia hP hs hx hy hi
theorem o_ldR {i : Nat} {v : Value} {y : α} (ha : ∀ w, (isAgg T).run P w = .ok false w) (hr : Sl enc k F w a c l) (hk : k = 1) (hx : ev fr x = .pointer (elp a (i * 1))) (hi : l[i]? = some y) (hv : enc y = [v]) :
    xop P fr w ⟨d, .load T x, t, ps, af, g⟩ = .ok (.value v) w := by
  subst hk
  obtain ⟨b, off, rfl, _, h3, _⟩ := hr.el i _ hi
  rw [elp_some] at hx
  rw [hv] at h3
  exact o_load1 ha hx (h3 0 v rfl)
theorem o_ldRS {i s : Nat} {y : α} (ha : ∀ w, (isAgg T).run P w = .ok true w) (hs : ∀ w, (sizeOf T).run P w = .ok s w) (hr : Sl enc s F w a c l) (hx : ev fr x = .pointer (elp a (i * s))) (hi : l[i]? = some y) :
    xop P fr w ⟨d, .load T x, t, ps, af, g⟩ = .ok (.value (.agg (enc y).toArray)) w := by
  obtain ⟨b, off, rfl, _, h3, h4⟩ := hr.el i _ hi
  rw [elp_some] at hx
  exact o_loadS ha hs hx h3 h4
theorem o_slto {e : TypeId} {n c s : Nat} {j : Nat} (hP : P.underlying T = some (.slice e)) (hs : ∀ w, (sizeOf e).run P w = .ok s w) (hx : ev fr x = .slice a n c) (hj : ev fr z = .int .i64 (j : Int)) (hl : j ≤ c) :
    xop P fr w ⟨d, .slice T x none (some z) none, t, ps, af, g⟩ = .ok (.value (.slice a j c)) w := by
  have e0 : (if c = 0 then a else a.map (·.add (0 * s))) = a := by
    by_cases h : c = 0
    · rw [if_pos h]
    · rw [if_neg h]; cases a with
      | none => rfl
      | some v => simp [Addr.add]
  simp [xop, execOp, hx, hj, Instr.slice, Instr.sliceAt, Instr.sliceBounds, Instr.sliceBound, asIntOf, run_underlying hP, hl, hs]
  simpa using e0
end
end Go.Lx
