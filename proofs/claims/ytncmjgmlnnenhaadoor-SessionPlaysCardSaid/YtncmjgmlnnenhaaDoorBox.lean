/- Blocks of the call's own that are written: a variable whose address is taken. Nothing of a program stands here. -/
import Derived.Test.YtncmjgmlnnenhaaDoorDraw
namespace Go.Lx
open Go Go.RowKit
set_option linter.unusedSimpArgs false
set_option linter.unusedVariables false
set_option linter.unnecessarySimpa false
/-- Block b of the call's own, whole. -/
def Box (w : World) (b : Nat) (T : TypeId) (cs : List Value) : Prop := w.heap[b]? = some (.cells cs.toArray T (0, 0))
theorem Box.lt {w : World} {b : Nat} {T : TypeId} {cs : List Value} (h : Box w b T cs) : b < w.heap.size := (Array.getElem?_eq_some_iff.1 h).1
theorem Box.keep {γ : Prop} {D : Nat → Prop} {w w' : World} {b : Nat} {T : TypeId} {cs : List Value} (h : Box w b T cs) (x : Bel γ D w w') (hd : ¬ D b) : Box w' b T cs := by
  unfold Box; rw [x.block b h.lt hd]; exact h
theorem Box.ext {γ : Prop} {w w' : World} {b : Nat} {T : TypeId} {cs : List Value} (h : Box w b T cs) (x : Ext γ w w') : Box w' b T cs := h.keep x id
theorem Box.at {w : World} {b : Nat} {T : TypeId} {cs : List Value} (h : Box w b T cs) : At w b 0 cs := by
  intro i v hi
  simp only [World.cell?, Nat.zero_add]
  rw [h]
  simpa using hi
theorem Box.alloc (w : World) (cs : Array Value) (T : TypeId) : Box (w.alloc (.cells cs T)) w.heap.size T cs.toList := by
  unfold Box; rw [Array.toArray_toList]; exact heap_alloc_new w _
/-- Block b alone. -/
abbrev Only (b : Nat) : Nat → Prop := fun g => g = b
section
variable {rd : Option Nat} {P : Program} {n : Nat} {K : Fr → World → Prop} {fr : Fr} {w : World}
theorem Rg_newB {ops : Array Oper} {d : Option Nat} {op : Op} {ty : TypeId} {pos : String} {af : Array Edge} {rest : List Oper} {cs : Array Value} {T : TypeId} (hd : dstOk n d = true)
    (h : (execOp (ev fr) ⟨d, op, ty, pos, af, none⟩).run P w = .ok (.value (.pointer (some ⟨w.heap.size, 0, none⟩))) (w.alloc (.cells cs T)))
    (hk : ∀ b w', Ext True w w' → w.heap.size ≤ b → Box w' b T cs.toList → Rg rd P n ops rest K (fr.put d (.pointer (some ⟨b, 0, none⟩))) w') : Rg rd P n ops (⟨d, op, ty, pos, af, none⟩ :: rest) K fr w :=
  Rg_run hd h (hk _ _ (Ext.alloc _ _) (Nat.le_refl _) (Box.alloc w cs T))
def splice (cs : List Value) (off : Nat) (vs : List Value) : List Value := cs.take off ++ vs ++ cs.drop (off + vs.length)
def oneL : List Value → Bool
  | [] => true
  | v :: r => v.oneCell' && oneL r
theorem oneL.mem : ∀ {l : List Value}, oneL l = true → ∀ v ∈ l, v.oneCell' = true
  | [], _, v, hv => by simp at hv
  | u :: r, h, v, hv => by
    simp only [oneL, Bool.and_eq_true] at h
    rcases List.mem_cons.1 hv with rfl | hv
    · exact h.1
    · exact oneL.mem h.2 v hv
theorem Rg_store {ops : Array Oper} {rest : List Oper} {d : Option Nat} {ty : TypeId} {pos : String} {af : Array Edge} {U T : TypeId} {x y : Operand} {b off k : Nat} {cs : List Value} {v : Value}
    (hd : dstOk n d = true) (hs : ∀ w, (sizeOf U).run P w = .ok k w) (hx : ev fr x = .pointer (some ⟨b, off, none⟩)) (hy : ev fr y = v) (hb : Box w b T cs) (hv : v.cells.toList.length = k) (h1 : oneL v.cells.toList = true) (hle : Nat.ble (off + v.cells.toList.length) cs.length = true)
    (hk : ∀ w', Bel True (Only b) w w' → Box w' b T (splice cs off v.cells.toList) → Rg rd P n ops rest K (fr.put d undef) w') : Rg rd P n ops (⟨d, .store U x y, ty, pos, af, none⟩ :: rest) K fr w := by
  have hst := run_storeCells_at (P := P) b off T v.cells.toList 0 cs.toArray w hb (by simpa using hle) (oneL.mem h1)
  simp only [Nat.add_zero] at hst
  have hsz : v.cells.size = k := by rw [← Array.length_toList]; exact hv
  refine Rg_skip hd (w' := w.setRow b (cs.toArray.toList.take off ++ v.cells.toList ++ cs.toArray.toList.drop (off + v.cells.toList.length)).toArray) ?_ (hk _ ?_ ?_)
  · simp only [execOp, hx, hy, Instr.storeAt, Instr.sureAddr, storeVar, Sem.run_bind, Sem.run_pure, Result.andThen_ok, hs]
    simp [hsz, hst]
  · exact ⟨rfl, rfl, rfl, by simp, fun j _ hj => setRow_other w b j _ hj, fun _ => Nat.le_refl _⟩
  · exact setRow_heap w b cs.toArray _ T _ hb
/-- A store to the whole of a block. -/
theorem Rg_storeW {ops : Array Oper} {rest : List Oper} {d : Option Nat} {ty : TypeId} {pos : String} {af : Array Edge} {U T : TypeId} {x y : Operand} {b k : Nat} {cs : List Value} {v : Value}
    (hd : dstOk n d = true) (hs : ∀ w, (sizeOf U).run P w = .ok k w) (hx : ev fr x = .pointer (some ⟨b, 0, none⟩)) (hy : ev fr y = v) (hb : Box w b T cs) (hv : v.cells.toList.length = k) (h1 : oneL v.cells.toList = true) (hle : v.cells.toList.length = cs.length)
    (hk : ∀ w', Bel True (Only b) w w' → Box w' b T v.cells.toList → Rg rd P n ops rest K (fr.put d undef) w') : Rg rd P n ops (⟨d, .store U x y, ty, pos, af, none⟩ :: rest) K fr w := by
  refine Rg_store hd hs hx hy hb hv h1 (by rw [hle]; simp) fun w' c h => hk w' c ?_
  have e2 : splice cs 0 v.cells.toList = v.cells.toList := by
    unfold splice
    rw [List.take_zero, List.nil_append, Nat.zero_add, List.drop_of_length_le (by rw [hle]; exact Nat.le_refl _), List.append_nil]
  rwa [e2] at h
/-- A new block, stored to at once. -/
theorem Rg_alst {ops : Array Oper} {rest : List Oper} {d : Nat} {e : Option Nat} {ty ty' : TypeId} {pos pos' : String} {af af' : Array Edge} {T U : TypeId} {y : Operand} {k : Nat} {v z : Value}
    (hd : dstOk n (some d) = true) (he : dstOk n e = true) (hz : ∀ w, (zeroValue T).run P w = .ok z w) (hzk : z.cells.toList.length = k) (hs : ∀ w, (sizeOf U).run P w = .ok k w) (hy : ∀ p, ev (fr.put (some d) p) y = v) (hv : v.cells.toList.length = k) (h1 : oneL v.cells.toList = true)
    (hk : ∀ b w', Ext True w w' → w.heap.size ≤ b → Box w' b T v.cells.toList → Rg rd P n ops rest K ((fr.put (some d) (.pointer (some ⟨b, 0, none⟩))).put e undef) w') :
    Rg rd P n ops (⟨some d, .alloc T, ty, pos, af, none⟩ :: ⟨e, .store U (.tmp d) y, ty', pos', af', none⟩ :: rest) K fr w := by
  refine Rg_newB hd (o_alloc hz) fun b w1 x1 hb1 h => ?_
  have hx : ev (fr.put (some d) (.pointer (some ⟨b, 0, none⟩))) (.tmp d) = .pointer (some ⟨b, 0, none⟩) := by
    show Fr.set _ _ _ _ = _
    exact set_eq
  refine Rg_store (k := k) he hs hx (hy _) h hv h1 (by rw [hv, hzk]; simp) fun w2 c h2 => ?_
  refine hk b w2 (Bel.out x1 c fun g hg e => by simp only [Only] at e; omega) hb1 ?_
  have e2 : splice z.cells.toList 0 v.cells.toList = v.cells.toList := by
    unfold splice
    rw [List.take_zero, List.nil_append, Nat.zero_add, List.drop_of_length_le (by rw [hv, hzk]; exact Nat.le_refl _), List.append_nil]
  rw [e2] at h2
  exact h2
end
end Go.Lx
