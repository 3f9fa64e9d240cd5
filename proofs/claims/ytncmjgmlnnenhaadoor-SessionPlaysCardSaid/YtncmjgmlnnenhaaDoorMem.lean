/- Memory: what a block holds, how a world goes on, and the operations that read and write cells. Nothing of a program stands here. -/
import Derived.Test.YtncmjgmlnnenhaaDoorOps
import Derived.Laws.AppendOwn
namespace Go.Lx
open Go Go.RowKit
set_option linter.unusedSimpArgs false
set_option linter.unusedVariables false
set_option linter.unnecessarySimpa false
/-- w' goes on from w: what w had stands, but for the blocks of D. -/
structure Bel (β : Prop) (D : Nat → Prop) (w w' : World) : Prop where
  os : w'.os = w.os
  tape : w'.tape = w.tape
  output : w'.output = w.output
  size : w.heap.size ≤ w'.heap.size
  block : ∀ b, b < w.heap.size → ¬ D b → w'.heap[b]? = w.heap[b]?
  drawn : β → w.drawn ≤ w'.drawn
/-- No block. -/
abbrev NoB : Nat → Prop := fun _ => False
/-- Blocks below n, from n on, and between two marks. -/
abbrev Lt (n : Nat) : Nat → Prop := fun b => b < n
abbrev Ge (n : Nat) : Nat → Prop := fun b => n ≤ b
abbrev Rng (m n : Nat) : Nat → Prop := fun b => m ≤ b ∧ b < n
/-- The blocks that were made from w to w'. -/
abbrev Fsh (w w' : World) : Nat → Prop := Rng w.heap.size w'.heap.size
/-- β: also the tape has not gone back (asked for by the library's sort alone). -/
abbrev Ext (β : Prop) (w w' : World) : Prop := Bel β NoB w w'
theorem Bel.refl {β : Prop} (D : Nat → Prop) (w : World) : Bel β D w w := ⟨rfl, rfl, rfl, Nat.le_refl _, fun _ _ _ => rfl, fun _ => Nat.le_refl _⟩
theorem Bel.mono {β : Prop} {D D' : Nat → Prop} {w w' : World} (h : Bel β D w w') (hD : ∀ b, b < w.heap.size → D b → D' b) : Bel β D' w w' :=
  ⟨h.os, h.tape, h.output, h.size, fun b hb hn => h.block b hb fun x => hn (hD b hb x), h.drawn⟩
theorem Bel.weak {β : Prop} {D : Nat → Prop} {w w' : World} (h : Bel β D w w') : Bel False D w w' := ⟨h.os, h.tape, h.output, h.size, h.block, False.elim⟩
theorem Bel.tr {β γ : Prop} {D D1 D2 : Nat → Prop} {a b c : World} (h : Bel β D1 a b) (k : Bel γ D2 b c) (h1 : ∀ g, g < a.heap.size → D1 g → D g) (h2 : ∀ g, g < a.heap.size → D2 g → D g) (hg : β → γ := by first | exact fun h => h | exact fun _ => trivial | exact False.elim) : Bel β D a c :=
  ⟨k.os.trans h.os, k.tape.trans h.tape, k.output.trans h.output, Nat.le_trans h.size k.size, fun g hb hn =>
    (k.block g (Nat.lt_of_lt_of_le hb h.size) fun x => hn (h2 g hb x)).trans (h.block g hb fun x => hn (h1 g hb x)), fun x => Nat.le_trans (h.drawn x) (k.drawn (hg x))⟩
/-- Behind h comes a step that leaves all alone, one of the same blocks, one of other blocks that were not there. -/
theorem Bel.ex {β γ : Prop} {D : Nat → Prop} {a b c : World} (h : Bel β D a b) (k : Ext γ b c) (hg : β → γ := by first | exact fun h => h | exact fun _ => trivial | exact False.elim) : Bel β D a c := h.tr k (fun _ _ x => x) (fun _ _ x => x.elim) hg
theorem Bel.same {β γ : Prop} {D : Nat → Prop} {a b c : World} (h : Bel β D a b) (k : Bel γ D b c) (hg : β → γ := by first | exact fun h => h | exact fun _ => trivial | exact False.elim) : Bel β D a c := h.tr k (fun _ _ x => x) (fun _ _ x => x) hg
theorem Bel.out {β γ : Prop} {D D' : Nat → Prop} {a b c : World} (h : Bel β D a b) (k : Bel γ D' b c) (hd : ∀ g, g < a.heap.size → D' g → D g) (hg : β → γ := by first | exact fun h => h | exact fun _ => trivial | exact False.elim) : Bel β D a c := h.tr k (fun _ _ x => x) hd hg
theorem Ext.rfl' {β : Prop} (w : World) : Ext β w w := Bel.refl _ _
theorem Ext.tr {β γ : Prop} {a b c : World} (h : Ext β a b) (k : Ext γ b c) (hg : β → γ := by first | exact fun h => h | exact fun _ => trivial | exact False.elim) : Ext β a c := Bel.ex h k hg
theorem Bel.below {β : Prop} {D : Nat → Prop} {B : Nat} {w w' : World} (h : Bel β D w w') (hB : ∀ b, b < B → b < w.heap.size ∧ ¬ D b) : Below B w w' :=
  ⟨h.os, h.tape, h.output, h.size, fun k hk => h.block k (hB k hk).1 (hB k hk).2⟩
theorem Ext.below {β : Prop} {w w' : World} (h : Ext β w w') : Below w.heap.size w w' := Bel.below h fun _ hb => ⟨hb, id⟩
theorem Ext.ofBelow {w w' : World} (h : Below w.heap.size w w') : Ext False w w' := ⟨h.os, h.tape, h.output, h.size, fun b hb _ => h.block b hb, False.elim⟩
theorem Ext.alloc {β : Prop} (w : World) (o : Obj) : Ext β w (w.alloc o) := ⟨rfl, rfl, rfl, by simp, fun b hb _ => heap_alloc_old w _ hb, fun _ => Nat.le_refl _⟩
theorem Ext.drew {β : Prop} (w : World) : Ext β w w.drew := ⟨rfl, rfl, rfl, Nat.le_refl _, fun _ _ _ => rfl, fun _ => Nat.le_succ _⟩
/-- The cells from offset off of block b. -/
def At (w : World) (b off : Nat) (cs : List Value) : Prop := ∀ i v, cs[i]? = some v → w.cell? ⟨b, off + i, none⟩ = some v
theorem At.lt {w : World} {b off : Nat} {c : Value} {cs : List Value} (h : At w b off (c :: cs)) : b < w.heap.size :=
  World.block_lt_of_cell? w ⟨b, off + 0, none⟩ (h 0 c rfl)
theorem At.blk {w w' : World} {b off : Nat} {cs : List Value} (h : At w b off cs) (hb : w'.heap[b]? = w.heap[b]?) : At w' b off cs :=
  fun i v hi => by rw [World.cell?_of_block (w := w) (a := ⟨b, off + i, none⟩) hb]; exact h i v hi
theorem At.keep {γ : Prop} {D : Nat → Prop} {w w' : World} {b off : Nat} {cs : List Value} (h : At w b off cs) (x : Bel γ D w w') (hd : ¬ D b) : At w' b off cs := by
  cases cs with
  | nil => intro i v hi; simp at hi
  | cons c cs => exact h.blk (x.block b h.lt hd)
theorem At.ext {γ : Prop} {w w' : World} {b off : Nat} {cs : List Value} (h : At w b off cs) (x : Ext γ w w') : At w' b off cs := h.keep x id
theorem At.alloc (w : World) (cs : Array Value) (T : TypeId) (fz : Nat × Nat) : At (w.alloc (.cells cs T fz)) w.heap.size 0 cs.toList := by
  intro i v hi
  rw [Nat.zero_add]
  simp only [World.cell?, World.alloc, Array.getElem?_push_size]
  simpa using hi
theorem At.get {w : World} {b off : Nat} {cs : List Value} {v : Value} (h : At w b off cs) (i : Nat) (hi : cs[i]? = some v) : w.cell? ⟨b, off + i, none⟩ = some v := h i v hi
theorem At.sub {w : World} {b off : Nat} {cs : List Value} (h : At w b off cs) (i k : Nat) : At w b (off + i) ((cs.drop i).take k) := by
  intro j v hj
  have h1 : cs[i + j]? = some v := by
    rw [List.getElem?_take] at hj
    split at hj
    · rw [List.getElem?_drop] at hj; exact hj
    · cases hj
  have := h (i + j) v h1
  rwa [show off + (i + j) = off + i + j from by omega] at this
section
variable {P : Program} {fr : Fr} {w : World} {d : Option Nat} {t : TypeId} {ps : String} {af : Array Edge} {g : Option (Nat × Bool)} {x y z : Operand} {k : IntKind} {T U : TypeId} {b off : Nat}
theorem run_load_cell {v : Value} (h : w.cell? ⟨b, off, none⟩ = some v) : (load ⟨b, off, none⟩).run P w = .ok v w := by
  simp [load, Sem.run, h]
theorem o_load1 {v : Value} (ha : ∀ w, (isAgg T).run P w = .ok false w) (hx : ev fr x = .pointer (some ⟨b, off, none⟩)) (h : w.cell? ⟨b, off, none⟩ = some v) : xop P fr w ⟨d, .load T x, t, ps, af, g⟩ = .ok (.value v) w := by
  simp [xop, execOp, hx, Instr.loadAt, Instr.sureAddr, loadVar, ha, load, Sem.run, h]
theorem run_loadCellsFrom (a : Addr) (cs : List Value) : ∀ (n i : Nat) (acc : Array Value), n + i = cs.length → (∀ j v, cs[j]? = some v → w.cell? (a.add j) = some v) →
    (loadCellsFrom a i n acc).run P w = .ok (acc ++ (cs.drop i).toArray) w := by
  intro n
  induction n with
  | zero =>
    intro i acc hn h
    simp [loadCellsFrom, List.drop_eq_nil_of_le (by omega : cs.length ≤ i)]
  | succ n ih =>
    intro i acc hn h
    have hi : i < cs.length := by omega
    have hc := h i cs[i] (List.getElem?_eq_getElem hi)
    have hl : (load (a.add i)).run P w = .ok cs[i] w := by simp [load, Sem.run, hc]
    rw [loadCellsFrom]
    simp only [Sem.run_bind, hl, Result.andThen_ok]
    rw [ih (i + 1) _ (by omega) h, List.drop_eq_getElem_cons hi]
    simp
theorem run_loadAgg {n : Nat} {cs : List Value} (hn : cs.length = n) (h : At w b off cs) : (loadCells ⟨b, off, none⟩ n).run P w = .ok cs.toArray w := by
  unfold loadCells
  rw [run_loadCellsFrom (P := P) (w := w) ⟨b, off, none⟩ cs n 0 #[] (by omega)]
  · simp
  · intro j v hj
    have := h j v hj
    unfold Addr.add
    by_cases hz : j = 0
    · subst hz; simpa using this
    · rw [if_neg hz]; exact this
theorem o_loadS {n : Nat} {cs : List Value} (ha : ∀ w, (isAgg T).run P w = .ok true w) (hs : ∀ w, (sizeOf T).run P w = .ok n w) (hx : ev fr x = .pointer (some ⟨b, off, none⟩)) (h : At w b off cs) (hn : cs.length = n) :
    xop P fr w ⟨d, .load T x, t, ps, af, g⟩ = .ok (.value (.agg cs.toArray)) w := by
  simp [xop, execOp, hx, Instr.loadAt, Instr.sureAddr, loadVar, ha, hs, run_loadAgg hn h]
theorem o_box {v : Value} (hx : ev fr x = v) : xop P fr w ⟨d, .box T x, t, ps, af, g⟩ = .ok (.value (.pointer (some ⟨w.heap.size, 0, none⟩))) (w.alloc (.cells v.cells T)) := by
  simp [xop, execOp, hx, Instr.box, newVar, newRow, newObj, Sem.run]
theorem o_alloc {v : Value} (hz : ∀ w, (zeroValue T).run P w = .ok v w) : xop P fr w ⟨d, .alloc T, t, ps, af, g⟩ = .ok (.value (.pointer (some ⟨w.heap.size, 0, none⟩))) (w.alloc (.cells v.cells T)) := by
  simp [xop, execOp, Instr.alloc, hz, newVar, newRow, newObj, Sem.run]
theorem o_fa {fs : Array Field} {f n : Nat} {F : Field} (hP : P.underlying T = some (.struct fs)) (hf : fs[f]? = some F) (hs : ∀ w, (sizeOf F.type).run P w = .ok (n + 1) w) (hx : ev fr x = .pointer (some ⟨b, off, none⟩)) :
    xop P fr w ⟨d, .fieldAddr T x f, t, ps, af, g⟩ = .ok (.value (.pointer (some ⟨b, off + F.offset, none⟩))) w := by
  have e : (⟨b, off, none⟩ : Addr).add F.offset = ⟨b, off + F.offset, none⟩ := by
    unfold Addr.add
    by_cases h : F.offset = 0
    · rw [if_pos h, h]; rfl
    · rw [if_neg h]
  simp [xop, execOp, hx, Instr.fieldAt, Instr.sureAddr, run_underlying hP, hf, fieldPlace, hs, e]
theorem o_ia {e : TypeId} {n c i s : Nat} (hP : P.underlying T = some (.slice e)) (hs : ∀ w, (sizeOf e).run P w = .ok s w) (hx : ev fr x = .slice (some ⟨b, off, none⟩) n c) (hy : ev fr y = .int k (i : Int)) (hi : i < n) :
    xop P fr w ⟨d, .indexAddr T x y, t, ps, af, g⟩ = .ok (.value (.pointer (some ⟨b, off + i * s, none⟩))) w := by
  have e1 : (⟨b, off, none⟩ : Addr).add (i * s) = ⟨b, off + i * s, none⟩ := by
    unfold Addr.add
    by_cases h : i * s = 0
    · rw [if_pos h, h]; rfl
    · rw [if_neg h]
  have hi' : (i : Int) < n := by omega
  simp [xop, execOp, hx, hy, Instr.indexAt, asIntOf, run_underlying hP, hs, e1, hi]
end
end Go.Lx
