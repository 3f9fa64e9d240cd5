/- Slices that are read: a slice of elements of k cells each, told by a list. Nothing of a program stands here. -/
import Derived.Test.YtncmjgmlnnenhaaDoorLoop
namespace Go.Lx
open Go Go.RowKit
set_option linter.unusedSimpArgs false
set_option linter.unusedVariables false
set_option linter.unnecessarySimpa false
/-- The slice (a, l.length, c) holds the list l: element i lies at cells enc x; all its memory lies in blocks of F. -/
structure Sl {α : Type} (enc : α → List Value) (k : Nat) (F : Nat → Prop) (w : World) (a : Option Addr) (c : Nat) (l : List α) : Prop where
  le : l.length ≤ c
  cap : c ≤ maxLen
  nil : a = none → c = 0
  el : ∀ i x, l[i]? = some x → ∃ b off, a = some ⟨b, off, none⟩ ∧ (F b ∧ b < w.heap.size) ∧ At w b (off + i * k) (enc x) ∧ (enc x).length = k
/-- A slice value that reads as a list. -/
def Rd {α : Type} (enc : α → List Value) (k : Nat) (F : Nat → Prop) (w : World) (v : Value) (l : List α) : Prop := ∃ a c, v = .slice a l.length c ∧ Sl enc k F w a c l
section
variable {α : Type} {enc : α → List Value} {k : Nat} {F : Nat → Prop} {w w' : World} {a : Option Addr} {c : Nat} {l : List α}
theorem Sl.keep {γ : Prop} {D : Nat → Prop} (h : Sl enc k F w a c l) (x : Bel γ D w w') (hd : ∀ b, b < w.heap.size → F b → ¬ D b) : Sl enc k F w' a c l :=
  ⟨h.le, h.cap, h.nil, fun i y hy => let ⟨b, off, h1, h2, h3, h4⟩ := h.el i y hy; ⟨b, off, h1, ⟨h2.1, Nat.lt_of_lt_of_le h2.2 x.size⟩, h3.keep x (hd b h2.2 h2.1), h4⟩⟩
theorem Sl.ext {γ : Prop} (h : Sl enc k F w a c l) (x : Ext γ w w') : Sl enc k F w' a c l := h.keep x fun _ _ _ h => h
theorem Sl.mono {F' : Nat → Prop} (h : Sl enc k F w a c l) (hF : ∀ b, b < w.heap.size → F b → F' b) : Sl enc k F' w a c l :=
  ⟨h.le, h.cap, h.nil, fun i y hy => let ⟨b, off, h1, h2, h3, h4⟩ := h.el i y hy; ⟨b, off, h1, ⟨hF b h2.2 h2.1, h2.2⟩, h3, h4⟩⟩
theorem Sl.top (h : Sl enc k F w a c l) : Sl enc k (Lt w.heap.size) w a c l := h.mono fun _ hb _ => hb
theorem Sl.rd (h : Sl enc k F w a c l) : Rd enc k F w (.slice a l.length c) l := ⟨a, c, rfl, h⟩
theorem Sl.trd (h : Sl enc k F w a c l) : Rd enc k (Lt w.heap.size) w (.slice a l.length c) l := h.top.rd
theorem Sl.none : Sl enc k F w none 0 ([] : List α) := ⟨Nat.le_refl _, Nat.zero_le _, fun _ => rfl, fun i x h => by simp at h⟩
theorem Rd.none : Rd enc k F w (.slice none 0 0) ([] : List α) := ⟨_, _, rfl, Sl.none⟩
theorem Rd.keep {γ : Prop} {D : Nat → Prop} {v : Value} (h : Rd enc k F w v l) (x : Bel γ D w w') (hd : ∀ b, b < w.heap.size → F b → ¬ D b) : Rd enc k F w' v l := let ⟨a, c, h1, h2⟩ := h; ⟨a, c, h1, h2.keep x hd⟩
theorem Rd.ext {γ : Prop} {v : Value} (h : Rd enc k F w v l) (x : Ext γ w w') : Rd enc k F w' v l := h.keep x fun _ _ _ h => h
theorem Rd.mono {F' : Nat → Prop} {v : Value} (h : Rd enc k F w v l) (hF : ∀ b, b < w.heap.size → F b → F' b) : Rd enc k F' w v l := let ⟨a, c, h1, h2⟩ := h; ⟨a, c, h1, h2.mono hF⟩
theorem Rd.top {v : Value} (h : Rd enc k F w v l) : Rd enc k (Lt w.heap.size) w v l := h.mono fun _ hb _ => hb
theorem Sl.len (h : Sl enc k F w a c l) : (l.length : Int) ≤ 9223372036854775807 := by
  have h1 := h.le; have h2 := h.cap; unfold maxLen at h2; omega
end
def elp (a : Option Addr) (j : Nat) : Option Addr := a.map fun a => a.add j
theorem elp_some (b off j : Nat) : elp (some ⟨b, off, none⟩) j = some ⟨b, off + j, none⟩ := by
  simp only [elp, Option.map_some, Addr.add]
  by_cases h : j = 0
  · subst h; rfl
  · rw [if_neg h]
section
variable {P : Program} {fr : Fr} {w : World} {d : Option Nat} {t : TypeId} {ps : String} {af : Array Edge} {g : Option (Nat × Bool)} {x y z : Operand} {T U : TypeId} {α : Type} {enc : α → List Value} {k : Nat} {F : Nat → Prop} {a : Option Addr} {c : Nat} {l : List α} {K : IntKind}
theorem o_iaR {e : TypeId} {n i s : Nat} (hP : P.underlying T = some (.slice e)) (hs : ∀ w, (sizeOf e).run P w = .ok s w) (hr : Sl enc k F w a c l) (hx : ev fr x = .slice a l.length n) (hy : ev fr y = .int K (i : Int)) (hi : i < l.length) :
    xop P fr w ⟨d, .indexAddr T x y, t, ps, af, g⟩ = .ok (.value (.pointer (elp a (i * s)))) w := by
  obtain ⟨b, off, rfl, _⟩ := hr.el i _ (List.getElem?_eq_getElem hi)
  rw [elp_some]
  exact o_ia hP hs hx hy hi
theorem o_ldR {i : Nat} {v : Value} {y : α} (ha : ∀ w, (isAgg T).run P w = .ok false w) (hr : Sl enc k F w a c l) (hk : k = 1) (hx : ev fr x = .pointer (elp a (i * 1))) (hi : l[i]? = some y) (hv : enc y = [v]) :
    xop P fr w ⟨d, .load T x, t, ps, af, g⟩ = .ok (.value v) w := by
  subst hk
  obtain ⟨b, off, rfl, _, h3, _⟩ := hr.el i _ hi
  rw [elp_some] at hx
  rw [hv] at h3
  exact o_load1 ha hx (h3 0 v rfl)
theorem o_ldRS {i s : Nat} {y : α} (ha : ∀ w, (isAgg T).run P w = .ok true w) (hs : ∀ w, (sizeOf T).run P w = .ok s w) (hr : Sl enc s F w a c l) (hx : ev fr x = .pointer (elp a (i * s))) (hi : l[i]? = some y) :
    xop P fr w ⟨d, .load T x, t, ps, af, g⟩ = .ok (.value (.agg (enc y).toArray)) w := by
  obtain ⟨b, off, rfl, _, h3, h4⟩ := hr.el i _ hi
  rw [elp_some] at hx
  exact o_loadS ha hs hx h3 h4
theorem o_slto {e : TypeId} {n c s : Nat} {j : Nat} (hP : P.underlying T = some (.slice e)) (hs : ∀ w, (sizeOf e).run P w = .ok s w) (hx : ev fr x = .slice a n c) (hj : ev fr z = .int .i64 (j : Int)) (hl : j ≤ c) :
    xop P fr w ⟨d, .slice T x none (some z) none, t, ps, af, g⟩ = .ok (.value (.slice a j c)) w := by
  have e0 : (if c = 0 then a else a.map (·.add (0 * s))) = a := by
    by_cases h : c = 0
    · rw [if_pos h]
    · rw [if_neg h]; cases a with
      | none => rfl
      | some v => simp [Addr.add]
  simp [xop, execOp, hx, hj, Instr.slice, Instr.sliceAt, Instr.sliceBounds, Instr.sliceBound, asIntOf, run_underlying hP, hl, hs]
  simpa using e0
end
end Go.Lx
