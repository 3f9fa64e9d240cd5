/- Several texts in one file. -/
import Derived.Test.YtndlnfdaeipifaaGreatDoorPerm0
import Derived.Test.YtndlnfdaeipifaaGreatDoorBox
import Derived.Shelf.GgSortFunc.InsertionK
/- The plain laws of permissions. Nothing of a program stands here. -/
namespace Go.Lx
open Go
set_option linter.unusedSimpArgs false
set_option linter.unusedVariables false
set_option linter.unnecessarySimpa false
structure RawV where
  act : UInt8
  a : Option Addr
  c : Nat
  names : List UInt8
  deep : Bool
def encR (x : RawV) : List Value := [.int .u8 (x.act.toNat : Int), .slice x.a x.names.length x.c, .bool x.deep]
def rz : RawV := ⟨0, none, 0, [], false⟩
def RawV.perm (x : RawV) : Perm := ⟨actionS x.act, pathS x.names, x.deep⟩
theorem RawV.ok (x : RawV) : x.perm.ok := ⟨by have := actionS_len x.act; show (actionS x.act).length ≤ _; omega, by have := pathS_len x.names; show (pathS x.names).length ≤ _; omega⟩
/-! the chapter's example -/
/-! covering -/
/-! the laws' conditions, as the code puts them -/
end Go.Lx
/- Permissions, more: the text of a permission is read back. Nothing of a program stands here. -/
namespace Go.Lx
open Go
set_option linter.unusedSimpArgs false
set_option linter.unusedVariables false
set_option linter.unnecessarySimpa false
end Go.Lx
/- Lists of permissions: the normal list covers the same; two normal lists are equal exactly if they imply the same; what is common, what is beyond. Nothing of a program stands here. -/
namespace Go.Lx
open Go
set_option linter.unusedSimpArgs false
set_option linter.unusedVariables false
set_option linter.unnecessarySimpa false
end Go.Lx
/- An own slice as the library's sort takes and leaves it. Nothing of a program stands here. -/
namespace Go.Lx
open Go Go.RowKit
set_option linter.unusedSimpArgs false
set_option linter.unusedVariables false
set_option linter.unnecessarySimpa false
theorem ext_grow {W W' : World} (h : Ext True W W') : ∃ q os', W' = Sort.grow (W.drewN q) os' := by
  have h1 := h.os; have h2 := h.tape; have h3 := h.output; have h4 := h.size
  have h5 : ∀ b, b < W.heap.size → W'.heap[b]? = W.heap[b]? := fun b hb => h.block b hb id
  have hd := h.drawn trivial
  obtain ⟨heap, tape, drawn, os, output⟩ := W
  obtain ⟨heap', tape', drawn', os', output'⟩ := W'
  simp only at h1 h2 h3 h4 h5 hd
  subst h1 h2 h3
  refine ⟨drawn' - drawn, heap'.extract heap.size heap'.size, ?_⟩
  unfold Sort.grow World.drewN
  simp only [World.mk.injEq, and_true, true_and]
  refine ⟨?_, by omega⟩
  apply Array.ext_getElem?
  intro i
  rw [Array.getElem?_append]
  by_cases hi : i < heap.size
  · rw [if_pos hi]; exact h5 i hi
  · rw [if_neg hi, Array.getElem?_extract]
    by_cases hj : i < heap'.size
    · rw [if_pos (by omega), show heap.size + (i - heap.size) = i from by omega]
    · rw [if_neg (by omega), Array.getElem?_eq_none (by omega)]
section
variable {α : Type} [Inhabited α] {enc : α → List Value} {k m c g off : Nat} {D : Nat → Prop} {e : TypeId} {w : World} {l : List α}
theorem flat_get (he : EncOk enc k) (j : Nat) (hj : j < l.length * k) : (l.flatMap enc)[j]? = some ((Sort.flatK enc k l.toArray)[j]!) := by
  have hk := he.pos
  have h1 : j / k < l.length := Nat.div_lt_of_lt_mul (by rw [Nat.mul_comm]; exact hj)
  have h2 : j % k < k := Nat.mod_lt _ hk
  have e1 : j = (j / k) * k + j % k := by have := Nat.div_add_mod j k; rw [Nat.mul_comm] at this; exact this.symm
  have e2 := fm_get he (List.getElem?_eq_getElem h1) (j % k) h2
  rw [← e1] at e2
  rw [e2, Sort.get_flatK _ _ _ _ (by simpa using hj)]
  have h3 : (l.toArray)[j / k]! = l[j / k] := by simp [h1]
  rw [h3]
  have h4 : j % k < (enc l[j / k]).length := by rw [he.len]; exact h2
  simp [h4]
omit [Inhabited α] in
theorem own_parts (h : Own enc k e D w (.slice (some ⟨g, off, none⟩) m c) l) : off = 0 ∧ m = l.length ∧ D g ∧ ∃ cur : Array Value, w.heap[g]? = some (.cells cur e (0, 0)) ∧ l.length ≤ c ∧ c ≤ maxLen ∧ cur.size = c * k ∧ cur.toList.take (l.length * k) = l.flatMap enc := by
  rcases h.row.2 with ⟨h1, _⟩ | ⟨g', cap, cur, h1, h2, h3, h4, h5, h6, h7⟩
  · simp at h1
  · simp at h1
    obtain ⟨⟨rfl, rfl⟩, rfl, rfl⟩ := h1
    exact ⟨rfl, rfl, h.loc _ rfl, cur, h3, h4, h5, h6, h7⟩
theorem own_holds (he : EncOk enc k) (h : Own enc k e D w (.slice (some ⟨g, off, none⟩) m c) l) : Sort.HoldsK enc k w g off l.toArray := by
  obtain ⟨rfl, rfl, _, cur, h3, h4, h5, h6, h7⟩ := own_parts h
  intro j hj
  rw [Sort.size_flatK] at hj
  have hj' : j < l.length * k := by simpa using hj
  have hle : l.length * k ≤ cur.size := by rw [h6]; exact Nat.mul_le_mul_right _ h4
  have hg := flat_get he j hj'
  rw [← h7, List.getElem?_take, if_pos hj'] at hg
  constructor
  · simp only [World.cell?, Nat.zero_add, h3]
    simpa using hg
  · simp [World.frozen?, h3]
theorem own_sorted (he : EncOk enc k) {n : Nat} {d' : Array α} {os : Array Obj} (h : Own enc k e D w (.slice (some ⟨g, off, none⟩) m c) l) (hd : d'.size = l.length) :
    Own enc k e D (Go.Proofs.sortWorldK enc k w g off n d' os) (.slice (some ⟨g, off, none⟩) m c) d'.toList ∧ Bel True D w (Go.Proofs.sortWorldK enc k w g off n d' os) := by
  obtain ⟨rfl, rfl, hB, cur, h3, h4, h5, h6, h7⟩ := own_parts h
  have hlt : g < w.heap.size := (Array.getElem?_eq_some_iff.1 h3).1
  have hw : Go.Proofs.sortWorldK enc k w g 0 n d' os = { w with drawn := w.drawn + n, heap := w.heap.modify g (Sort.onCells (Sort.putCells id 0 (Sort.flatK enc k d'))) ++ os } := rfl
  have hle : l.length * k ≤ cur.size := by rw [h6]; exact Nat.mul_le_mul_right _ h4
  have hget : (Go.Proofs.sortWorldK enc k w g 0 n d' os).heap[g]? = some (.cells (Sort.putCells id 0 (Sort.flatK enc k d') cur) e (0, 0)) := by
    rw [hw]
    simp only
    rw [Array.getElem?_append_left (by simpa using hlt), Array.getElem?_modify, if_pos rfl, h3]
    rfl
  constructor
  · refine ⟨⟨by rw [fm_len he], .inr ⟨g, c, _, by rw [← hd]; simp, Nat.zero_le _, hget, by rw [Array.length_toList, hd]; exact h4, h5, by simp [Sort.putCells, h6], ?_⟩⟩, h.loc⟩
    rw [Array.length_toList, hd]
    apply List.ext_getElem?
    intro j
    by_cases hj : j < l.length * k
    · have h1 := flat_get (l := d'.toList) he j (by rw [Array.length_toList, hd]; exact hj)
      rw [h1, List.getElem?_take, if_pos hj]
      simp only [Sort.putCells, Array.getElem?_toList, Array.getElem?_mapIdx]
      rw [Array.getElem?_eq_getElem (by omega)]
      simp [hd, hj]
    · rw [List.getElem?_eq_none (by simp [List.length_take]; omega), List.getElem?_eq_none (by rw [fm_len he, Array.length_toList, hd]; omega)]
  · refine ⟨rfl, rfl, rfl, by rw [hw]; simp, ?_, fun _ => by rw [hw]; simp⟩
    intro j hjl hj
    have hne : g ≠ j := fun e => hj (e ▸ hB)
    rw [hw]
    simp only
    rw [Array.getElem?_append_left (by simpa using hjl), Array.getElem?_modify, if_neg hne]
end
end Go.Lx
