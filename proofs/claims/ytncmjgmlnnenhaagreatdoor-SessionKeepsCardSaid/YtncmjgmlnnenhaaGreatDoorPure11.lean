/- Several texts in one file. -/
import Derived.Test.YtncmjgmlnnenhaaGreatDoorDraw
import Derived.Lib.Bytealg
import Derived.Lib.Join
/- The plain functions of the path layer and of the small library functions that it calls. Nothing of a program stands here. -/
namespace Go.Lx
set_option linter.unusedSimpArgs false
set_option linter.unusedVariables false
set_option linter.unnecessarySimpa false
abbrev Str := List UInt8
theorem getElem?_of {α : Type} {l : List α} {i : Nat} (h : i < l.length) : l[i]? = some l[i] := List.getElem?_eq_getElem h
theorem anyT_succ {α : Type} {l : List α} {p : α → Bool} {k : Nat} (h : k < l.length) (ha : (l.take k).any p = false) (hp : p l[k] = false) : (l.take (k + 1)).any p = false := by
  rw [List.take_succ_eq_append_getElem h, List.any_append, ha]; simp [hp]
def nameB (c : UInt8) : Bool := !((decide ((c.toNat : Int) < 97) || decide ((122 : Int) < c.toNat)) && (decide ((c.toNat : Int) < 48) || decide ((57 : Int) < c.toNat)) && ((c.toNat : Int) != 95) && ((c.toNat : Int) != 46) && ((c.toNat : Int) != 45))
def namedS (l : Str) : Bool := !(decide ((l.length : Int) < 1) || decide ((12 : Int) < l.length) || l == [46] || l == [46, 46]) && l.all nameB
def ixOf {α : Type} (p : α → Bool) (l : List α) : Int := match l.findIdx? p with | some i => (i : Int) | none => -1
theorem ixOf_at {α : Type} {p : α → Bool} {l : List α} {k : Nat} (h : k < l.length) (ha : (l.take k).any p = false) (hp : p l[k] = true) : ixOf p l = k := by
  have : l.findIdx? p = some k := by
    rw [List.findIdx?_eq_some_iff_getElem]
    refine ⟨h, hp, fun j hj => ?_⟩
    rw [List.any_eq_false] at ha
    have := ha l[j] (by rw [List.mem_take_iff_getElem]; exact ⟨j, by omega, rfl⟩)
    simpa using this
  simp [ixOf, this]
theorem ixOf_none {α : Type} {p : α → Bool} {l : List α} {k : Nat} (h : l.length ≤ k) (ha : (l.take k).any p = false) : ixOf p l = -1 := by
  rw [List.take_of_length_le h] at ha
  have : l.findIdx? p = none := by
    rw [List.findIdx?_eq_none_iff]
    intro x hx
    have := List.any_eq_false.1 ha x hx
    simpa using this
  simp [ixOf, this]
theorem ixOf_ge {α : Type} (p : α → Bool) (l : List α) : decide ((0 : Int) ≤ ixOf p l) = l.any p := by
  unfold ixOf
  cases h : l.findIdx? p with
  | none =>
    rw [List.findIdx?_eq_none_iff] at h
    have : l.any p = false := by rw [List.any_eq_false]; intro x hx; simp [h x hx]
    simp [this]
  | some i =>
    rw [List.findIdx?_eq_some_iff_getElem] at h
    obtain ⟨h1, h2, _⟩ := h
    have : l.any p = true := by rw [List.any_eq_true]; exact ⟨l[i], List.getElem_mem h1, h2⟩
    simp [this]
def hasPre (s p : Str) : Bool := decide ((p.length : Int) ≤ s.length) && (s.take p.length == p)
def splitS : Str → List Str
  | [] => [[]]
  | c :: r => if c == 47 then [] :: splitS r else match splitS r with | [] => [[c]] | h :: t => (c :: h) :: t
def splitP (p : Str) : Option (List Str) :=
  if p == [47] then some [] else if !(hasPre p [47]) then none else if (8 : Int) < (splitS (p.drop 1)).length then none else if (splitS (p.drop 1)).all namedS then some (splitS (p.drop 1)) else none
def splitL (p : Str) : List Str := (splitP p).getD []
def splitOk (p : Str) : Bool := (splitP p).isSome
theorem getE {α : Type} {l : List α} {i : Nat} (z : α) (h : i < l.length) : l[i]? = some (l.getD i z) := by simp [List.getD, h]
section
variable {x y : List Str} {k : Nat}
end
section
variable {x y : List Str} {k : Nat}
end
def depthS (p : Str) : Int := if splitOk p then (splitL p).length else -1
def keywordsS : List Str := [[97, 108, 108], [97, 110, 100], [97, 115, 115, 105, 103, 110], [98, 121], [99, 111, 117, 110, 116], [100, 101, 99, 108, 97, 114, 101], [100, 121, 110, 97, 109, 105, 99], [101, 110, 102, 111, 114, 99, 101], [102, 97, 108, 115, 101], [102, 111, 114], [105, 102], [109, 101, 109, 98, 101, 114, 115], [110, 111, 110, 101], [110, 111, 116], [111, 110], [111, 114], [114, 101, 118, 111, 107, 101], [115, 116, 97, 116, 105, 99], [116, 114, 117, 101], [117, 115, 101, 114, 115]]
def letterB (c : UInt8) : Bool := decide ((97 : Int) ≤ c.toNat) && decide ((c.toNat : Int) ≤ 122)
def innerB (c : UInt8) : Bool := letterB c || (decide ((48 : Int) ≤ c.toNat) && decide ((c.toNat : Int) ≤ 57)) || ((c.toNat : Int) == 95)
def nmS (l : Str) : Bool := !((l.length : Int) == 0 || decide ((12 : Int) < l.length) || keywordsS.any fun x => l == x) && l.all innerB && letterB (l.getD 0 0)
end Go.Lx
