/- Several texts in one file. -/
import Derived.Test.YtncmjgmlnnenhaaDoorSlx
import Derived.Lib.Bytealg
import Derived.Lib.Join
import Derived.Test.YtncmjgmlnnenhaaDoorProg
import Derived.Laws.StructEq
/- The plain functions of the path layer and of the small library functions that it calls. Nothing of a program stands here. -/
namespace Go.Lx
set_option linter.unusedSimpArgs false
set_option linter.unusedVariables false
set_option linter.unnecessarySimpa false
abbrev Str := List UInt8
theorem getElem?_of {α : Type} {l : List α} {i : Nat} (h : i < l.length) : l[i]? = some l[i] := List.getElem?_eq_getElem h
theorem anyT_succ {α : Type} {l : List α} {p : α → Bool} {k : Nat} (h : k < l.length) (ha : (l.take k).any p = false) (hp : p l[k] = false) : (l.take (k + 1)).any p = false := by
  rw [List.take_succ_eq_append_getElem h, List.any_append, ha]; simp [hp]
def nameB (c : UInt8) : Bool := !((decide ((c.toNat : Int) < 97) || decide ((122 : Int) < c.toNat)) && (decide ((c.toNat : Int) < 48) || decide ((57 : Int) < c.toNat)) && ((c.toNat : Int) != 95) && ((c.toNat : Int) != 46) && ((c.toNat : Int) != 45))
def namedS (l : Str) : Bool := !(decide ((l.length : Int) < 1) || decide ((12 : Int) < l.length) || l == [46] || l == [46, 46]) && l.all nameB
def ixOf {α : Type} (p : α → Bool) (l : List α) : Int := match l.findIdx? p with | some i => (i : Int) | none => -1
theorem ixOf_at {α : Type} {p : α → Bool} {l : List α} {k : Nat} (h : k < l.length) (ha : (l.take k).any p = false) (hp : p l[k] = true) : ixOf p l = k := by
  have : l.findIdx? p = some k := by
    rw [List.findIdx?_eq_some_iff_getElem]
    refine ⟨h, hp, fun j hj => ?_⟩
    rw [List.any_eq_false] at ha
    have := ha l[j] (by rw [List.mem_take_iff_getElem]; exact ⟨j, by omega, rfl⟩)
    simpa using this
  simp [ixOf, this]
theorem ixOf_none {α : Type} {p : α → Bool} {l : List α} {k : Nat} (h : l.length ≤ k) (ha : (l.take k).any p = false) : ixOf p l = -1 := by
  rw [List.take_of_length_le h] at ha
  have : l.findIdx? p = none := by
    rw [List.findIdx?_eq_none_iff]
    intro x hx
    have := List.any_eq_false.1 ha x hx
    simpa using this
  simp [ixOf, this]
theorem ixOf_ge {α : Type} (p : α → Bool) (l : List α) : decide ((0 : Int) ≤ ixOf p l) = l.any p := by
  unfold ixOf
  cases h : l.findIdx? p with
  | none =>
    rw [List.findIdx?_eq_none_iff] at h
    have : l.any p = false := by rw [List.any_eq_false]; intro x hx; simp [h x hx]
    simp [this]
  | some i =>
    rw [List.findIdx?_eq_some_iff_getElem] at h
    obtain ⟨h1, h2, _⟩ := h
    have : l.any p = true := by rw [List.any_eq_true]; exact ⟨l[i], List.getElem_mem h1, h2⟩
    simp [this]
def hasPre (s p : Str) : Bool := decide ((p.length : Int) ≤ s.length) && (s.take p.length == p)
def splitS : Str → List Str
  | [] => [[]]
  | c :: r => if c == 47 then [] :: splitS r else match splitS r with | [] => [[c]] | h :: t => (c :: h) :: t
def splitP (p : Str) : Option (List Str) :=
  if p == [47] then some [] else if !(hasPre p [47]) then none else if (8 : Int) < (splitS (p.drop 1)).length then none else if (splitS (p.drop 1)).all namedS then some (splitS (p.drop 1)) else none
def splitL (p : Str) : List Str := (splitP p).getD []
def splitOk (p : Str) : Bool := (splitP p).isSome
theorem getE {α : Type} {l : List α} {i : Nat} (z : α) (h : i < l.length) : l[i]? = some (l.getD i z) := by simp [List.getD, h]
section
variable {x y : List Str} {k : Nat}
end
section
variable {x y : List Str} {k : Nat}
end
def depthS (p : Str) : Int := if splitOk p then (splitL p).length else -1
def keywordsS : List Str := [[97, 108, 108], [97, 110, 100], [97, 115, 115, 105, 103, 110], [98, 121], [99, 111, 117, 110, 116], [100, 101, 99, 108, 97, 114, 101], [100, 121, 110, 97, 109, 105, 99], [101, 110, 102, 111, 114, 99, 101], [102, 97, 108, 115, 101], [102, 111, 114], [105, 102], [109, 101, 109, 98, 101, 114, 115], [110, 111, 110, 101], [110, 111, 116], [111, 110], [111, 114], [114, 101, 118, 111, 107, 101], [115, 116, 97, 116, 105, 99], [116, 114, 117, 101], [117, 115, 101, 114, 115]]
def letterB (c : UInt8) : Bool := decide ((97 : Int) ≤ c.toNat) && decide ((c.toNat : Int) ≤ 122)
def innerB (c : UInt8) : Bool := letterB c || (decide ((48 : Int) ≤ c.toNat) && decide ((c.toNat : Int) ≤ 57)) || ((c.toNat : Int) == 95)
def nmS (l : Str) : Bool := !((l.length : Int) == 0 || decide ((12 : Int) < l.length) || keywordsS.any fun x => l == x) && l.all innerB && letterB (l.getD 0 0)
end Go.Lx
/- The plain functions of the permission layer. Nothing of a program stands here. -/
namespace Go.Lx
set_option linter.unusedSimpArgs false
set_option linter.unusedVariables false
set_option linter.unnecessarySimpa false
structure Perm where
  act : Str
  path : Str
  deep : Bool
  deriving DecidableEq
def Perm.ok (x : Perm) : Prop := x.act.length ≤ 1000000 ∧ x.path.length ≤ 1000000
def checkS (x : Perm) : Int := if !(nmS x.act) then 9 else if !(splitOk x.path) || (x.deep && depthS x.path == 8) then 6 else 0
section
variable {α : Type} [BEq α] [LawfulBEq α] {x y : List α} {k : Nat} {z : α}
end
def compStep {α : Type} [BEq α] (acc : List α) (x : α) : List α := if acc.getLast? == some x then acc else acc ++ [x]
def compL {α : Type} [BEq α] (l : List α) : List α := l.foldl compStep []
section
variable {α : Type} [BEq α] {l : List α} {k : Nat} {z : α}
theorem comp_snoc (l : List α) (x : α) : compL (l ++ [x]) = compStep (compL l) x := by simp [compL]
theorem comp_succ (h : k < l.length) : compL (l.take (k + 1)) = compStep (compL (l.take k)) (l.getD k z) := by
  rw [List.take_succ_eq_append_getElem h, comp_snoc]; simp [List.getD, h]
theorem comp_one (h : l.length < 2) : compL l = l := by
  match l, h with
  | [], _ => rfl
  | [x], _ => rfl
  | _ :: _ :: _, h => simp at h; omega
theorem comp_take1 (h : 2 ≤ l.length) : compL (l.take 1) = l.take 1 := comp_one (by rw [List.length_take]; omega)
variable [LawfulBEq α]
theorem comp_last : ∀ (l : List α), (compL l).getLast? = l.getLast? := by
  intro l
  rcases List.eq_nil_or_concat l with rfl | ⟨m, x, rfl⟩
  · rfl
  · rw [List.concat_eq_append, comp_snoc]
    unfold compStep
    split
    · rename_i h; rw [eq_of_beq h]; simp
    · simp
omit [BEq α] [LawfulBEq α] in
theorem take_last (h : k < l.length) : (l.take (k + 1)).getLast? = some (l.getD k z) := by
  rw [List.take_succ_eq_append_getElem h, List.getLast?_concat]; simp [List.getD, h]
theorem comp_eq (h : k < l.length) (h1 : 1 ≤ k) (he : l.getD k z = l.getD (k - 1) z) : compL (l.take (k + 1)) = compL (l.take k) := by
  obtain ⟨j, rfl⟩ : ∃ j, k = j + 1 := ⟨k - 1, by omega⟩
  rw [comp_succ (z := z) h, compStep, comp_last, take_last (z := z) (by omega), he]
  simp
theorem comp_ne (h : k < l.length) (h1 : 1 ≤ k) (he : ¬ l.getD k z = l.getD (k - 1) z) : compL (l.take (k + 1)) = compL (l.take k) ++ [l.getD k z] := by
  obtain ⟨j, rfl⟩ : ∃ j, k = j + 1 := ⟨k - 1, by omega⟩
  rw [comp_succ (z := z) h, compStep, comp_last, take_last (z := z) (by omega), if_neg]
  intro e
  have := eq_of_beq e
  simp only [Option.some.injEq] at this
  exact he (by rw [← this]; rfl)
end
theorem tail_get {α : Type} {x l : List α} {i : Nat} {z : α} (h1 : x.length ≤ i) (h2 : i < l.length) : (x ++ l.drop x.length)[i]? = some (l.getD i z) := by
  rw [List.getElem?_append_right h1, List.getElem?_drop, show x.length + (i - x.length) = i from by omega, getE z h2]
theorem tail_set {α : Type} {x l : List α} {u : α} (h : x.length < l.length) : (x ++ l.drop x.length).set x.length u = (x ++ [u]) ++ l.drop (x ++ [u]).length := by
  rw [List.set_append_right _ _ (Nat.le_refl _), Nat.sub_self, List.drop_eq_getElem_cons h, List.set_cons_zero]
  simp
theorem ix_some {α : Type} {p : α → Bool} {l : List α} (z : α) (h : (ixOf p l == -1) = false) : ∃ i : Nat, ixOf p l = i ∧ i < l.length ∧ (l.take i).any p = false ∧ p (l.getD i z) = true := by
  unfold ixOf at h ⊢
  cases hf : l.findIdx? p with
  | none => rw [hf] at h; simp at h
  | some i =>
    rw [List.findIdx?_eq_some_iff_getElem] at hf
    obtain ⟨h1, h2, h3⟩ := hf
    refine ⟨i, rfl, h1, ?_, by simp [List.getD, h1, h2]⟩
    rw [List.any_eq_false]
    intro x hx
    rw [List.mem_take_iff_getElem] at hx
    obtain ⟨j, hj, rfl⟩ := hx
    simpa using h3 j (by omega)
end Go.Lx
/- What the walks ask of this program's tables, and its calls without a body. -/
namespace Go.Proofs.YtncmjgmlnnenhaaDoor
open Go Go.Lx
set_option linter.unusedSimpArgs false
set_option linter.unusedVariables false
set_option linter.unnecessarySimpa false
theorem mixed : Tryd.prog.follows .mixedOrders = true := by kernel_rfl
end Go.Proofs.YtncmjgmlnnenhaaDoor
/- Equality of structs, told by an encoding. Nothing of a program stands here. -/
namespace Go.Lx
open Go
set_option linter.unusedSimpArgs false
set_option linter.unusedVariables false
set_option linter.unnecessarySimpa false
structure EqT {α : Type} [BEq α] (P : Program) (T : TypeId) (enc : α → List Value) : Prop where
  gd : P.eqGuardType P.depth T = false
  run : ∀ (w : World) x y, (Op.equalIn 10000 T (.agg (enc x).toArray) (.agg (enc y).toArray)).run P w = .ok (x == y) w
section
variable {P : Program} {d : Nat} {xs ys : Array Value} {f : Field} {fs : List Field} {v u : Value} {r r' : Bool}
end
section
variable {α : Type} [BEq α] {enc : α → List Value} {P : Program} {fr : Fr} {w : World} {d : Option Nat} {t : TypeId} {ps : String} {af : Array Edge} {g : Option (Nat × Bool)} {x y : Operand} {T U : TypeId} {a b : α}
theorem o_teql (h : EqT P T enc) (hx : ev fr x = .agg (enc a).toArray) (hy : ev fr y = .agg (enc b).toArray) : xop P fr w ⟨d, .binOp .eql T x y U, t, ps, af, g⟩ = .ok (.value (.bool (a == b))) w := by
  simp only [xop, execOp, hx, hy, Sem.run_bind, run_eqGuard_agg w .eql T x y _ _ h.gd, Result.andThen_ok, run_eql_struct, h.run]
  rfl
theorem o_tneq (h : EqT P T enc) (hx : ev fr x = .agg (enc a).toArray) (hy : ev fr y = .agg (enc b).toArray) : xop P fr w ⟨d, .binOp .neq T x y U, t, ps, af, g⟩ = .ok (.value (.bool (!(a == b)))) w := by
  simp only [xop, execOp, hx, hy, Sem.run_bind, run_eqGuard_agg w .neq T x y _ _ h.gd, Result.andThen_ok, run_neq_struct, h.run]
  rfl
end
end Go.Lx
