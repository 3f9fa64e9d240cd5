/- Several texts in one file. -/
import Derived.Test.YtncmjgmlnnenhaaGreatDoorDraw
import Derived.Lib.Bytealg
import Derived.Lib.Join
import Derived.Test.YtncmjgmlnnenhaaGreatDoorProg
import Derived.Laws.StructEq
import Derived.Sort.Statements
/- The plain functions of the path layer and of the small library functions that it calls. Nothing of a program stands here. -/
namespace Go.Lx
set_option linter.unusedSimpArgs false
set_option linter.unusedVariables false
set_option linter.unnecessarySimpa false
abbrev Str := List UInt8
theorem getElem?_of {α : Type} {l : List α} {i : Nat} (h : i < l.length) : l[i]? = some l[i] := List.getElem?_eq_getElem h
theorem getD_of {l : List UInt8} {i : Nat} (h : i < l.length) : l.getD i 0 = l[i] := by simp [List.getD, h]
theorem anyT_succ {α : Type} {l : List α} {p : α → Bool} {k : Nat} (h : k < l.length) (ha : (l.take k).any p = false) (hp : p l[k] = false) : (l.take (k + 1)).any p = false := by
  rw [List.take_succ_eq_append_getElem h, List.any_append, ha]; simp [hp]
def nameB (c : UInt8) : Bool := !((decide ((c.toNat : Int) < 97) || decide ((122 : Int) < c.toNat)) && (decide ((c.toNat : Int) < 48) || decide ((57 : Int) < c.toNat)) && ((c.toNat : Int) != 95) && ((c.toNat : Int) != 46) && ((c.toNat : Int) != 45))
def namedS (l : Str) : Bool := !(decide ((l.length : Int) < 1) || decide ((12 : Int) < l.length) || l == [46] || l == [46, 46]) && l.all nameB
def ixOf {α : Type} (p : α → Bool) (l : List α) : Int := match l.findIdx? p with | some i => (i : Int) | none => -1
theorem ixOf_at {α : Type} {p : α → Bool} {l : List α} {k : Nat} (h : k < l.length) (ha : (l.take k).any p = false) (hp : p l[k] = true) : ixOf p l = k := by
  have : l.findIdx? p = some k := by
    rw [List.findIdx?_eq_some_iff_getElem]
    refine ⟨h, hp, fun j hj => ?_⟩
    rw [List.any_eq_false] at ha
    have := ha l[j] (by rw [List.mem_take_iff_getElem]; exact ⟨j, by omega, rfl⟩)
    simpa using this
  simp [ixOf, this]
theorem ixOf_none {α : Type} {p : α → Bool} {l : List α} {k : Nat} (h : l.length ≤ k) (ha : (l.take k).any p = false) : ixOf p l = -1 := by
  rw [List.take_of_length_le h] at ha
  have : l.findIdx? p = none := by
    rw [List.findIdx?_eq_none_iff]
    intro x hx
    have := List.any_eq_false.1 ha x hx
    simpa using this
  simp [ixOf, this]
theorem ixOf_ge {α : Type} (p : α → Bool) (l : List α) : decide ((0 : Int) ≤ ixOf p l) = l.any p := by
  unfold ixOf
  cases h : l.findIdx? p with
  | none =>
    rw [List.findIdx?_eq_none_iff] at h
    have : l.any p = false := by rw [List.any_eq_false]; intro x hx; simp [h x hx]
    simp [this]
  | some i =>
    rw [List.findIdx?_eq_some_iff_getElem] at h
    obtain ⟨h1, h2, _⟩ := h
    have : l.any p = true := by rw [List.any_eq_true]; exact ⟨l[i], List.getElem_mem h1, h2⟩
    simp [this]
def hasPre (s p : Str) : Bool := decide ((p.length : Int) ≤ s.length) && (s.take p.length == p)
def splitS : Str → List Str
  | [] => [[]]
  | c :: r => if c == 47 then [] :: splitS r else match splitS r with | [] => [[c]] | h :: t => (c :: h) :: t
theorem splitS_ne (l : Str) : splitS l ≠ [] := by
  cases l with
  | nil => simp [splitS]
  | cons c r =>
    simp only [splitS]
    split
    · simp
    · split <;> simp
def splitP (p : Str) : Option (List Str) :=
  if p == [47] then some [] else if !(hasPre p [47]) then none else if (8 : Int) < (splitS (p.drop 1)).length then none else if (splitS (p.drop 1)).all namedS then some (splitS (p.drop 1)) else none
def splitL (p : Str) : List Str := (splitP p).getD []
def splitOk (p : Str) : Bool := (splitP p).isSome
theorem splitOk_some {p : Str} {l : List Str} (h : splitP p = some l) : splitOk p = true := by simp [splitOk, h]
theorem splitL_some {p : Str} {l : List Str} (h : splitP p = some l) : splitL p = l := by simp [splitL, h]
theorem splitOk_none {p : Str} (h : splitP p = none) : splitOk p = false := by simp [splitOk, h]
def commonS : List Str → List Str → Nat
  | a :: x, b :: y => if a == b then commonS x y + 1 else 0
  | _, _ => 0
theorem getE {α : Type} {l : List α} {i : Nat} (z : α) (h : i < l.length) : l[i]? = some (l.getD i z) := by simp [List.getD, h]
section
variable {x y : List Str} {k : Nat}
end
def withinS (p q : Str) : Bool := splitOk p && splitOk q && ((commonS (splitL p) (splitL q) : Int) == (splitL q).length)
def cmpS (a b : Str) : Int := if Op.bytesLess a b then -1 else if !(Op.bytesLess a b || a == b) then 1 else 0
def cmpL : List Str → List Str → Int
  | [], [] => 0
  | [], _ :: _ => -1
  | _ :: _, [] => 1
  | a :: x, b :: y => if cmpS a b != 0 then cmpS a b else cmpL x y
section
variable {x y : List Str} {k : Nat}
end
def cmpP (p q : Str) : Int := if splitOk p && splitOk q then cmpL (splitL p) (splitL q) else if splitOk p then -1 else if splitOk q then 1 else cmpS p q
def joinP (l : List Str) : Str := 47 :: Lib.join l [47]
def depthS (p : Str) : Int := if splitOk p then (splitL p).length else -1
def keywordsS : List Str := [[97, 108, 108], [97, 110, 100], [97, 115, 115, 105, 103, 110], [98, 121], [99, 111, 117, 110, 116], [100, 101, 99, 108, 97, 114, 101], [100, 121, 110, 97, 109, 105, 99], [101, 110, 102, 111, 114, 99, 101], [102, 97, 108, 115, 101], [102, 111, 114], [105, 102], [109, 101, 109, 98, 101, 114, 115], [110, 111, 110, 101], [110, 111, 116], [111, 110], [111, 114], [114, 101, 118, 111, 107, 101], [115, 116, 97, 116, 105, 99], [116, 114, 117, 101], [117, 115, 101, 114, 115]]
def letterB (c : UInt8) : Bool := decide ((97 : Int) ≤ c.toNat) && decide ((c.toNat : Int) ≤ 122)
def innerB (c : UInt8) : Bool := letterB c || (decide ((48 : Int) ≤ c.toNat) && decide ((c.toNat : Int) ≤ 57)) || ((c.toNat : Int) == 95)
def nmS (l : Str) : Bool := !((l.length : Int) == 0 || decide ((12 : Int) < l.length) || keywordsS.any fun x => l == x) && l.all innerB && letterB (l.getD 0 0)
end Go.Lx
/- The plain functions of the permission layer. Nothing of a program stands here. -/
namespace Go.Lx
set_option linter.unusedSimpArgs false
set_option linter.unusedVariables false
set_option linter.unnecessarySimpa false
structure Perm where
  act : Str
  path : Str
  deep : Bool
  deriving DecidableEq
def Perm.ok (x : Perm) : Prop := x.act.length ≤ 1000000 ∧ x.path.length ≤ 1000000
def checkS (x : Perm) : Int := if !(nmS x.act) then 9 else if !(splitOk x.path) || (x.deep && depthS x.path == 8) then 6 else 0
def coversS (x : Perm) (act obj : Str) : Bool := if checkS x != 0 || !(x.act == act) || !(splitOk obj) then false else x.path == obj || (x.deep && withinS obj x.path)
def impliesS (x y : Perm) : Bool := checkS y == 0 && coversS x y.act y.path && (x.deep || !y.deep)
def cmpM (x y : Perm) : Int :=
  if cmpS x.act y.act != 0 then cmpS x.act y.act else
  let c := if !(splitOk x.path) || !(splitOk y.path) then cmpS x.path y.path else cmpP x.path y.path
  if c != 0 || x.deep == y.deep then c else if y.deep then -1 else 1
def pz : Perm := ⟨[], [], false⟩
theorem eqT_succ {α : Type} {x y : List α} {k : Nat} {z : α} (h1 : k < x.length) (h2 : k < y.length) (h : x.take k = y.take k) (hz : x.getD k z = y.getD k z) : x.take (k + 1) = y.take (k + 1) := by
  rw [List.take_succ_eq_append_getElem h1, List.take_succ_eq_append_getElem h2, h]
  simp [List.getD, h1, h2] at hz
  rw [hz]
section
variable {α : Type} [BEq α] [LawfulBEq α] {x y : List α} {k : Nat} {z : α}
theorem eqT_len (h : ¬ (x.length : Int) = y.length) : (x == y) = false := by
  rw [beq_eq_false_iff_ne]; intro e; subst e; exact h rfl
theorem eqT_ne (hz : ¬ x.getD k z = y.getD k z) : (x == y) = false := by
  rw [beq_eq_false_iff_ne]; intro e; subst e; exact hz rfl
theorem eqT_end (h1 : x.length ≤ k) (h2 : y.length ≤ k) (h : x.take k = y.take k) : (x == y) = true := by
  rw [List.take_of_length_le h1, List.take_of_length_le h2] at h
  rw [beq_iff_eq]; exact h
end
def compStep {α : Type} [BEq α] (acc : List α) (x : α) : List α := if acc.getLast? == some x then acc else acc ++ [x]
def compL {α : Type} [BEq α] (l : List α) : List α := l.foldl compStep []
section
variable {α : Type} [BEq α] {l : List α} {k : Nat} {z : α}
theorem comp_snoc (l : List α) (x : α) : compL (l ++ [x]) = compStep (compL l) x := by simp [compL]
theorem comp_succ (h : k < l.length) : compL (l.take (k + 1)) = compStep (compL (l.take k)) (l.getD k z) := by
  rw [List.take_succ_eq_append_getElem h, comp_snoc]; simp [List.getD, h]
theorem comp_one (h : l.length < 2) : compL l = l := by
  match l, h with
  | [], _ => rfl
  | [x], _ => rfl
  | _ :: _ :: _, h => simp at h; omega
theorem comp_take1 (h : 2 ≤ l.length) : compL (l.take 1) = l.take 1 := comp_one (by rw [List.length_take]; omega)
variable [LawfulBEq α]
theorem comp_last : ∀ (l : List α), (compL l).getLast? = l.getLast? := by
  intro l
  rcases List.eq_nil_or_concat l with rfl | ⟨m, x, rfl⟩
  · rfl
  · rw [List.concat_eq_append, comp_snoc]
    unfold compStep
    split
    · rename_i h; rw [eq_of_beq h]; simp
    · simp
omit [BEq α] [LawfulBEq α] in
theorem take_last (h : k < l.length) : (l.take (k + 1)).getLast? = some (l.getD k z) := by
  rw [List.take_succ_eq_append_getElem h, List.getLast?_concat]; simp [List.getD, h]
theorem comp_eq (h : k < l.length) (h1 : 1 ≤ k) (he : l.getD k z = l.getD (k - 1) z) : compL (l.take (k + 1)) = compL (l.take k) := by
  obtain ⟨j, rfl⟩ : ∃ j, k = j + 1 := ⟨k - 1, by omega⟩
  rw [comp_succ (z := z) h, compStep, comp_last, take_last (z := z) (by omega), he]
  simp
theorem comp_ne (h : k < l.length) (h1 : 1 ≤ k) (he : ¬ l.getD k z = l.getD (k - 1) z) : compL (l.take (k + 1)) = compL (l.take k) ++ [l.getD k z] := by
  obtain ⟨j, rfl⟩ : ∃ j, k = j + 1 := ⟨k - 1, by omega⟩
  rw [comp_succ (z := z) h, compStep, comp_last, take_last (z := z) (by omega), if_neg]
  intro e
  have := eq_of_beq e
  simp only [Option.some.injEq] at this
  exact he (by rw [← this]; rfl)
end
theorem tail_get {α : Type} {x l : List α} {i : Nat} {z : α} (h1 : x.length ≤ i) (h2 : i < l.length) : (x ++ l.drop x.length)[i]? = some (l.getD i z) := by
  rw [List.getElem?_append_right h1, List.getElem?_drop, show x.length + (i - x.length) = i from by omega, getE z h2]
theorem tail_set {α : Type} {x l : List α} {u : α} (h : x.length < l.length) : (x ++ l.drop x.length).set x.length u = (x ++ [u]) ++ l.drop (x ++ [u]).length := by
  rw [List.set_append_right _ _ (Nat.le_refl _), Nat.sub_self, List.drop_eq_getElem_cons h, List.set_cons_zero]
  simp
theorem ix_some {α : Type} {p : α → Bool} {l : List α} (z : α) (h : (ixOf p l == -1) = false) : ∃ i : Nat, ixOf p l = i ∧ i < l.length ∧ (l.take i).any p = false ∧ p (l.getD i z) = true := by
  unfold ixOf at h ⊢
  cases hf : l.findIdx? p with
  | none => rw [hf] at h; simp at h
  | some i =>
    rw [List.findIdx?_eq_some_iff_getElem] at hf
    obtain ⟨h1, h2, h3⟩ := hf
    refine ⟨i, rfl, h1, ?_, by simp [List.getD, h1, h2]⟩
    rw [List.any_eq_false]
    intro x hx
    rw [List.mem_take_iff_getElem] at hx
    obtain ⟨j, hj, rfl⟩ := hx
    simpa using h3 j (by omega)
end Go.Lx
/- What the walks ask of this program's tables, and its calls without a body. -/
namespace Go.Proofs.YtncmjgmlnnenhaaGreatDoor
open Go Go.Lx
set_option linter.unusedSimpArgs false
set_option linter.unusedVariables false
set_option linter.unnecessarySimpa false
theorem mixed : Tryz.prog.follows .mixedOrders = true := by kernel_rfl
end Go.Proofs.YtncmjgmlnnenhaaGreatDoor
/- Equality of structs, told by an encoding. Nothing of a program stands here. -/
namespace Go.Lx
open Go
set_option linter.unusedSimpArgs false
set_option linter.unusedVariables false
set_option linter.unnecessarySimpa false
structure EqT {α : Type} [BEq α] (P : Program) (T : TypeId) (enc : α → List Value) : Prop where
  gd : P.eqGuardType P.depth T = false
  run : ∀ (w : World) x y, (Op.equalIn 10000 T (.agg (enc x).toArray) (.agg (enc y).toArray)).run P w = .ok (x == y) w
section
variable {P : Program} {d : Nat} {xs ys : Array Value} {f : Field} {fs : List Field} {v u : Value} {r r' : Bool}
end
section
variable {α : Type} [BEq α] {enc : α → List Value} {P : Program} {fr : Fr} {w : World} {d : Option Nat} {t : TypeId} {ps : String} {af : Array Edge} {g : Option (Nat × Bool)} {x y : Operand} {T U : TypeId} {a b : α}
theorem o_teql (h : EqT P T enc) (hx : ev fr x = .agg (enc a).toArray) (hy : ev fr y = .agg (enc b).toArray) : xop P fr w ⟨d, .binOp .eql T x y U, t, ps, af, g⟩ = .ok (.value (.bool (a == b))) w := by
  simp only [xop, execOp, hx, hy, Sem.run_bind, run_eqGuard_agg w .eql T x y _ _ h.gd, Result.andThen_ok, run_eql_struct, h.run]
  rfl
theorem o_tneq (h : EqT P T enc) (hx : ev fr x = .agg (enc a).toArray) (hy : ev fr y = .agg (enc b).toArray) : xop P fr w ⟨d, .binOp .neq T x y U, t, ps, af, g⟩ = .ok (.value (.bool (!(a == b)))) w := by
  simp only [xop, execOp, hx, hy, Sem.run_bind, run_eqGuard_agg w .neq T x y _ _ h.gd, Result.andThen_ok, run_neq_struct, h.run]
  rfl
end
end Go.Lx
/- Orders: of texts, of paths, of permissions. Nothing of a program stands here. -/
namespace Go.Lx
open Go
set_option linter.unusedSimpArgs false
set_option linter.unusedVariables false
set_option linter.unnecessarySimpa false
structure IsCmp {α : Type} (f : α → α → Int) : Prop where
  eq : ∀ a b, f a b = 0 ↔ a = b
  anti : ∀ a b, f b a = -f a b
  tr : ∀ a b c, f a b < 0 → f b c < 0 → f a c < 0
def Vp (x : Perm) : Prop := x.ok ∧ checkS x = 0
theorem Vp.path {x : Perm} (h : Vp x) : splitOk x.path = true := by
  have := h.2
  unfold checkS at this
  cases hn : nmS x.act <;> cases hs : splitOk x.path <;> simp [hn, hs] at this ⊢
theorem IsCmp.map {α β : Type} {f : β → β → Int} (h : IsCmp f) (m : α → β) (hm : ∀ a b, m a = m b → a = b) : IsCmp fun a b => f (m a) (m b) :=
  ⟨fun a b => ⟨fun e => hm a b ((h.eq _ _).1 e), fun e => (h.eq _ _).2 (by rw [e])⟩, fun a b => h.anti _ _, fun a b c => h.tr _ _ _⟩
abbrev VP := { x : Perm // Vp x }
instance : Inhabited VP := ⟨⟨⟨[114, 101, 97, 100], [47], false⟩, ⟨by decide, by decide⟩, by decide⟩⟩
end Go.Lx
/- Normal lists: insertion without doubles is sorting and compacting. Nothing of a program stands here. -/
namespace Go.Lx
open Go
set_option linter.unusedSimpArgs false
set_option linter.unusedVariables false
set_option linter.unnecessarySimpa false
def insGo {α : Type} (f : α → α → Int) (p : α) : List α → List α
  | [] => [p]
  | x :: r => if f p x < 0 then p :: x :: r else x :: insGo f p r
def insG {α : Type} [BEq α] (f : α → α → Int) (l : List α) (p : α) : List α := if l.any (fun x => x == p) then l else insGo f p l
section
variable {α : Type} {f : α → α → Int}
variable [BEq α] [LawfulBEq α]
end
section
variable {α β : Type} {f : β → β → Int} {m : α → β}
variable [BEq α] [LawfulBEq α] [BEq β] [LawfulBEq β]
end
def keepS (l : List Perm) (p : Perm) : Bool := checkS p == 0 && !(l.any fun q => !(q == p) && impliesS q p)
end Go.Lx
/- What the walks ask of this program's types of permissions. -/
namespace Go.Proofs.YtncmjgmlnnenhaaGreatDoor
open Go Go.Lx
set_option linter.unusedSimpArgs false
set_option linter.unusedVariables false
set_option linter.unnecessarySimpa false
set_option maxRecDepth 10000
end Go.Proofs.YtncmjgmlnnenhaaGreatDoor
