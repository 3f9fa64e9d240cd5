/- The plain functions of the permission layer. Nothing of a program stands here. -/
import Derived.Test.YtncmjgmlnnenhaaDoorPure11
namespace Go.Lx
set_option linter.unusedSimpArgs false
set_option linter.unusedVariables false
set_option linter.unnecessarySimpa false
structure Perm where
  act : Str
  path : Str
  deep : Bool
  deriving DecidableEq
/-- The texts are no longer than any that is met. -/
def Perm.ok (x : Perm) : Prop := x.act.length ≤ 1000000 ∧ x.path.length ≤ 1000000
def encP (x : Perm) : List Value := [str x.act, str x.path, .bool x.deep]
theorem encP_ok : EncOk encP 3 := ⟨by decide, fun _ => rfl, fun x u hu => by
  simp [encP] at hu
  rcases hu with rfl | rfl | rfl <;> rfl⟩
def checkS (x : Perm) : Int := if !(nmS x.act) then 9 else if !(splitOk x.path) || (x.deep && depthS x.path == 8) then 6 else 0
def coversS (x : Perm) (act obj : Str) : Bool := if checkS x != 0 || !(x.act == act) || !(splitOk obj) then false else x.path == obj || (x.deep && withinS obj x.path)
def impliesS (x y : Perm) : Bool := checkS y == 0 && coversS x y.act y.path && (x.deep || !y.deep)
def cmpM (x y : Perm) : Int :=
  if cmpS x.act y.act != 0 then cmpS x.act y.act else
  let c := if !(splitOk x.path) || !(splitOk y.path) then cmpS x.path y.path else cmpP x.path y.path
  if c != 0 || x.deep == y.deep then c else if y.deep then -1 else 1
def pz : Perm := ⟨[], [], false⟩
theorem eqT_succ {α : Type} {x y : List α} {k : Nat} {z : α} (h1 : k < x.length) (h2 : k < y.length) (h : x.take k = y.take k) (hz : x.getD k z = y.getD k z) : x.take (k + 1) = y.take (k + 1) := by
  rw [List.take_succ_eq_append_getElem h1, List.take_succ_eq_append_getElem h2, h]
  simp [List.getD, h1, h2] at hz
  rw [hz]
section
variable {α : Type} [BEq α] [LawfulBEq α] {x y : List α} {k : Nat} {z : α}
theorem eqT_len (h : ¬ (x.length : Int) = y.length) : (x == y) = false := by
  rw [beq_eq_false_iff_ne]; intro e; subst e; exact h rfl
theorem eqT_ne (hz : ¬ x.getD k z = y.getD k z) : (x == y) = false := by
  rw [beq_eq_false_iff_ne]; intro e; subst e; exact hz rfl
theorem eqT_end (h1 : x.length ≤ k) (h2 : y.length ≤ k) (h : x.take k = y.take k) : (x == y) = true := by
  rw [List.take_of_length_le h1, List.take_of_length_le h2] at h
  rw [beq_iff_eq]; exact h
end
/-- slices.Compact. -/
def compStep {α : Type} [BEq α] (acc : List α) (x : α) : List α := if acc.getLast? == some x then acc else acc ++ [x]
def compL {α : Type} [BEq α] (l : List α) : List α := l.foldl compStep []
section
variable {α : Type} [BEq α] {l : List α} {k : Nat} {z : α}
theorem comp_snoc (l : List α) (x : α) : compL (l ++ [x]) = compStep (compL l) x := by simp [compL]
theorem comp_succ (h : k < l.length) : compL (l.take (k + 1)) = compStep (compL (l.take k)) (l.getD k z) := by
  rw [List.take_succ_eq_append_getElem h, comp_snoc]; simp [List.getD, h]
theorem comp_one (h : l.length < 2) : compL l = l := by
  match l, h with
  | [], _ => rfl
  | [x], _ => rfl
  | _ :: _ :: _, h => simp at h; omega
theorem comp_take1 (h : 2 ≤ l.length) : compL (l.take 1) = l.take 1 := comp_one (by rw [List.length_take]; omega)
variable [LawfulBEq α]
theorem comp_last : ∀ (l : List α), (compL l).getLast? = l.getLast? := by
  intro l
  rcases List.eq_nil_or_concat l with rfl | ⟨m, x, rfl⟩
  · rfl
  · rw [List.concat_eq_append, comp_snoc]
    unfold compStep
    split
    · rename_i h; rw [eq_of_beq h]; simp
    · simp
omit [BEq α] [LawfulBEq α] in
theorem take_last (h : k < l.length) : (l.take (k + 1)).getLast? = some (l.getD k z) := by
  rw [List.take_succ_eq_append_getElem h, List.getLast?_concat]; simp [List.getD, h]
theorem comp_eq (h : k < l.length) (h1 : 1 ≤ k) (he : l.getD k z = l.getD (k - 1) z) : compL (l.take (k + 1)) = compL (l.take k) := by
  obtain ⟨j, rfl⟩ : ∃ j, k = j + 1 := ⟨k - 1, by omega⟩
  rw [comp_succ (z := z) h, compStep, comp_last, take_last (z := z) (by omega), he]
  simp
theorem comp_ne (h : k < l.length) (h1 : 1 ≤ k) (he : ¬ l.getD k z = l.getD (k - 1) z) : compL (l.take (k + 1)) = compL (l.take k) ++ [l.getD k z] := by
  obtain ⟨j, rfl⟩ : ∃ j, k = j + 1 := ⟨k - 1, by omega⟩
  rw [comp_succ (z := z) h, compStep, comp_last, take_last (z := z) (by omega), if_neg]
  intro e
  have := eq_of_beq e
  simp only [Option.some.injEq] at this
  exact he (by rw [← this]; rfl)
end
/-- An element behind the part that has been written anew. -/
theorem tail_get {α : Type} {x l : List α} {i : Nat} {z : α} (h1 : x.length ≤ i) (h2 : i < l.length) : (x ++ l.drop x.length)[i]? = some (l.getD i z) := by
  rw [List.getElem?_append_right h1, List.getElem?_drop, show x.length + (i - x.length) = i from by omega, getE z h2]
theorem tail_set {α : Type} {x l : List α} {u : α} (h : x.length < l.length) : (x ++ l.drop x.length).set x.length u = (x ++ [u]) ++ l.drop (x ++ [u]).length := by
  rw [List.set_append_right _ _ (Nat.le_refl _), Nat.sub_self, List.drop_eq_getElem_cons h, List.set_cons_zero]
  simp
theorem ix_none {α : Type} {p : α → Bool} {l : List α} (h : (ixOf p l == -1) = true) : l.any p = false := by
  rw [← ixOf_ge, eq_of_beq h]; rfl
theorem ix_some {α : Type} {p : α → Bool} {l : List α} (z : α) (h : (ixOf p l == -1) = false) : ∃ i : Nat, ixOf p l = i ∧ i < l.length ∧ (l.take i).any p = false ∧ p (l.getD i z) = true := by
  unfold ixOf at h ⊢
  cases hf : l.findIdx? p with
  | none => rw [hf] at h; simp at h
  | some i =>
    rw [List.findIdx?_eq_some_iff_getElem] at hf
    obtain ⟨h1, h2, h3⟩ := hf
    refine ⟨i, rfl, h1, ?_, by simp [List.getD, h1, h2]⟩
    rw [List.any_eq_false]
    intro x hx
    rw [List.mem_take_iff_getElem] at hx
    obtain ⟨j, hj, rfl⟩ := hx
    simpa using h3 j (by omega)
theorem getD_mem {α : Type} {l : List α} {i : Nat} {z : α} (h : i < l.length) : l.getD i z ∈ l := by simp [List.getD, h]
theorem filt_yes {α : Type} {f : α → Bool} {l : List α} {j : Nat} {z : α} (h : j < l.length) (hf : f (l.getD j z) = true) : (l.take (j + 1)).filter f = (l.take j).filter f ++ [l.getD j z] := by
  rw [List.take_succ_eq_append_getElem h, List.filter_append]
  simp [List.getD, h] at hf ⊢
  exact hf
theorem filt_no {α : Type} {f : α → Bool} {l : List α} {j : Nat} {z : α} (h : j < l.length) (hf : f (l.getD j z) = false) : (l.take (j + 1)).filter f = (l.take j).filter f := by
  rw [List.take_succ_eq_append_getElem h, List.filter_append]
  simp [List.getD, h] at hf
  simp [hf]
theorem filt_none {α : Type} {q : α → Bool} {l : List α} (h : l.any q = false) : l.filter (fun x => !q x) = l := by
  rw [List.filter_eq_self]
  intro x hx
  have := List.any_eq_false.1 h x hx
  simpa using this
end Go.Lx
