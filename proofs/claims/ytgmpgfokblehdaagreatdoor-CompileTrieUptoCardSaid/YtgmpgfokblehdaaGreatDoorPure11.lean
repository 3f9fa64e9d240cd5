/- Several texts in one file. -/
import Derived.Test.YtgmpgfokblehdaaGreatDoorOwn
import Derived.Lib.Bytealg
import Derived.Lib.Join
import Derived.Test.YtgmpgfokblehdaaGreatDoorProg
import Derived.Laws.StructEq
import Derived.Sort.Statements
set_option linter.unusedSimpArgs false
set_option linter.unusedVariables false
set_option linter.unnecessarySimpa false
/- The plain functions of the path layer and of the small library functions that it calls. Nothing of a program stands here. -/
namespace Go.Lx
abbrev Str := List UInt8
def encS (l : Str) : List Value := [str l]
theorem Q5 : EncOk encS 1 := ⟨by decide, fun _ => rfl, fun x u hu => by simp [encS] at hu; subst hu; rfl⟩
theorem getElem?_of {α : Type} {l : List α} {i : Nat} (h : i < l.length) : l[i]? = some l[i] := List.getElem?_eq_getElem h
theorem YG {l : List UInt8} {i : Nat} (h : i < l.length) : l.getD i 0 = l[i] := by simp [List.getD, h]
theorem YO {l : List UInt8} {p : UInt8 → Bool} {k : Nat} (h : k < l.length) : (l.take (k + 1)).all p = ((l.take k).all p && p (l.getD k 0)) := by
 rw [YG h, List.take_succ_eq_append_getElem h, List.all_append]; simp
theorem all_at {l : List UInt8} {p : UInt8 → Bool} {k : Nat} (h : k < l.length) (hp : p (l.getD k 0) = false) : l.all p = false := by
 rw [YG h] at hp
 rw [List.all_eq_false]
 exact ⟨l[k], List.getElem_mem h, by simp [hp]⟩
theorem all_end {α : Type} {l : List α} {p : α → Bool} {k : Nat} (h : l.length ≤ k) (ha : (l.take k).all p = true) : l.all p = true := by rwa [List.take_of_length_le h] at ha
theorem allT_succ {α : Type} {l : List α} {p : α → Bool} {k : Nat} (h : k < l.length) (ha : (l.take k).all p = true) (hp : p l[k] = true) : (l.take (k + 1)).all p = true := by
 rw [List.take_succ_eq_append_getElem h, List.all_append, ha]; simp [hp]
theorem allT_at {α : Type} {l : List α} {p : α → Bool} {k : Nat} (h : k < l.length) (hp : p l[k] = false) : l.all p = false := by
 rw [List.all_eq_false]; exact ⟨l[k], List.getElem_mem h, by simp [hp]⟩
theorem Jd {α : Type} {l : List α} {p : α → Bool} {k : Nat} (h : k < l.length) (ha : (l.take k).any p = false) (hp : p l[k] = false) : (l.take (k + 1)).any p = false := by
 rw [List.take_succ_eq_append_getElem h, List.any_append, ha]; simp [hp]
def nameB (c : UInt8) : Bool := !((decide ((c.toNat : Int) < 97) || decide ((122 : Int) < c.toNat)) && (decide ((c.toNat : Int) < 48) || decide ((57 : Int) < c.toNat)) && ((c.toNat : Int) != 95) && ((c.toNat : Int) != 46) && ((c.toNat : Int) != 45))
def namedS (l : Str) : Bool := !(decide ((l.length : Int) < 1) || decide ((12 : Int) < l.length) || l == [46] || l == [46, 46]) && l.all nameB
def ixOf {α : Type} (p : α → Bool) (l : List α) : Int := match l.findIdx? p with | some i => (i : Int) | none => -1
theorem YH {α : Type} {p : α → Bool} {l : List α} {k : Nat} (h : k < l.length) (ha : (l.take k).any p = false) (hp : p l[k] = true) : ixOf p l = k := by
 have : l.findIdx? p = some k := by
  rw [List.findIdx?_eq_some_iff_getElem]
  refine ⟨h, hp, fun j hj => ?_⟩
  rw [List.any_eq_false] at ha
  have := ha l[j] (by rw [List.mem_take_iff_getElem]; exact ⟨j, by omega, rfl⟩)
  simpa using this
 simp [ixOf, this]
theorem Jo {α : Type} {p : α → Bool} {l : List α} {k : Nat} (h : l.length ≤ k) (ha : (l.take k).any p = false) : ixOf p l = -1 := by
 rw [List.take_of_length_le h] at ha
 have : l.findIdx? p = none := by
  rw [List.findIdx?_eq_none_iff]
  intro x hx
  have := List.any_eq_false.1 ha x hx
  simpa using this
 simp [ixOf, this]
theorem Vr {α : Type} (p : α → Bool) (l : List α) : decide ((0 : Int) ≤ ixOf p l) = l.any p := by
 unfold ixOf
 cases h : l.findIdx? p with
 | none =>
  rw [List.findIdx?_eq_none_iff] at h
  have : l.any p = false := by rw [List.any_eq_false]; intro x hx; simp [h x hx]
  simp [this]
 | some i =>
  rw [List.findIdx?_eq_some_iff_getElem] at h
  obtain ⟨h1, h2, _⟩ := h
  have : l.any p = true := by rw [List.any_eq_true]; exact ⟨l[i], List.getElem_mem h1, h2⟩
  simp [this]
def hasPre (s p : Str) : Bool := decide ((p.length : Int) ≤ s.length) && (s.take p.length == p)
def splitS : Str → List Str
 | [] => [[]]
 | c :: r => if c == 47 then [] :: splitS r else match splitS r with | [] => [[c]] | h :: t => (c :: h) :: t
theorem YI (l : Str) : splitS l ≠ [] := by
 cases l with
 | nil => simp [splitS]
 | cons c r =>
  simp only [splitS]
  split
  ·simp
  ·split <;> simp
theorem YJ : ∀ (l : Str), (Lib.indexByte l 47 = -1 ∧ splitS l = [l] ∧ l.count 47 = 0) ∨ (∃ m : Nat, Lib.indexByte l 47 = m ∧ m < l.length ∧ splitS l = l.take m :: splitS (l.drop (m + 1)) ∧ l.count 47 = (l.drop (m + 1)).count 47 + 1)
 | [] => .inl ⟨rfl, rfl, rfl⟩
 | c :: r => by
  by_cases hc : c = 47
  ·subst hc
   exact .inr ⟨0, by simp [Lib.indexByte], by simp, by simp [splitS], by simp⟩
  ·have hb : (c == 47) = false := by simp [hc]
   rcases YJ r with ⟨h1, h2, h3⟩ | ⟨m, h1, h2, h3, h4⟩
   ·left
    refine ⟨by simp [Lib.indexByte, hb, h1], by simp [splitS, hb, h2], by rw [List.count_cons, h3]; simp [hb]⟩
   ·right
    have hm : ¬ ((m : Int) = -1) := by omega
    refine ⟨m + 1, ?_, by simp; omega, ?_, ?_⟩
    ·simp [Lib.indexByte, hb, h1, hm]
    ·simp [splitS, hb, h3]
    ·rw [List.count_cons, h4]; simp [hb]
theorem split_last {l : Str} (h : l.count 47 = 0) : splitS l = [l] := by
 rcases YJ l with ⟨_, h2, _⟩ | ⟨m, _, _, _, h4⟩
 ·exact h2
 ·omega
theorem split_neg {l : Str} (h : Lib.indexByte l 47 < 0) : l.count 47 = 0 := by
 rcases YJ l with ⟨_, _, h3⟩ | ⟨m, h1, _⟩
 ·exact h3
 ·omega
theorem split_pos {l : Str} (h : ¬ Lib.indexByte l 47 < 0) : ∃ m : Nat, Lib.indexByte l 47 = m ∧ m < l.length ∧ splitS l = l.take m :: splitS (l.drop (m + 1)) ∧ l.count 47 = (l.drop (m + 1)).count 47 + 1 := by
 rcases YJ l with ⟨h1, _⟩ | h2
 ·omega
 ·exact h2
theorem app_set {α : Type} (x : List α) (u z : α) {n k : Nat} (h : n = k + 1) : (x ++ List.replicate n z).set x.length u = (x ++ [u]) ++ List.replicate k z := by
 subst h
 rw [List.set_append_right _ _ (Nat.le_refl _), Nat.sub_self, List.replicate_succ, List.set_cons_zero]
 simp
def splitP (p : Str) : Option (List Str) :=
 if p == [47] then some [] else if !(hasPre p [47]) then none else if (8 : Int) < (splitS (p.drop 1)).length then none else if (splitS (p.drop 1)).all namedS then some (splitS (p.drop 1)) else none
def splitL (p : Str) : List Str := (splitP p).getD []
def splitOk (p : Str) : Bool := (splitP p).isSome
theorem Ye : ∀ (l : Str) (x : Str), x ∈ splitS l → x.length ≤ l.length
 | [], x, h => by simp [splitS] at h; subst h; simp
 | c :: r, x, h => by
  simp only [splitS] at h
  split at h
  ·rcases List.mem_cons.1 h with rfl | h
   ·simp
   ·have := Ye r x h; simp; omega
  ·have hne := YI r
   cases hs : splitS r with
   | nil => exact absurd hs hne
   | cons y t =>
    rw [hs] at h
    simp only [List.mem_cons] at h
    rcases h with rfl | h
    ·have := Ye r y (by rw [hs]; simp); simp; omega
    ·have := Ye r x (by rw [hs]; simp [h]); simp; omega
theorem splitS_len1 {p : Str} {k : Nat} (hk : k < (splitS (p.drop 1)).length) (hp : p.length ≤ 1100000) : ((splitS (p.drop 1))[k]).length ≤ 4611686018427387904 := by
 have := Ye (p.drop 1) _ (List.getElem_mem hk)
 simp at this ⊢; omega
theorem hasPre_len {p : Str} (h : hasPre p [47] = true) : 1 ≤ p.length := by
 simp only [hasPre, Bool.and_eq_true, decide_eq_true_eq] at h
 have := h.1; simp at this; omega
theorem Yw {p : Str} (h : (p == [47]) = true) : splitP p = some [] := by rw [splitP, if_pos h]
theorem JQ {p : Str} (h : ((p == [47]) = false ∧ hasPre p [47] = false) ∨ ((p == [47]) = false ∧ hasPre p [47] = true ∧ ((8 : Int) < (splitS (p.drop 1)).length ∨ (splitS (p.drop 1)).all namedS = false))) : splitP p = none := by
 rcases h with ⟨h1, h2⟩ | ⟨h1, h2, h3⟩
 ·rw [splitP, if_neg (by simp [h1]), if_pos (by simp [h2])]
 ·rw [splitP, if_neg (by simp [h1]), if_neg (by simp [h2])]
  rcases h3 with h | h
  ·rw [if_pos h]
  ·split
   ·rfl
   ·rw [if_neg (by rw [h]; decide)]
theorem splitP_some {p : Str} (h1 : (p == [47]) = false) (h2 : hasPre p [47] = true) (h3 : ¬ (8 : Int) < (splitS (p.drop 1)).length) (h4 : (splitS (p.drop 1)).all namedS = true) : splitP p = some (splitS (p.drop 1)) := by
 rw [splitP, if_neg (by simp [h1]), if_neg (by simp [h2]), if_neg h3, if_pos h4]
theorem Jy {p : Str} {l : List Str} (h : splitP p = some l) : splitOk p = true := by simp [splitOk, h]
theorem Z0 {p : Str} {l : List Str} (h : splitP p = some l) : splitL p = l := by simp [splitL, h]
theorem splitL_none {p : Str} (h : splitP p = none) : splitL p = [] := by simp [splitL, h]
theorem Jz {p : Str} (h : splitP p = none) : splitOk p = false := by simp [splitOk, h]
theorem split_r {β : Prop} {p : Str} {w w' : World} (hX : Ext β w w') {b : Bool} (h : splitP p = (if b then some [] else none)) :
  ∃ a c, Value.tuple #[.slice none 0 0, .bool b] = .tuple #[.slice a (splitL p).length c, .bool (splitOk p)] ∧ Sl encS 1 (Fsh w w') w' a c (splitL p) ∧ Ext β w w' := by
 cases b with
 | true =>
  simp only [if_true] at h
  exact ⟨none, 0, by rw [Z0 h, Jy h]; rfl, by rw [Z0 h]; exact Sl.none, hX⟩
 | false =>
  simp only [Bool.false_eq_true, if_false] at h
  exact ⟨none, 0, by rw [splitL_none h, Jz h]; rfl, by rw [splitL_none h]; exact Sl.none, hX⟩
theorem JK (p : Str) : (splitL p).length ≤ 8 := by
 unfold splitL splitP
 split
 ·simp
 ·split
  ·simp
  ·split
   ·simp
   ·split
    ·rename_i h _
     show (splitS (p.drop 1)).length ≤ 8
     omega
    ·simp
def commonS : List Str → List Str → Nat
 | a :: x, b :: y => if a == b then commonS x y + 1 else 0
 | _, _ => 0
theorem commonS_at : ∀ (a b : List Str) (k : Nat), k ≤ a.length → k ≤ b.length → (∀ i, i < k → a[i]? = b[i]?) → (k = a.length ∨ k = b.length ∨ a[k]? ≠ b[k]?) → commonS a b = k
 | [], b, k, h1, h2, _, _ => by simp at h1; subst h1; simp [commonS]
 | a :: x, [], k, h1, h2, _, _ => by simp at h2; subst h2; simp [commonS]
 | a :: x, b :: y, 0, _, _, _, h4 => by
  simp at h4
  simp [commonS, h4]
 | a :: x, b :: y, k + 1, h1, h2, h3, h4 => by
  have h0 := h3 0 (by omega)
  simp at h0
  subst h0
  simp only [commonS, beq_self_eq_true, if_true]
  rw [commonS_at x y k (by simpa using h1) (by simpa using h2) (fun i hi => by simpa using h3 (i + 1) (by omega)) (by simpa using h4)]
theorem Ze {α : Type} {l : List α} {i : Nat} (z : α) (h : i < l.length) : l[i]? = some (l.getD i z) := by simp [List.getD, h]
section
variable {x y : List Str} {k : Nat}
theorem common_i (hg : ((decide ((k : Int) < x.length) && decide ((k : Int) < y.length)) == true) = true) : k < x.length := by simp at hg; omega
theorem common_j (hg : ((decide ((k : Int) < x.length) && decide ((k : Int) < y.length)) == true) = true) : k < y.length := by simp at hg; omega
theorem common_lt (hc : (decide ((k : Int) < x.length) && decide ((k : Int) < y.length) && (x.getD k [] == y.getD k [])) = true) : k < x.length ∧ k < y.length ∧ x[k]? = y[k]? := by
 simp only [Bool.and_eq_true, decide_eq_true_eq, beq_iff_eq] at hc
 obtain ⟨⟨h1, h2⟩, h3⟩ := hc
 have h1' : k < x.length := by omega
 have h2' : k < y.length := by omega
 exact ⟨h1', h2', by rw [Ze [] h1', Ze [] h2', h3]⟩
theorem common_next (hk : k ≤ x.length ∧ k ≤ y.length ∧ ∀ i, i < k → x[i]? = y[i]?) (hc : (decide ((k : Int) < x.length) && decide ((k : Int) < y.length) && (x.getD k [] == y.getD k [])) = true) : k + 1 ≤ x.length ∧ k + 1 ≤ y.length ∧ ∀ i, i < k + 1 → x[i]? = y[i]? := by
 obtain ⟨h1, h2, h3⟩ := common_lt hc
 refine ⟨h1, h2, fun i hi => ?_⟩
 rcases Nat.lt_or_ge i k with h | h
 ·exact hk.2.2 i h
 ·have : i = k := by omega
  subst this; exact h3
theorem common_end (hk : k ≤ x.length ∧ k ≤ y.length ∧ ∀ i, i < k → x[i]? = y[i]?) (hc : (decide ((k : Int) < x.length) && decide ((k : Int) < y.length) && (x.getD k [] == y.getD k [])) = false) : commonS x y = k := by
 refine commonS_at x y k hk.1 hk.2.1 hk.2.2 ?_
 by_cases h1 : k < x.length
 ·by_cases h2 : k < y.length
  ·right; right
   intro h3
   rw [Ze [] h1, Ze [] h2] at h3
   have h4 : x.getD k [] = y.getD k [] := by simpa using h3
   have h1' : (k : Int) < x.length := by omega
   have h2' : (k : Int) < y.length := by omega
   simp only [h1', h2', decide_true, Bool.true_and, h4, beq_self_eq_true] at hc
   cases hc
  ·right; left; omega
 ·left; omega
end
def withinS (p q : Str) : Bool := splitOk p && splitOk q && ((commonS (splitL p) (splitL q) : Int) == (splitL q).length)
def cmpS (a b : Str) : Int := if Op.bytesLess a b then -1 else if !(Op.bytesLess a b || a == b) then 1 else 0
def cmpL : List Str → List Str → Int
 | [], [] => 0
 | [], _ :: _ => -1
 | _ :: _, [] => 1
 | a :: x, b :: y => if cmpS a b != 0 then cmpS a b else cmpL x y
theorem cmpL_nil_right (a : List Str) (h : a ≠ []) : cmpL a [] = 1 := by
 cases a with
 | nil => exact absurd rfl h
 | cons => rfl
section
variable {x y : List Str} {k : Nat}
theorem cmpL_step (h1 : k < x.length) (h2 : k < y.length) (h : (cmpS x[k] y[k] == 0) = true) : cmpL (x.drop k) (y.drop k) = cmpL (x.drop (k + 1)) (y.drop (k + 1)) := by
 rw [List.drop_eq_getElem_cons h1, List.drop_eq_getElem_cons h2, cmpL, bne, h]; simp
theorem cmpL_ne (h1 : k < x.length) (h2 : k < y.length) (h : (cmpS x[k] y[k] == 0) = false) : cmpL (x.drop k) (y.drop k) = cmpS x[k] y[k] := by
 rw [List.drop_eq_getElem_cons h1, List.drop_eq_getElem_cons h2, cmpL, if_pos (by rw [bne, h]; rfl)]
theorem cmpL_long (h1 : k < x.length) (h2 : y.length ≤ k) : cmpL (x.drop k) (y.drop k) = 1 := by
 rw [List.drop_of_length_le h2]
 exact cmpL_nil_right _ (by simp; omega)
theorem cmpL_short (h1 : x.length ≤ k) (h2 : k < y.length) : cmpL (x.drop k) (y.drop k) = -1 := by
 rw [List.drop_of_length_le h1, List.drop_eq_getElem_cons h2]; rfl
theorem cmpL_both (h1 : x.length ≤ k) (h2 : y.length ≤ k) : cmpL (x.drop k) (y.drop k) = 0 := by
 rw [List.drop_of_length_le h1, List.drop_of_length_le h2]; rfl
end
def cmpP (p q : Str) : Int := if splitOk p && splitOk q then cmpL (splitL p) (splitL q) else if splitOk p then -1 else if splitOk q then 1 else cmpS p q
def joinP (l : List Str) : Str := 47 :: Lib.join l [47]
def depthS (p : Str) : Int := if splitOk p then (splitL p).length else -1
def keywordsS : List Str := [[97, 108, 108], [97, 110, 100], [97, 115, 115, 105, 103, 110], [98, 121], [99, 111, 117, 110, 116], [100, 101, 99, 108, 97, 114, 101], [100, 121, 110, 97, 109, 105, 99], [101, 110, 102, 111, 114, 99, 101], [102, 97, 108, 115, 101], [102, 111, 114], [105, 102], [109, 101, 109, 98, 101, 114, 115], [110, 111, 110, 101], [110, 111, 116], [111, 110], [111, 114], [114, 101, 118, 111, 107, 101], [115, 116, 97, 116, 105, 99], [116, 114, 117, 101], [117, 115, 101, 114, 115]]
def letterB (c : UInt8) : Bool := decide ((97 : Int) ≤ c.toNat) && decide ((c.toNat : Int) ≤ 122)
def innerB (c : UInt8) : Bool := letterB c || (decide ((48 : Int) ≤ c.toNat) && decide ((c.toNat : Int) ≤ 57)) || ((c.toNat : Int) == 95)
def nmS (l : Str) : Bool := !((l.length : Int) == 0 || decide ((12 : Int) < l.length) || keywordsS.any fun x => l == x) && l.all innerB && letterB (l.getD 0 0)
def okAt (l : Str) (k : Nat) : Bool := !(!(innerB (l.getD k 0)) || ((k : Int) == 0 && !(letterB (l.getD k 0))))
theorem nm_all {l : Str} {k : Nat} (hk : k ≤ l.length) (h : ∀ i, i < k → okAt l i = true) (hk0 : 0 < k) : (l.take k).all innerB = true ∧ letterB (l.getD 0 0) = true := by
 constructor
 ·rw [List.all_eq_true]
  intro x hx
  rw [List.mem_take_iff_getElem] at hx
  obtain ⟨i, hi, rfl⟩ := hx
  have := h i (by omega)
  unfold okAt at this
  rw [YG (by omega)] at this
  simp at this
  exact this.1
 ·have := h 0 hk0
  unfold okAt at this
  simp at this
  simpa using this.2
theorem nm_no {l : Str} {k : Nat} (hk : k < l.length) (h : okAt l k = false) : (l.all innerB && letterB (l.getD 0 0)) = false := by
 unfold okAt at h
 cases hi : innerB (l.getD k 0) with
 | false => rw [all_at hk hi]; rfl
 | true =>
  rw [hi] at h
  by_cases h0 : k = 0
  ·subst h0; simp at h; simp [h]
  ·have : ((k : Int) == 0) = false := by simp; omega
   rw [this] at h; simp at h
theorem okAt_succ {l : Str} {k : Nat} (h : ∀ i, i < k → okAt l i = true) (hk : okAt l k = true) : ∀ i, i < k + 1 → okAt l i = true := by
 intro i hi
 rcases Nat.lt_or_ge i k with h1 | h1
 ·exact h i h1
 ·have : i = k := by omega
  subst this; exact hk
def nmPre (l : Str) : Bool := ((l.length : Int) == 0 || decide ((12 : Int) < l.length))
theorem nmS_of {l : Str} {k : Nat} (hk : l.length ≤ k) (hk' : k ≤ l.length) (h : ∀ i, i < k → okAt l i = true) (h1 : nmPre l = false) : nmS l = !(keywordsS.any fun x => l == x) := by
 have hl : k = l.length := by omega
 subst hl
 have h0 : 0 < l.length := by
  unfold nmPre at h1
  simp at h1
  cases l with
  | nil => simp at h1
  | cons _ _ => simp
 obtain ⟨h2, h3⟩ := nm_all (Nat.le_refl _) h h0
 rw [List.take_length] at h2
 unfold nmPre at h1
 simp only [nmS, h1, Bool.false_or, h2, h3, Bool.and_true]
theorem nmS_pre {l : Str} (h : nmPre l = true) : nmS l = false := by unfold nmPre at h; simp only [nmS, h, Bool.true_or, Bool.not_true, Bool.false_and]
theorem nmS_kw {l : Str} (h : (keywordsS.any fun x => l == x) = true) : nmS l = false := by simp [nmS, h]
theorem nmS_no {l : Str} {k : Nat} (hk : k < l.length) (h : okAt l k = false) : nmS l = false := by
 have := nm_no hk h
 simp only [nmS, Bool.and_assoc, this, Bool.and_false]
theorem okAt_r {l : Str} {k : Nat} (h : (!(decide ((97 : Int) ≤ (l.getD k 0).toNat) && decide (((l.getD k 0).toNat : Int) ≤ 122)) && ((k : Int) == 0 || !(decide ((48 : Int) ≤ (l.getD k 0).toNat) && decide (((l.getD k 0).toNat : Int) ≤ 57) || ((l.getD k 0).toNat : Int) == 95))) = false) : okAt l k = true := by
 unfold okAt innerB letterB
 revert h
 generalize decide ((97 : Int) ≤ (l.getD k 0).toNat) = a; generalize decide (((l.getD k 0).toNat : Int) ≤ 122) = b; generalize decide ((48 : Int) ≤ (l.getD k 0).toNat) = c
 generalize decide (((l.getD k 0).toNat : Int) ≤ 57) = d; generalize (((l.getD k 0).toNat : Int) == 95) = e; generalize ((k : Int) == 0) = f
 cases a <;> cases b <;> cases c <;> cases d <;> cases e <;> cases f <;> simp
theorem okAt_f {l : Str} {k : Nat} (h : (!(decide ((97 : Int) ≤ (l.getD k 0).toNat) && decide (((l.getD k 0).toNat : Int) ≤ 122)) && ((k : Int) == 0 || !(decide ((48 : Int) ≤ (l.getD k 0).toNat) && decide (((l.getD k 0).toNat : Int) ≤ 57) || ((l.getD k 0).toNat : Int) == 95))) = true) : okAt l k = false := by
 unfold okAt innerB letterB
 revert h
 generalize decide ((97 : Int) ≤ (l.getD k 0).toNat) = a; generalize decide (((l.getD k 0).toNat : Int) ≤ 122) = b; generalize decide ((48 : Int) ≤ (l.getD k 0).toNat) = c
 generalize decide (((l.getD k 0).toNat : Int) ≤ 57) = d; generalize (((l.getD k 0).toNat : Int) == 95) = e; generalize ((k : Int) == 0) = f
 cases a <;> cases b <;> cases c <;> cases d <;> cases e <;> cases f <;> simp
theorem any_comm (l : List Str) (s : Str) : (l.any fun y => y == s) = l.any fun y => s == y := by
 congr 1; funext y; exact Bool.beq_comm
theorem kw_in {s : Str} {j : Nat} (hj : j < keywordsS.length) (h : (keywordsS[j] == s) = true) : (keywordsS.any fun x => s == x) = true := by
 rw [← any_comm, List.any_eq_true]; exact ⟨_, List.getElem_mem hj, h⟩
theorem kw_out {s : Str} {j : Nat} (hj : keywordsS.length ≤ j) (h : (keywordsS.take j).any (fun y => y == s) = false) : (keywordsS.any fun x => s == x) = false := by
 rw [List.take_of_length_le hj, any_comm] at h; exact h
end Go.Lx
/- The plain functions of the permission layer. Nothing of a program stands here. -/
namespace Go.Lx
structure Perm where
 act : Str
 path : Str
 deep : Bool
 deriving DecidableEq
def Perm.ok (x : Perm) : Prop := x.act.length ≤ 1100000 ∧ x.path.length ≤ 1100000
def encP (x : Perm) : List Value := [str x.act, str x.path, .bool x.deep]
theorem encP_ok : EncOk encP 3 := ⟨by decide, fun _ => rfl, fun x u hu => by
 simp [encP] at hu
 rcases hu with rfl | rfl | rfl <;> rfl⟩
def checkS (x : Perm) : Int := if !(nmS x.act) then 9 else if !(splitOk x.path) || (x.deep && depthS x.path == 8) then 6 else 0
def coversS (x : Perm) (act obj : Str) : Bool := if checkS x != 0 || !(x.act == act) || !(splitOk obj) then false else x.path == obj || (x.deep && withinS obj x.path)
def impliesS (x y : Perm) : Bool := checkS y == 0 && coversS x y.act y.path && (x.deep || !y.deep)
def cmpM (x y : Perm) : Int :=
 if cmpS x.act y.act != 0 then cmpS x.act y.act else
 let c := if !(splitOk x.path) || !(splitOk y.path) then cmpS x.path y.path else cmpP x.path y.path
 if c != 0 || x.deep == y.deep then c else if y.deep then -1 else 1
def pz : Perm := ⟨[], [], false⟩
theorem JL {α : Type} {x y : List α} {k : Nat} {z : α} (h1 : k < x.length) (h2 : k < y.length) (h : x.take k = y.take k) (hz : x.getD k z = y.getD k z) : x.take (k + 1) = y.take (k + 1) := by
 rw [List.take_succ_eq_append_getElem h1, List.take_succ_eq_append_getElem h2, h]
 simp [List.getD, h1, h2] at hz
 rw [hz]
section
variable {α : Type} [BEq α] [LawfulBEq α] {x y : List α} {k : Nat} {z : α}
theorem Yf (h : ¬ (x.length : Int) = y.length) : (x == y) = false := by
 rw [beq_eq_false_iff_ne]; intro e; subst e; exact h rfl
theorem YX (hz : ¬ x.getD k z = y.getD k z) : (x == y) = false := by
 rw [beq_eq_false_iff_ne]; intro e; subst e; exact hz rfl
theorem Yg (h1 : x.length ≤ k) (h2 : y.length ≤ k) (h : x.take k = y.take k) : (x == y) = true := by
 rw [List.take_of_length_le h1, List.take_of_length_le h2] at h
 rw [beq_iff_eq]; exact h
end
def compStep {α : Type} [BEq α] (acc : List α) (x : α) : List α := if acc.getLast? == some x then acc else acc ++ [x]
def compL {α : Type} [BEq α] (l : List α) : List α := l.foldl compStep []
section
variable {α : Type} [BEq α] {l : List α} {k : Nat} {z : α}
theorem comp_snoc (l : List α) (x : α) : compL (l ++ [x]) = compStep (compL l) x := by simp [compL]
theorem comp_succ (h : k < l.length) : compL (l.take (k + 1)) = compStep (compL (l.take k)) (l.getD k z) := by
 rw [List.take_succ_eq_append_getElem h, comp_snoc]; simp [List.getD, h]
theorem comp_one (h : l.length < 2) : compL l = l := by
 match l, h with
 | [], _ => rfl
 | [x], _ => rfl
 | _ :: _ :: _, h => simp at h; omega
theorem comp_take1 (h : 2 ≤ l.length) : compL (l.take 1) = l.take 1 := comp_one (by rw [List.length_take]; omega)
variable [LawfulBEq α]
theorem comp_last : ∀ (l : List α), (compL l).getLast? = l.getLast? := by
 intro l
 rcases List.eq_nil_or_concat l with rfl | ⟨m, x, rfl⟩
 ·rfl
 ·rw [List.concat_eq_append, comp_snoc]
  unfold compStep
  split
  ·rename_i h; rw [eq_of_beq h]; simp
  ·simp
omit [BEq α] [LawfulBEq α] in
theorem take_last (h : k < l.length) : (l.take (k + 1)).getLast? = some (l.getD k z) := by
 rw [List.take_succ_eq_append_getElem h, List.getLast?_concat]; simp [List.getD, h]
theorem comp_eq (h : k < l.length) (h1 : 1 ≤ k) (he : l.getD k z = l.getD (k - 1) z) : compL (l.take (k + 1)) = compL (l.take k) := by
 obtain ⟨j, rfl⟩ : ∃ j, k = j + 1 := ⟨k - 1, by omega⟩
 rw [comp_succ (z := z) h, compStep, comp_last, take_last (z := z) (by omega), he]
 simp
theorem comp_ne (h : k < l.length) (h1 : 1 ≤ k) (he : ¬ l.getD k z = l.getD (k - 1) z) : compL (l.take (k + 1)) = compL (l.take k) ++ [l.getD k z] := by
 obtain ⟨j, rfl⟩ : ∃ j, k = j + 1 := ⟨k - 1, by omega⟩
 rw [comp_succ (z := z) h, compStep, comp_last, take_last (z := z) (by omega), if_neg]
 intro e
 have := eq_of_beq e
 simp only [Option.some.injEq] at this
 exact he (by rw [← this]; rfl)
end
theorem J2 {α : Type} {x l : List α} {i : Nat} {z : α} (h1 : x.length ≤ i) (h2 : i < l.length) : (x ++ l.drop x.length)[i]? = some (l.getD i z) := by
 rw [List.getElem?_append_right h1, List.getElem?_drop, show x.length + (i - x.length) = i from by omega, Ze z h2]
theorem tail_set {α : Type} {x l : List α} {u : α} (h : x.length < l.length) : (x ++ l.drop x.length).set x.length u = (x ++ [u]) ++ l.drop (x ++ [u]).length := by
 rw [List.set_append_right _ _ (Nat.le_refl _), Nat.sub_self, List.drop_eq_getElem_cons h, List.set_cons_zero]
 simp
theorem ix_some {α : Type} {p : α → Bool} {l : List α} (z : α) (h : (ixOf p l == -1) = false) : ∃ i : Nat, ixOf p l = i ∧ i < l.length ∧ (l.take i).any p = false ∧ p (l.getD i z) = true := by
 unfold ixOf at h ⊢
 cases hf : l.findIdx? p with
 | none => rw [hf] at h; simp at h
 | some i =>
  rw [List.findIdx?_eq_some_iff_getElem] at hf
  obtain ⟨h1, h2, h3⟩ := hf
  refine ⟨i, rfl, h1, ?_, by simp [List.getD, h1, h2]⟩
  rw [List.any_eq_false]
  intro x hx
  rw [List.mem_take_iff_getElem] at hx
  obtain ⟨j, hj, rfl⟩ := hx
  simpa using h3 j (by omega)
theorem getD_mem {α : Type} {l : List α} {i : Nat} {z : α} (h : i < l.length) : l.getD i z ∈ l := by simp [List.getD, h]
theorem filt_yes {α : Type} {f : α → Bool} {l : List α} {j : Nat} {z : α} (h : j < l.length) (hf : f (l.getD j z) = true) : (l.take (j + 1)).filter f = (l.take j).filter f ++ [l.getD j z] := by
 rw [List.take_succ_eq_append_getElem h, List.filter_append]
 simp [List.getD, h] at hf ⊢
 exact hf
theorem filt_no {α : Type} {f : α → Bool} {l : List α} {j : Nat} {z : α} (h : j < l.length) (hf : f (l.getD j z) = false) : (l.take (j + 1)).filter f = (l.take j).filter f := by
 rw [List.take_succ_eq_append_getElem h, List.filter_append]
 simp [List.getD, h] at hf
 simp [hf]
end Go.Lx
/- What the walks ask of this program's tables, and its calls without a body. -/
namespace Go.Proofs.YtgmpgfokblehdaaGreatDoor
open Go Go.Lx
theorem QV : Tryz.prog.follows .mixedOrders = true := by kernel_rfl
theorem ZC : ElT Tryz.prog 23 9 1 16 (.string ⟨#[]⟩) := ⟨Tryz.underlying23, ⟨Tryz.t9, by kernel_rfl, rfl, rfl, rfl⟩, rfl, by decide, by decide⟩
theorem x_index (l : Str) (c : Int) (w : World) : (callFunc 268 #[str l, .int .u8 c]).run Tryz.prog w = .ok (.value (.int .i64 (Lib.indexByte l c.toNat.toUInt8))) w := by
 rw [run_callFunc_extern Tryz.func268 (by kernel_rfl) (by kernel_rfl) (by kernel_rfl) (e := Extern.BytealgIndexByte.indexByte) (by kernel_rfl)]
 rw [show str l = Value.string ⟨l.toArray⟩ from rfl, Lib.run_indexByteString]; rfl
theorem x_count (l : Str) (c : Int) (w : World) : (callFunc 257 #[str l, .int .u8 c]).run Tryz.prog w = .ok (.value (.int .i64 (l.count c.toNat.toUInt8 : Nat))) w := by
 rw [run_callFunc_extern Tryz.func257 (by kernel_rfl) (by kernel_rfl) (by kernel_rfl) (e := Extern.BytealgCount.count) (by kernel_rfl)]
 rw [show str l = Value.string ⟨l.toArray⟩ from rfl, Lib.run_countString]; rfl
end Go.Proofs.YtgmpgfokblehdaaGreatDoor
/- Equality of structs, told by an encoding. Nothing of a program stands here. -/
namespace Go.Lx
open Go
structure EqT {α : Type} [BEq α] (P : Program) (T : TypeId) (enc : α → List Value) : Prop where
 gd : P.eqGuardType P.depth T = false
 run : ∀ (w : World) x y, (Op.equalIn 10000 T (.agg (enc x).toArray) (.agg (enc y).toArray)).run P w = .ok (x == y) w
section
variable {P : Program} {d : Nat} {xs ys : Array Value} {f : Field} {fs : List Field} {v u : Value} {r r' : Bool}
theorem YK : ∀ w, (Op.eqFields d xs ys []).run P w = .ok true w := fun _ => rfl
theorem ZV (hn : f.name ≠ "_") (ha : ∀ w, (isAgg f.type).run P w = .ok false w) (hx : xs[f.offset]? = some v) (hy : ys[f.offset]? = some u) (he : ∀ w, (Op.equalIn d f.type v u).run P w = .ok r w) (hr : ∀ w, (Op.eqFields d xs ys fs).run P w = .ok r' w) :
  ∀ w, (Op.eqFields d xs ys (f :: fs)).run P w = .ok (r && r') w := by
 intro w
 simp only [Op.eqFields, hn, ne_eq, not_false_eq_true, if_true, Sem.run_bind, part, ha, Result.andThen_ok, Bool.false_eq_true, if_false, hx, hy, Sem.run_pure, he]
 cases r
 ·simp
 ·simp [hr]
theorem YL {T : TypeId} (l m : List UInt8) (h : P.underlying T = some .string) : ∀ w, (Op.equalIn (d + 1) T (str l) (str m)).run P w = .ok (l == m) w := by
 intro w
 have := run_equalIn_string (P := P) w d T ⟨l.toArray⟩ ⟨m.toArray⟩ h
 rw [toList_mk, toList_mk] at this
 exact this
end
section
variable {α : Type} [BEq α] {enc : α → List Value} {P : Program} {fr : Fr} {w : World} {d : Option Nat} {t : TypeId} {ps : String} {af : Array Edge} {g : Option (Nat × Bool)} {x y : Operand} {T U : TypeId} {a b : α}
theorem o_teql (h : EqT P T enc) (hx : ev fr x = .agg (enc a).toArray) (hy : ev fr y = .agg (enc b).toArray) : xop P fr w ⟨d, .binOp .eql T x y U, t, ps, af, g⟩ = .ok (.value (.bool (a == b))) w := by
 simp only [xop, execOp, hx, hy, Sem.run_bind, run_eqGuard_agg w .eql T x y _ _ h.gd, Result.andThen_ok, run_eql_struct, h.run]
 rfl
theorem JV (h : EqT P T enc) (hx : ev fr x = .agg (enc a).toArray) (hy : ev fr y = .agg (enc b).toArray) : xop P fr w ⟨d, .binOp .neq T x y U, t, ps, af, g⟩ = .ok (.value (.bool (!(a == b)))) w := by
 simp only [xop, execOp, hx, hy, Sem.run_bind, run_eqGuard_agg w .neq T x y _ _ h.gd, Result.andThen_ok, run_neq_struct, h.run]
 rfl
end
end Go.Lx
/- Orders: of texts, of paths, of permissions. Nothing of a program stands here. -/
namespace Go.Lx
open Go
structure IsCmp {α : Type} (f : α → α → Int) : Prop where
 eq : ∀ a b, f a b = 0 ↔ a = b
 anti : ∀ a b, f b a = -f a b
 tr : ∀ a b c, f a b < 0 → f b c < 0 → f a c < 0
theorem Jp : ∀ (a : Str), Op.bytesLess a a = false
 | [] => rfl
 | c :: r => by simp [Op.bytesLess, Jp r]
theorem bl_trans : ∀ (a b c : Str), Op.bytesLess a b = true → Op.bytesLess b c = true → Op.bytesLess a c = true
 | a, b, [], _, h => by cases b <;> simp [Op.bytesLess] at h
 | [], [], c :: z, h, _ => by simp [Op.bytesLess] at h
 | [], _ :: _, c :: z, _, _ => by simp [Op.bytesLess]
 | a :: x, [], c :: z, h, _ => by simp [Op.bytesLess] at h
 | a :: x, b :: y, c :: z, h1, h2 => by
  simp only [Op.bytesLess, Bool.or_eq_true, decide_eq_true_eq, Bool.and_eq_true, beq_iff_eq] at h1 h2 ⊢
  rcases h1 with h1 | ⟨rfl, h1⟩
  ·rcases h2 with h2 | ⟨rfl, h2⟩
   ·exact .inl (UInt8.lt_trans h1 h2)
   ·exact .inl h1
  ·rcases h2 with h2 | ⟨rfl, h2⟩
   ·exact .inl h2
   ·exact .inr ⟨rfl, bl_trans x y z h1 h2⟩
theorem bl_total : ∀ (a b : Str), Op.bytesLess a b = true ∨ a = b ∨ Op.bytesLess b a = true
 | [], [] => .inr (.inl rfl)
 | [], _ :: _ => .inl rfl
 | _ :: _, [] => .inr (.inr rfl)
 | a :: x, b :: y => by
  simp only [Op.bytesLess, Bool.or_eq_true, decide_eq_true_eq, Bool.and_eq_true, beq_iff_eq, List.cons.injEq]
  rcases Nat.lt_trichotomy a.toNat b.toNat with h | h | h
  ·exact .inl (.inl (UInt8.lt_iff_toNat_lt.2 h))
  ·have hab : a = b := UInt8.toNat_inj.1 h
   subst hab
   rcases bl_total x y with h | rfl | h
   ·exact .inl (.inr ⟨rfl, h⟩)
   ·exact .inr (.inl ⟨rfl, rfl⟩)
   ·exact .inr (.inr (.inr ⟨rfl, h⟩))
  ·exact .inr (.inr (.inl (UInt8.lt_iff_toNat_lt.2 h)))
theorem Yx {a b : Str} (h : Op.bytesLess a b = true) : Op.bytesLess b a = false := by
 cases hb : Op.bytesLess b a with
 | false => rfl
 | true => have := bl_trans _ _ _ h hb; rw [Jp] at this; cases this
theorem Jb (a b : Str) : (cmpS a b = -1 ∧ Op.bytesLess a b = true) ∨ (cmpS a b = 0 ∧ a = b) ∨ (cmpS a b = 1 ∧ Op.bytesLess b a = true) := by
 rcases bl_total a b with h | rfl | h
 ·left; simp [cmpS, h]
 ·right; left; simp [cmpS, Jp]
 ·right; right
  have h2 := Yx h
  have h3 : (a == b) = false := by
   cases hx : (a == b) with
   | false => rfl
   | true =>
    have : a = b := by simpa using hx
    subst this; rw [Jp] at h; cases h
  simp [cmpS, h2, h3, h]
theorem cmpS_is : IsCmp cmpS where
 eq a b := by
  constructor
  ·intro h
   rcases Jb a b with ⟨h1, _⟩ | ⟨_, h2⟩ | ⟨h1, _⟩
   ·omega
   ·exact h2
   ·omega
  ·rintro rfl; simp [cmpS, Jp]
 anti a b := by
  rcases Jb a b with ⟨h1, h⟩ | ⟨h1, rfl⟩ | ⟨h1, h⟩
  ·rcases Jb b a with ⟨_, k⟩ | ⟨_, rfl⟩ | ⟨k1, _⟩
   ·rw [Yx h] at k; cases k
   ·rw [Jp] at h; cases h
   ·omega
  ·omega
  ·rcases Jb b a with ⟨k1, k⟩ | ⟨_, rfl⟩ | ⟨k1, k⟩
   ·omega
   ·rw [Jp] at h; cases h
   ·rw [Yx h] at k; cases k
 tr a b c h1 h2 := by
  rcases Jb a b with ⟨_, h⟩ | ⟨h, _⟩ | ⟨h, _⟩ <;> try omega
  rcases Jb b c with ⟨_, k⟩ | ⟨k, _⟩ | ⟨k, _⟩ <;> try omega
  rcases Jb a c with ⟨m, _⟩ | ⟨_, rfl⟩ | ⟨_, m⟩
  ·omega
  ·rw [Yx h] at k; cases k
  ·have := bl_trans _ _ _ h k
   rw [Yx m] at this; cases this
def lex {α β : Type} (f : α → α → Int) (g : β → β → Int) (x y : α × β) : Int := if f x.1 y.1 != 0 then f x.1 y.1 else g x.2 y.2
theorem lex_is {α β : Type} {f : α → α → Int} {g : β → β → Int} (hf : IsCmp f) (hg : IsCmp g) : IsCmp (lex f g) where
 eq x y := by
  obtain ⟨a, b⟩ := x; obtain ⟨c, d⟩ := y
  simp only [lex, Prod.mk.injEq]
  by_cases h : f a c = 0
  ·simp only [h, bne_self_eq_false, Bool.false_eq_true, if_false]
   rw [hg.eq, ← hf.eq a c]; exact ⟨fun k => ⟨h, k⟩, fun k => k.2⟩
  ·have hb : (f a c != 0) = true := by simp [h]
   rw [if_pos hb]
   exact ⟨fun k => absurd k h, fun k => absurd ((hf.eq a c).2 k.1) h⟩
 anti x y := by
  obtain ⟨a, b⟩ := x; obtain ⟨c, d⟩ := y
  simp only [lex]
  have h1 := hf.anti a c
  by_cases h : f a c = 0
  ·have h2 : f c a = 0 := by omega
   simp only [h, h2, bne_self_eq_false, Bool.false_eq_true, if_false]; exact hg.anti b d
  ·have hb : (f a c != 0) = true := by simp [h]
   have hc : (f c a != 0) = true := by simp; omega
   rw [if_pos hb, if_pos hc]; exact h1
 tr x y z := by
  obtain ⟨a, b⟩ := x; obtain ⟨c, d⟩ := y; obtain ⟨e, k⟩ := z
  simp only [lex]
  intro h1 h2
  by_cases p : f a c = 0
  ·have hac := (hf.eq a c).1 p
   subst hac
   simp only [p, bne_self_eq_false, Bool.false_eq_true, if_false] at h1
   by_cases q : f a e = 0
   ·simp only [q, bne_self_eq_false, Bool.false_eq_true, if_false] at h2 ⊢; exact hg.tr _ _ _ h1 h2
   ·have hb : (f a e != 0) = true := by simp [q]
    rw [if_pos hb] at h2 ⊢; exact h2
  ·have hb : (f a c != 0) = true := by simp [p]
   rw [if_pos hb] at h1
   by_cases q : f c e = 0
   ·have hce := (hf.eq c e).1 q
    subst hce
    rw [if_pos hb]; exact h1
   ·have hb2 : (f c e != 0) = true := by simp [q]
    rw [if_pos hb2] at h2
    have := hf.tr _ _ _ h1 h2
    have hb3 : (f a e != 0) = true := by simp; omega
    rw [if_pos hb3]; exact this
theorem cmpL_is : IsCmp cmpL := by
 have he : ∀ a b, cmpL a b = 0 ↔ a = b := by
  intro a
  induction a with
  | nil => intro b; cases b <;> simp [cmpL]
  | cons x a ih =>
   intro b
   cases b with
   | nil => simp [cmpL]
   | cons y b =>
    simp only [cmpL, List.cons.injEq]
    by_cases h : cmpS x y = 0
    ·simp only [h, bne_self_eq_false, Bool.false_eq_true, if_false]; rw [ih, ← cmpS_is.eq x y]; exact ⟨fun k => ⟨h, k⟩, fun k => k.2⟩
    ·have hb : (cmpS x y != 0) = true := by simp [h]
     rw [if_pos hb]; exact ⟨fun k => absurd k h, fun k => absurd ((cmpS_is.eq x y).2 k.1) h⟩
 have ha : ∀ a b, cmpL b a = -cmpL a b := by
  intro a
  induction a with
  | nil => intro b; cases b <;> simp [cmpL]
  | cons x a ih =>
   intro b
   cases b with
   | nil => simp [cmpL]
   | cons y b =>
    simp only [cmpL]
    have h1 := cmpS_is.anti x y
    by_cases h : cmpS x y = 0
    ·have h2 : cmpS y x = 0 := by omega
     simp only [h, h2, bne_self_eq_false, Bool.false_eq_true, if_false]; exact ih b
    ·have hb : (cmpS x y != 0) = true := by simp [h]
     have hc : (cmpS y x != 0) = true := by simp; omega
     rw [if_pos hb, if_pos hc]; exact h1
 refine ⟨he, ha, ?_⟩
 intro a
 induction a with
 | nil => intro b c h1 h2; cases c with
  | nil => cases b <;> simp [cmpL] at h1 h2
  | cons z c => simp [cmpL]
 | cons x a ih =>
  intro b c h1 h2
  cases b with
  | nil => simp [cmpL] at h1
  | cons y b =>
   cases c with
   | nil => simp [cmpL] at h2
   | cons z c =>
    simp only [cmpL] at h1 h2 ⊢
    by_cases p : cmpS x y = 0
    ·have := (cmpS_is.eq x y).1 p
     subst this
     simp only [p, bne_self_eq_false, Bool.false_eq_true, if_false] at h1
     by_cases q : cmpS x z = 0
     ·simp only [q, bne_self_eq_false, Bool.false_eq_true, if_false] at h2 ⊢; exact ih _ _ h1 h2
     ·have hb : (cmpS x z != 0) = true := by simp [q]
      rw [if_pos hb] at h2 ⊢; exact h2
    ·have hb : (cmpS x y != 0) = true := by simp [p]
     rw [if_pos hb] at h1
     by_cases q : cmpS y z = 0
     ·have := (cmpS_is.eq y z).1 q
      subst this
      rw [if_pos hb]; exact h1
     ·have hb2 : (cmpS y z != 0) = true := by simp [q]
      rw [if_pos hb2] at h2
      have := cmpS_is.tr _ _ _ h1 h2
      have hb3 : (cmpS x z != 0) = true := by simp; omega
      rw [if_pos hb3]; exact this
def cmpB (a b : Bool) : Int := if a == b then 0 else if b then -1 else 1
theorem cmpB_is : IsCmp cmpB := ⟨by decide, by decide, by decide⟩
theorem join_splitS : ∀ (l : Str), Lib.join (splitS l) [47] = l
 | [] => rfl
 | c :: r => by
  have ih := join_splitS r
  have hne := YI r
  by_cases hc : c = 47
  ·subst hc
   simp only [splitS, beq_self_eq_true, if_true]
   cases hs : splitS r with
   | nil => exact absurd hs hne
   | cons a t =>
    rw [hs] at ih
    show [47].intercalate ([] :: a :: t) = _
    rw [List.intercalate_cons_cons]
    show [] ++ [47] ++ Lib.join (a :: t) [47] = _
    rw [ih]; rfl
  ·have hb : (c == 47) = false := by simp [hc]
   simp only [splitS, hb, Bool.false_eq_true, if_false]
   cases hs : splitS r with
   | nil => exact absurd hs hne
   | cons a t =>
    rw [hs] at ih
    cases t with
    | nil =>
     have h1 : Lib.join [a] [47] = a := Lib.join_one a [47]
     rw [h1] at ih
     show Lib.join [c :: a] [47] = _
     rw [Lib.join_one, ih]
    | cons b t =>
     have e1 : Lib.join (a :: b :: t) [47] = a ++ [47] ++ Lib.join (b :: t) [47] := List.intercalate_cons_cons
     have e2 : Lib.join ((c :: a) :: b :: t) [47] = (c :: a) ++ [47] ++ Lib.join (b :: t) [47] := List.intercalate_cons_cons
     show Lib.join ((c :: a) :: b :: t) [47] = _
     rw [e2]; rw [e1] at ih
     rw [List.cons_append, List.cons_append, ih]
theorem join_split {p : Str} {l : List Str} (h : splitP p = some l) : joinP l = p := by
 unfold splitP at h
 split at h
 ·rename_i h1
  simp at h h1
  subst h h1; rfl
 ·split at h
  ·cases h
  ·rename_i h1 h2
   split at h
   ·cases h
   ·split at h
    ·simp only [Option.some.injEq] at h
     subst h
     have h3 : hasPre p [47] = true := by simpa using h2
     simp only [hasPre, Bool.and_eq_true, beq_iff_eq] at h3
     cases p with
     | nil => simp at h3
     | cons c r =>
      have : c = 47 := by simpa using h3.2
      subst this
      show 47 :: Lib.join (splitS r) [47] = _
      rw [join_splitS]
    ·cases h
theorem split_inj {p q : Str} (hp : splitOk p = true) (hq : splitOk q = true) (h : splitL p = splitL q) : p = q := by
 unfold splitOk at hp hq
 obtain ⟨l, hl⟩ := Option.isSome_iff_exists.1 hp
 obtain ⟨m, hm⟩ := Option.isSome_iff_exists.1 hq
 rw [Z0 hl, Z0 hm] at h
 subst h
 rw [← join_split hl, ← join_split hm]
def Vp (x : Perm) : Prop := x.ok ∧ checkS x = 0
theorem Vp.path {x : Perm} (h : Vp x) : splitOk x.path = true := by
 have := h.2
 unfold checkS at this
 cases hn : nmS x.act <;> cases hs : splitOk x.path <;> simp [hn, hs] at this ⊢
theorem IsCmp.map {α β : Type} {f : β → β → Int} (h : IsCmp f) (m : α → β) (hm : ∀ a b, m a = m b → a = b) : IsCmp fun a b => f (m a) (m b) :=
 ⟨fun a b => ⟨fun e => hm a b ((h.eq _ _).1 e), fun e => (h.eq _ _).2 (by rw [e])⟩, fun a b => h.anti _ _, fun a b c => h.tr _ _ _⟩
def keyP (x : Perm) : Str × List Str × Bool := (x.act, splitL x.path, x.deep)
theorem cmpM_lex {x y : Perm} (hx : Vp x) (hy : Vp y) : cmpM x y = lex cmpS (lex cmpL cmpB) (keyP x) (keyP y) := by
 have h1 := hx.path
 have h2 := hy.path
 simp only [cmpM, lex, keyP, cmpP, h1, h2, Bool.not_true, Bool.or_self, Bool.false_eq_true, if_false, Bool.and_self, if_true]
 by_cases hc : cmpS x.act y.act = 0
 ·by_cases h : cmpL (splitL x.path) (splitL y.path) = 0
  ·by_cases hd : x.deep = y.deep
   ·simp [hc, h, hd, cmpB]
   ·simp [hc, h, hd, cmpB]
  ·simp [hc, h]
 ·simp [hc]
theorem keyP_inj {x y : Perm} (hx : Vp x) (hy : Vp y) (h : keyP x = keyP y) : x = y := by
 obtain ⟨a, p, d⟩ := x; obtain ⟨a', p', d'⟩ := y
 simp only [keyP, Prod.mk.injEq] at h
 obtain ⟨rfl, h2, rfl⟩ := h
 have := split_inj hx.path hy.path h2
 simp at this; subst this; rfl
abbrev VP := { x : Perm // Vp x }
theorem cmpV_is : IsCmp fun a b : VP => cmpM a.1 b.1 := by
 have h := (lex_is cmpS_is (lex_is cmpL_is cmpB_is)).map (fun a : VP => keyP a.1) (fun a b e => Subtype.ext (keyP_inj a.2 b.2 e))
 have e : (fun a b : VP => cmpM a.1 b.1) = fun a b : VP => lex cmpS (lex cmpL cmpB) (keyP a.1) (keyP b.1) := by
  funext a b; exact cmpM_lex a.2 b.2
 rw [e]; exact h
instance : Inhabited VP := ⟨⟨⟨[114, 101, 97, 100], [47], false⟩, ⟨by decide, by decide⟩, by decide⟩⟩
end Go.Lx
/- Normal lists: insertion without doubles is sorting and compacting. Nothing of a program stands here. -/
namespace Go.Lx
open Go
def insGo {α : Type} (f : α → α → Int) (p : α) : List α → List α
 | [] => [p]
 | x :: r => if f p x < 0 then p :: x :: r else x :: insGo f p r
def insG {α : Type} [BEq α] (f : α → α → Int) (l : List α) (p : α) : List α := if l.any (fun x => x == p) then l else insGo f p l
def insAll {α : Type} [BEq α] (f : α → α → Int) (l : List α) : List α := l.foldl (insG f) []
section
variable {α : Type} {f : α → α → Int}
theorem IsCmp.irr (h : IsCmp f) (a : α) : f a a = 0 := (h.eq a a).2 rfl
theorem insGo_mem {p x : α} : ∀ {l : List α}, x ∈ insGo f p l ↔ x = p ∨ x ∈ l
 | [] => by simp [insGo]
 | y :: r => by
  unfold insGo
  split
  ·simp
  ·simp only [List.mem_cons, insGo_mem (l := r)]
   constructor
   ·rintro (h | h | h)
    ·exact .inr (.inl h)
    ·exact .inl h
    ·exact .inr (.inr h)
   ·rintro (h | h | h)
    ·exact .inr (.inl h)
    ·exact .inl h
    ·exact .inr (.inr h)
theorem insGo_pw (h : IsCmp f) {p : α} : ∀ {l : List α}, p ∉ l → l.Pairwise (fun x y => f x y < 0) → (insGo f p l).Pairwise (fun x y => f x y < 0)
 | [], _, _ => by simp [insGo]
 | y :: r, hp, hl => by
  unfold insGo
  rw [List.pairwise_cons] at hl
  split
  ·rename_i hlt
   refine List.pairwise_cons.2 ⟨?_, List.pairwise_cons.2 hl⟩
   intro z hz
   rcases List.mem_cons.1 hz with rfl | hz
   ·exact hlt
   ·exact h.tr _ _ _ hlt (hl.1 z hz)
  ·rename_i hlt
   refine List.pairwise_cons.2 ⟨?_, insGo_pw h (fun hm => hp (List.mem_cons_of_mem _ hm)) hl.2⟩
   intro z hz
   rcases insGo_mem.1 hz with rfl | hz
   ·have h1 : z ≠ y := fun e => hp (e ▸ List.mem_cons_self ..)
    have h2 : f z y ≠ 0 := fun e => h1 ((h.eq _ _).1 e)
    have := h.anti z y
    omega
   ·exact hl.1 z hz
variable [BEq α] [LawfulBEq α]
theorem insG_mem {l : List α} {p x : α} : x ∈ insG f l p ↔ x = p ∨ x ∈ l := by
 unfold insG
 split
 ·rename_i h
  obtain ⟨y, hy, he⟩ := List.any_eq_true.1 h
  have := eq_of_beq he
  subst this
  exact ⟨.inr, fun h => h.elim (fun e => e ▸ hy) id⟩
 ·exact insGo_mem
theorem insG_pw (h : IsCmp f) {l : List α} {p : α} (hl : l.Pairwise (fun x y => f x y < 0)) : (insG f l p).Pairwise (fun x y => f x y < 0) := by
 unfold insG
 split
 ·exact hl
 ·rename_i hn
  refine insGo_pw h (fun hm => hn ?_) hl
  rw [List.any_eq_true]; exact ⟨p, hm, by simp⟩
theorem insFold (h : IsCmp f) : ∀ (l acc : List α), acc.Pairwise (fun x y => f x y < 0) → (l.foldl (insG f) acc).Pairwise (fun x y => f x y < 0) ∧ ∀ x, x ∈ l.foldl (insG f) acc ↔ x ∈ acc ∨ x ∈ l
 | [], acc, ha => ⟨ha, by simp⟩
 | p :: r, acc, ha => by
  obtain ⟨h1, h2⟩ := insFold h r (insG f acc p) (insG_pw h ha)
  refine ⟨h1, fun x => ?_⟩
  rw [List.foldl_cons, h2, insG_mem, List.mem_cons]
  constructor
  ·rintro ((h | h) | h)
   ·exact .inr (.inl h)
   ·exact .inl h
   ·exact .inr (.inr h)
  ·rintro (h | h | h)
   ·exact .inl (.inr h)
   ·exact .inl (.inl h)
   ·exact .inr h
theorem insAll_pw (h : IsCmp f) (l : List α) : (insAll f l).Pairwise (fun x y => f x y < 0) := (insFold h l [] List.Pairwise.nil).1
theorem insAll_mem (h : IsCmp f) (l : List α) (x : α) : x ∈ insAll f l ↔ x ∈ l := by
 have := (insFold h l [] List.Pairwise.nil).2 x
 show x ∈ List.foldl (insG f) [] l ↔ _
 simpa using this
omit [BEq α] [LawfulBEq α] in
theorem pw_unique (h : IsCmp f) {a b : List α} (ha : a.Pairwise (fun x y => f x y < 0)) (hb : b.Pairwise (fun x y => f x y < 0)) (hm : ∀ x, x ∈ a ↔ x ∈ b) : a = b := by
 have hne : ∀ {x y : α}, f x y < 0 → x ≠ y := fun hxy e => by subst e; rw [h.irr] at hxy; omega
 have na : a.Nodup := ha.imp hne
 have nb : b.Nodup := hb.imp hne
 have hp : a.Perm b := (List.perm_ext_iff_of_nodup na nb).2 hm
 refine List.Perm.eq_of_pairwise (le := fun x y => f x y < 0) ?_ ha hb hp
 intro x y _ _ h1 h2
 have := h.anti x y
 omega
theorem compStep_mem {acc : List α} {x y : α} : y ∈ compStep acc x ↔ y ∈ acc ∨ y = x := by
 unfold compStep
 split
 ·rename_i h
  have h1 := eq_of_beq h
  have h2 : x ∈ acc := List.mem_of_getLast? h1
  exact ⟨.inl, fun h => h.elim id (fun e => e ▸ h2)⟩
 ·simp
theorem comp_pw (h : IsCmp f) : ∀ (l : List α), l.Pairwise (fun x y => f x y ≤ 0) → (compL l).Pairwise (fun x y => f x y < 0) ∧ ∀ x, x ∈ compL l ↔ x ∈ l := by
 intro l
 induction hn : l.length generalizing l with
 | zero =>
  have : l = [] := List.eq_nil_of_length_eq_zero hn
  subst this
  intro _; exact ⟨List.Pairwise.nil, by simp [compL]⟩
 | succ n ih' =>
  obtain ⟨m, x, rfl⟩ : ∃ m x, l = m ++ [x] := by
   rcases List.eq_nil_or_concat l with rfl | ⟨m, x, h⟩
   ·simp at hn
   ·exact ⟨m, x, by rw [h, List.concat_eq_append]⟩
  have ih := ih' m (by simpa using hn)
  clear ih' hn
  intro hl
  rw [List.pairwise_append] at hl
  obtain ⟨h1, h2⟩ := ih hl.1
  rw [comp_snoc]
  refine ⟨?_, fun y => by rw [compStep_mem, h2]; simp⟩
  unfold compStep
  split
  ·exact h1
  ·rename_i hn
   rw [List.pairwise_append]
   refine ⟨h1, by simp, ?_⟩
   intro y hy z hz
   have : z = x := by simpa using hz
   subst this
   have hle := hl.2.2 y ((h2 y).1 hy) z (by simp)
   rcases Int.lt_or_eq_of_le hle with h3 | h3
   ·exact h3
   ·exfalso
    have e := (h.eq _ _).1 h3
    subst e
    -- y is in the strictly ascending list, and is at least its last element
    apply hn
    obtain ⟨i, hi, hiy⟩ := List.mem_iff_getElem.1 hy
    have hlast : i = (compL m).length - 1 := by
     rcases Nat.lt_or_ge i ((compL m).length - 1) with hlt | hge
     ·exfalso
      have hp := List.pairwise_iff_getElem.1 h1 i ((compL m).length - 1) hi (by omega) hlt
      have hmem : (compL m)[(compL m).length - 1] ∈ m := (h2 _).1 (List.getElem_mem _)
      have := hl.2.2 _ hmem y (by simp)
      rw [hiy] at hp
      have := h.anti y ((compL m)[(compL m).length - 1])
      omega
     ·omega
    subst hlast
    rw [List.getLast?_eq_getElem?, List.getElem?_eq_getElem hi, hiy]
    simp
theorem comp_ins (h : IsCmp f) {l l' : List α} (hp : ∀ x, x ∈ l' ↔ x ∈ l) (hs : l'.Pairwise (fun x y => f x y ≤ 0)) : compL l' = insAll f l := by
 obtain ⟨h1, h2⟩ := comp_pw h l' hs
 refine pw_unique h h1 (insAll_pw h l) fun x => ?_
 rw [h2, insAll_mem h, hp]
end
section
variable {α β : Type} {f : β → β → Int} {m : α → β}
theorem insGo_map (p : α) : ∀ (l : List α), insGo f (m p) (l.map m) = (insGo (fun a b => f (m a) (m b)) p l).map m
 | [] => rfl
 | x :: r => by
  simp only [List.map_cons, insGo]
  split
  ·rfl
  ·rw [insGo_map p r]; rfl
variable [BEq α] [LawfulBEq α] [BEq β] [LawfulBEq β]
theorem beq_map (hm : ∀ a b, m a = m b → a = b) (a b : α) : (m a == m b) = (a == b) := by
 rw [Bool.eq_iff_iff, beq_iff_eq, beq_iff_eq]
 exact ⟨hm a b, fun e => e ▸ rfl⟩
theorem insG_map (hm : ∀ a b, m a = m b → a = b) (l : List α) (p : α) : insG f (l.map m) (m p) = (insG (fun a b => f (m a) (m b)) l p).map m := by
 unfold insG
 have e : (l.map m).any (fun x => x == m p) = l.any (fun x => x == p) := by
  rw [List.any_map]; congr 1; funext x; exact beq_map hm x p
 rw [e, insGo_map]
 split <;> rfl
theorem insFold_map (hm : ∀ a b, m a = m b → a = b) : ∀ (l acc : List α), (l.map m).foldl (insG f) (acc.map m) = (l.foldl (insG fun a b => f (m a) (m b)) acc).map m
 | [], _ => rfl
 | x :: r, acc => by rw [List.map_cons, List.foldl_cons, insG_map hm, insFold_map hm r]; rfl
theorem Vs (hm : ∀ a b, m a = m b → a = b) : ∀ (l acc : List α), (l.map m).foldl compStep (acc.map m) = (l.foldl compStep acc).map m
 | [], _ => rfl
 | x :: r, acc => by
  have e : compStep (acc.map m) (m x) = (compStep acc x).map m := by
   unfold compStep
   rw [List.getLast?_map]
   have : ((acc.getLast?.map m) == some (m x)) = (acc.getLast? == some x) := by
    cases acc.getLast? with
    | none => rfl
    | some y => exact beq_map hm y x
   rw [this]
   split <;> simp
  rw [List.map_cons, List.foldl_cons, e, Vs hm r]; rfl
end
def keepS (l : List Perm) (p : Perm) : Bool := checkS p == 0 && !(l.any fun q => !(q == p) && impliesS q p)
def normS (l : List Perm) : List Perm := insAll cmpM (l.filter (keepS l))
def vpL : (l : List Perm) → (∀ x ∈ l, Vp x) → List VP
 | [], _ => []
 | x :: r, h => ⟨x, h x (by simp)⟩ :: vpL r fun y hy => h y (by simp [hy])
theorem vpL_map : ∀ (l : List Perm) (h : ∀ x ∈ l, Vp x), (vpL l h).map (·.1) = l
 | [], _ => rfl
 | x :: r, h => by rw [vpL, List.map_cons, vpL_map r]
theorem val_inj (a b : VP) (h : a.1 = b.1) : a = b := Subtype.ext h
theorem comp_insP {l l' : List Perm} (hv : ∀ x ∈ l, Vp x) (hp : l'.Perm l) (hs : l'.Pairwise (fun x y => cmpM x y ≤ 0)) : compL l' = insAll cmpM l := by
 have hv' : ∀ x ∈ l', Vp x := fun x hx => hv x (hp.mem_iff.1 hx)
 have h1 := vpL_map l hv
 have h2 := vpL_map l' hv'
 generalize vpL l hv = a at h1
 generalize vpL l' hv' = b at h2
 subst h1 h2
 rw [List.pairwise_map] at hs
 have hm : ∀ (l : List VP) (x : VP), x ∈ l ↔ x.1 ∈ l.map (fun y => y.1) := by
  intro l x
  rw [List.mem_map]
  exact ⟨fun h => ⟨x, h, rfl⟩, fun ⟨y, h, e⟩ => val_inj y x e ▸ h⟩
 have hp' : ∀ x, x ∈ b ↔ x ∈ a := fun x => by rw [hm b, hm a]; exact hp.mem_iff
 have := comp_ins cmpV_is hp' hs
 have e1 := Vs (m := fun x : VP => x.1) val_inj b []
 have e2 := insFold_map (f := cmpM) (m := fun x : VP => x.1) val_inj a []
 exact e1.trans ((congrArg (List.map fun x : VP => x.1) this).trans e2.symm)
theorem keepS_vp {l : List Perm} (hok : ∀ x ∈ l, x.ok) : ∀ x ∈ l.filter (keepS l), Vp x := by
 intro x hx
 rw [List.mem_filter] at hx
 refine ⟨hok x hx.1, ?_⟩
 have h := hx.2
 unfold keepS at h
 rw [Bool.and_eq_true] at h
 exact eq_of_beq h.1
