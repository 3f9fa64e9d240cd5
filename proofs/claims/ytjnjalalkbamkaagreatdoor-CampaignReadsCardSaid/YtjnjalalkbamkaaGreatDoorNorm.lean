/- Several texts in one file. -/
import Derived.Test.YtjnjalalkbamkaaGreatDoorDrawC
set_option linter.unusedSimpArgs false
set_option linter.unusedVariables false
set_option linter.unnecessarySimpa false
/- Normal lists: insertion without doubles is sorting and compacting. Nothing of a program stands here. -/
namespace Go.Lx
open Go
def insGo {α : Type} (f : α → α → Int) (p : α) : List α → List α
 | [] => [p]
 | x :: r => if f p x < 0 then p :: x :: r else x :: insGo f p r
def insG {α : Type} [BEq α] (f : α → α → Int) (l : List α) (p : α) : List α := if l.any (fun x => x == p) then l else insGo f p l
section
variable {α : Type} {f : α → α → Int}
theorem IsCmp.irr (h : IsCmp f) (a : α) : f a a = 0 := (h.eq a a).2 rfl
theorem insGo_mem {p x : α} : ∀ {l : List α}, x ∈ insGo f p l ↔ x = p ∨ x ∈ l
 | [] => by simp [insGo]
 | y :: r => by
  unfold insGo
  split
  ·simp
  ·simp only [List.mem_cons, insGo_mem (l := r)]
   constructor
   ·rintro (h | h | h)
    ·exact .inr (.inl h)
    ·exact .inl h
    ·exact .inr (.inr h)
   ·rintro (h | h | h)
    ·exact .inr (.inl h)
    ·exact .inl h
    ·exact .inr (.inr h)
variable [BEq α] [LawfulBEq α]
omit [BEq α] [LawfulBEq α] in
theorem pw_unique (h : IsCmp f) {a b : List α} (ha : a.Pairwise (fun x y => f x y < 0)) (hb : b.Pairwise (fun x y => f x y < 0)) (hm : ∀ x, x ∈ a ↔ x ∈ b) : a = b := by
 have hne : ∀ {x y : α}, f x y < 0 → x ≠ y := fun hxy e => by subst e; rw [h.irr] at hxy; omega
 have na : a.Nodup := ha.imp hne
 have nb : b.Nodup := hb.imp hne
 have hp : a.Perm b := (List.perm_ext_iff_of_nodup na nb).2 hm
 refine List.Perm.eq_of_pairwise (le := fun x y => f x y < 0) ?_ ha hb hp
 intro x y _ _ h1 h2
 have := h.anti x y
 omega
end
section
variable {α β : Type} {f : β → β → Int} {m : α → β}
variable [BEq α] [LawfulBEq α] [BEq β] [LawfulBEq β]
end
def keepS (l : List Perm) (p : Perm) : Bool := checkS p == 0 && !(l.any fun q => !(q == p) && impliesS q p)
end Go.Lx
/- What the walks ask of this program's types of permissions. -/
namespace Go.Proofs.YtjnjalalkbamkaaGreatDoor
open Go Go.Lx
set_option maxRecDepth 10000
end Go.Proofs.YtjnjalalkbamkaaGreatDoor
/- The plain functions of the reference of permissions. Nothing of a program stands here. -/
namespace Go.Lx
open Go
def preH (n : Str) : List Str → List Str
 | [] => [n]
 | h :: t => (n ++ h) :: t
theorem preH_nil (l : Str) : preH [] (splitS l) = splitS l := by
 cases h : splitS l with
 | nil => exact absurd h (splitS_ne l)
 | cons a t => rfl
theorem drop_c {p : Str} {k : Nat} (hk : k < p.length) : p.drop k = p.getD k 0 :: p.drop (k + 1) := by
 rw [List.drop_eq_getElem_cons hk, getD_of hk]
theorem sp_sep {p name : Str} {k : Nat} (hk : k < p.length) (hc : (p.getD k 0 == 47) = true) : preH name (splitS (p.drop k)) = name :: splitS (p.drop (k + 1)) := by
 rw [drop_c hk, splitS, if_pos hc]
 simp [preH]
theorem sp_end {p name : Str} {k : Nat} (hk : p.length ≤ k) : preH name (splitS (p.drop k)) = [name] := by
 rw [List.drop_of_length_le hk]; simp [splitS, preH]
theorem b_u8 (c d : UInt8) : ((c.toNat : Int) == (d.toNat : Int)) = (c == d) := by
 rw [Bool.eq_iff_iff, beq_iff_eq, beq_iff_eq]
 constructor
 ·intro h; exact UInt8.toNat_inj.1 (by omega)
 ·intro h; rw [h]
theorem b47 (c : UInt8) : ((c.toNat : Int) == 47) = (c == 47) := b_u8 c 47
def SpAt (p : Str) (out : List Str) (name : Str) (k : Nat) : Prop :=
 1 ≤ k ∧ k ≤ p.length + 1 ∧ out.length ≤ k ∧ name.length ≤ k ∧ out.all namedS = true ∧ (if k ≤ p.length then splitS (p.drop 1) = out ++ preH name (splitS (p.drop k)) else splitS (p.drop 1) = out)
theorem SpAt.start {p : Str} (h : 1 ≤ p.length) : SpAt p [] [] 1 := ⟨by omega, by omega, by simp, by simp, rfl, by rw [if_pos h, preH_nil]; rfl⟩
theorem SpAt.bad {p name : Str} {out : List Str} {k : Nat} (h : SpAt p out name k) (hr : (p == [47]) = false) (hl : k ≤ p.length) (hk : (decide ((k : Int) < p.length) && !(((p.getD k 0).toNat : Int) == 47)) = false) (hn : namedS name = false) : splitOk p = false := by
 obtain ⟨h1, h2, h3, h4, h5, h6⟩ := h
 rw [if_pos hl] at h6
 have hmem : name ∈ splitS (p.drop 1) := by
  rw [h6]
  by_cases hlt : k < p.length
  ·rw [sp_sep hlt]
   ·simp
   ·simp only [b47] at hk
    have : decide ((k : Int) < p.length) = true := by simp; omega
    rw [this] at hk
    simpa using hk
  ·rw [sp_end (by omega)]; simp
 have hall : (splitS (p.drop 1)).all namedS = false := by
  rw [List.all_eq_false]; exact ⟨name, hmem, by simp [hn]⟩
 unfold splitOk splitP
 rw [if_neg (by simp [hr])]
 split
 ·rfl
 ·split
  ·rfl
  ·rw [hall]; rfl
theorem SpAt.fin {p name : Str} {out : List Str} {k : Nat} (h : SpAt p out name k) (hr : (p == [47]) = false) (hp : hasPre p [47] = true) (hl : ¬ (k : Int) ≤ p.length) : decide ((out.length : Int) ≤ 8) = splitOk p ∧ (splitOk p = true → out = splitL p) := by
 obtain ⟨h1, h2, h3, h4, h5, h6⟩ := h
 rw [if_neg (by omega)] at h6
 by_cases h8 : (8 : Int) < out.length
 ·have e : splitP p = none := by
   rw [splitP, if_neg (by simp [hr]), if_neg (by simp [hp]), h6, if_pos h8]
  rw [splitOk_none e]
  exact ⟨by simp; omega, fun h => by cases h⟩
 ·have e : splitP p = some out := by
   rw [splitP, if_neg (by simp [hr]), if_neg (by simp [hp]), h6, if_neg h8, if_pos h5]
  rw [splitOk_some e, splitL_some e]
  exact ⟨by simp; omega, fun _ => rfl⟩
/-! texts -/
/-! what two lists have in common -/
end Go.Lx
/- Paths, more: what is joined is split again; lying within is starting alike; the reference's implication. Nothing of a program stands here. -/
namespace Go.Lx
open Go
/-! the reference's walks -/
theorem anyD_succ {α : Type} {l : List α} {p : α → Bool} {k : Nat} {z : α} (h : k < l.length) (ha : (l.take k).any p = false) (hp : p (l.getD k z) = false) : (l.take (k + 1)).any p = false := anyT_succ h ha (by simpa [List.getD, h] using hp)
/-! inserting -/
def InsAt (l : List Perm) (p : Perm) (out : List Perm) (done : Bool) (k : Nat) : Prop :=
 k ≤ l.length ∧ out.length = k + (if done then 1 else 0) ∧ (l.take k).any (fun x => x == p) = false ∧ insGo cmpM p l = out ++ (if done then l.drop k else insGo cmpM p (l.drop k))
theorem dropP {l : List Perm} {k : Nat} (h : k < l.length) : l.drop k = l.getD k pz :: l.drop (k + 1) := by
 rw [List.drop_eq_getElem_cons h]; simp [List.getD, h]
theorem InsAt.start (l : List Perm) (p : Perm) : InsAt l p [] false 0 := ⟨Nat.zero_le _, rfl, by simp, by simp⟩
theorem InsAt.here {l : List Perm} {p : Perm} {out : List Perm} {done : Bool} {k : Nat} (h : InsAt l p out done k) (hk : k < l.length) (hn : (l.getD k pz == p) = false) (hc : (!done && decide (cmpM p (l.getD k pz) < 0)) = true) : InsAt l p (out ++ [p] ++ [l.getD k pz]) true (k + 1) := by
 obtain ⟨h1, h2, h3, h4⟩ := h
 simp only [Bool.and_eq_true, Bool.not_eq_true', decide_eq_true_eq] at hc
 obtain ⟨hd, hc⟩ := hc
 subst hd
 refine ⟨by omega, by simp [h2], anyD_succ (z := pz) hk h3 hn, ?_⟩
 rw [h4, if_neg (by simp), if_pos rfl, dropP hk, insGo, if_pos hc]
 simp
theorem InsAt.skip {l : List Perm} {p : Perm} {out : List Perm} {done : Bool} {k : Nat} (h : InsAt l p out done k) (hk : k < l.length) (hn : (l.getD k pz == p) = false) (hc : (!done && decide (cmpM p (l.getD k pz) < 0)) = false) : InsAt l p (out ++ [l.getD k pz]) done (k + 1) := by
 obtain ⟨h1, h2, h3, h4⟩ := h
 refine ⟨by omega, by simp [h2]; omega, anyD_succ (z := pz) hk h3 hn, ?_⟩
 rw [h4, dropP hk]
 cases done with
 | true => simp
 | false =>
  have : ¬ cmpM p (l.getD k pz) < 0 := by simpa using hc
  simp only [Bool.false_eq_true, if_false]
  rw [insGo, if_neg this, List.append_assoc]
  rfl
theorem InsAt.fin {l : List Perm} {p : Perm} {out : List Perm} {done : Bool} {k : Nat} (h : InsAt l p out done k) (hk : l.length ≤ k) : insG cmpM l p = if done then out else out ++ [p] := by
 obtain ⟨h1, h2, h3, h4⟩ := h
 rw [List.take_of_length_le hk] at h3
 rw [insG, if_neg (by rw [h3]; simp), h4, List.drop_of_length_le hk]
 cases done <;> simp [insGo]
def actions : List Str := [[114, 101, 97, 100], [119, 114, 105, 116, 101], [114, 117, 110], [114, 101, 97, 100], [119, 114, 105, 116, 101], [114, 101, 97, 100], [], [98, 121], [82, 101, 97, 100], [97, 95, 118, 101, 114, 121, 95, 108, 111, 110, 103, 95, 97, 99, 116, 105, 111, 110]]
def pieces : List Str := [[97], [98], [99], [97], [98], [100, 46, 49], [120, 45, 121], [97], [95], [46, 46], [46], [], [65], [116, 104, 105, 114, 116, 101, 101, 110, 45, 108, 111, 110, 103]]
def actionS (n : UInt8) : Str := actions.getD (n.toNat % 10) []
def pieceS (c : UInt8) : Str := pieces.getD (c.toNat % 14) []
def pathS (l : List UInt8) : Str := joinP ((l.take 10).map pieceS)
theorem pieceS_len (c : UInt8) : (pieceS c).length ≤ 18 := by
 have h : ∀ i, i < 14 → (pieces.getD i []).length ≤ 18 := by decide
 exact h _ (Nat.mod_lt _ (by decide))
theorem actionS_len (c : UInt8) : (actionS c).length ≤ 18 := by
 have h : ∀ i, i < 10 → (actions.getD i []).length ≤ 18 := by decide
 exact h _ (Nat.mod_lt _ (by decide))
theorem joinP_len : ∀ (l : List Str) (m : Nat), (∀ s ∈ l, s.length ≤ m) → (joinP l).length ≤ 1 + l.length * (m + 1)
 | [], m, _ => by simp [joinP, Lib.join, List.intercalate]
 | [x], m, h => by
  have := h x (by simp)
  simp [joinP, Lib.join_one]; omega
 | x :: y :: r, m, h => by
  have h1 := joinP_len (y :: r) m (fun s hs => h s (by simp [hs]))
  have h2 := h x (by simp)
  have e1 : Lib.join (x :: y :: r) [47] = x ++ [47] ++ Lib.join (y :: r) [47] := List.intercalate_cons_cons
  simp only [joinP, e1, List.length_cons, List.length_append, List.length_nil] at h1 ⊢
  have e2 : (r.length + 1 + 1) * (m + 1) = (r.length + 1) * (m + 1) + (m + 1) := by rw [Nat.add_mul (r.length + 1) 1]; omega
  omega
theorem pathS_len (l : List UInt8) : (pathS l).length ≤ 200 := by
 have h := joinP_len ((l.take 10).map pieceS) 18 (fun s hs => by
  obtain ⟨c, _, rfl⟩ := List.mem_map.1 hs
  exact pieceS_len c)
 have h2 : ((l.take 10).map pieceS).length ≤ 10 := by simp; omega
 have h3 : ((l.take 10).map pieceS).length * 19 ≤ 10 * 19 := Nat.mul_le_mul_right _ h2
 unfold pathS; omega
end Go.Lx
/- The plain laws of permissions. Nothing of a program stands here. -/
namespace Go.Lx
open Go
structure RawV where
 act : UInt8
 a : Option Addr
 c : Nat
 names : List UInt8
 deep : Bool
def RawV.perm (x : RawV) : Perm := ⟨actionS x.act, pathS x.names, x.deep⟩
theorem RawV.ok (x : RawV) : x.perm.ok := ⟨by have := actionS_len x.act; show (actionS x.act).length ≤ _; omega, by have := pathS_len x.names; show (pathS x.names).length ≤ _; omega⟩
/-! the chapter's example -/
/-! covering -/
/-! the laws' conditions, as the code puts them -/
