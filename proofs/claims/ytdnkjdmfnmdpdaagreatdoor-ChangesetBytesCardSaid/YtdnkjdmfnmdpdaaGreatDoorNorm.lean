/- Several texts in one file. -/
import Derived.Test.YtdnkjdmfnmdpdaaGreatDoorPure11
set_option linter.unusedSimpArgs false
set_option linter.unusedVariables false
set_option linter.unnecessarySimpa false
/- Normal lists: insertion without doubles is sorting and compacting. Nothing of a program stands here. -/
namespace Go.Lx
open Go
def insGo {α : Type} (f : α → α → Int) (p : α) : List α → List α
 | [] => [p]
 | x :: r => if f p x < 0 then p :: x :: r else x :: insGo f p r
def insG {α : Type} [BEq α] (f : α → α → Int) (l : List α) (p : α) : List α := if l.any (fun x => x == p) then l else insGo f p l
def insAll {α : Type} [BEq α] (f : α → α → Int) (l : List α) : List α := l.foldl (insG f) []
section
variable {α : Type} {f : α → α → Int}
theorem IsCmp.irr (h : IsCmp f) (a : α) : f a a = 0 := (h.eq a a).2 rfl
theorem insGo_mem {p x : α} : ∀ {l : List α}, x ∈ insGo f p l ↔ x = p ∨ x ∈ l
 | [] => by simp [insGo]
 | y :: r => by
  unfold insGo
  split
  ·simp
  ·simp only [List.mem_cons, insGo_mem (l := r)]
   constructor
   ·rintro (h | h | h)
    ·exact .inr (.inl h)
    ·exact .inl h
    ·exact .inr (.inr h)
   ·rintro (h | h | h)
    ·exact .inr (.inl h)
    ·exact .inl h
    ·exact .inr (.inr h)
theorem insGo_pw (h : IsCmp f) {p : α} : ∀ {l : List α}, p ∉ l → l.Pairwise (fun x y => f x y < 0) → (insGo f p l).Pairwise (fun x y => f x y < 0)
 | [], _, _ => by simp [insGo]
 | y :: r, hp, hl => by
  unfold insGo
  rw [List.pairwise_cons] at hl
  split
  ·rename_i hlt
   refine List.pairwise_cons.2 ⟨?_, List.pairwise_cons.2 hl⟩
   intro z hz
   rcases List.mem_cons.1 hz with rfl | hz
   ·exact hlt
   ·exact h.tr _ _ _ hlt (hl.1 z hz)
  ·rename_i hlt
   refine List.pairwise_cons.2 ⟨?_, insGo_pw h (fun hm => hp (List.mem_cons_of_mem _ hm)) hl.2⟩
   intro z hz
   rcases insGo_mem.1 hz with rfl | hz
   ·have h1 : z ≠ y := fun e => hp (e ▸ List.mem_cons_self ..)
    have h2 : f z y ≠ 0 := fun e => h1 ((h.eq _ _).1 e)
    have := h.anti z y
    omega
   ·exact hl.1 z hz
variable [BEq α] [LawfulBEq α]
theorem insG_mem {l : List α} {p x : α} : x ∈ insG f l p ↔ x = p ∨ x ∈ l := by
 unfold insG
 split
 ·rename_i h
  obtain ⟨y, hy, he⟩ := List.any_eq_true.1 h
  have := eq_of_beq he
  subst this
  exact ⟨.inr, fun h => h.elim (fun e => e ▸ hy) id⟩
 ·exact insGo_mem
theorem insG_pw (h : IsCmp f) {l : List α} {p : α} (hl : l.Pairwise (fun x y => f x y < 0)) : (insG f l p).Pairwise (fun x y => f x y < 0) := by
 unfold insG
 split
 ·exact hl
 ·rename_i hn
  refine insGo_pw h (fun hm => hn ?_) hl
  rw [List.any_eq_true]; exact ⟨p, hm, by simp⟩
theorem insFold (h : IsCmp f) : ∀ (l acc : List α), acc.Pairwise (fun x y => f x y < 0) → (l.foldl (insG f) acc).Pairwise (fun x y => f x y < 0) ∧ ∀ x, x ∈ l.foldl (insG f) acc ↔ x ∈ acc ∨ x ∈ l
 | [], acc, ha => ⟨ha, by simp⟩
 | p :: r, acc, ha => by
  obtain ⟨h1, h2⟩ := insFold h r (insG f acc p) (insG_pw h ha)
  refine ⟨h1, fun x => ?_⟩
  rw [List.foldl_cons, h2, insG_mem, List.mem_cons]
  constructor
  ·rintro ((h | h) | h)
   ·exact .inr (.inl h)
   ·exact .inl h
   ·exact .inr (.inr h)
  ·rintro (h | h | h)
   ·exact .inl (.inr h)
   ·exact .inl (.inl h)
   ·exact .inr h
theorem insAll_pw (h : IsCmp f) (l : List α) : (insAll f l).Pairwise (fun x y => f x y < 0) := (insFold h l [] List.Pairwise.nil).1
theorem insAll_mem (h : IsCmp f) (l : List α) (x : α) : x ∈ insAll f l ↔ x ∈ l := by
 have := (insFold h l [] List.Pairwise.nil).2 x
 show x ∈ List.foldl (insG f) [] l ↔ _
 simpa using this
omit [BEq α] [LawfulBEq α] in
theorem pw_unique (h : IsCmp f) {a b : List α} (ha : a.Pairwise (fun x y => f x y < 0)) (hb : b.Pairwise (fun x y => f x y < 0)) (hm : ∀ x, x ∈ a ↔ x ∈ b) : a = b := by
 have hne : ∀ {x y : α}, f x y < 0 → x ≠ y := fun hxy e => by subst e; rw [h.irr] at hxy; omega
 have na : a.Nodup := ha.imp hne
 have nb : b.Nodup := hb.imp hne
 have hp : a.Perm b := (List.perm_ext_iff_of_nodup na nb).2 hm
 refine List.Perm.eq_of_pairwise (le := fun x y => f x y < 0) ?_ ha hb hp
 intro x y _ _ h1 h2
 have := h.anti x y
 omega
theorem compStep_mem {acc : List α} {x y : α} : y ∈ compStep acc x ↔ y ∈ acc ∨ y = x := by
 unfold compStep
 split
 ·rename_i h
  have h1 := eq_of_beq h
  have h2 : x ∈ acc := List.mem_of_getLast? h1
  exact ⟨.inl, fun h => h.elim id (fun e => e ▸ h2)⟩
 ·simp
theorem comp_pw (h : IsCmp f) : ∀ (l : List α), l.Pairwise (fun x y => f x y ≤ 0) → (compL l).Pairwise (fun x y => f x y < 0) ∧ ∀ x, x ∈ compL l ↔ x ∈ l := by
 intro l
 induction hn : l.length generalizing l with
 | zero =>
  have : l = [] := List.eq_nil_of_length_eq_zero hn
  subst this
  intro _; exact ⟨List.Pairwise.nil, by simp [compL]⟩
 | succ n ih' =>
  obtain ⟨m, x, rfl⟩ : ∃ m x, l = m ++ [x] := by
   rcases List.eq_nil_or_concat l with rfl | ⟨m, x, h⟩
   ·simp at hn
   ·exact ⟨m, x, by rw [h, List.concat_eq_append]⟩
  have ih := ih' m (by simpa using hn)
  clear ih' hn
  intro hl
  rw [List.pairwise_append] at hl
  obtain ⟨h1, h2⟩ := ih hl.1
  rw [comp_snoc]
  refine ⟨?_, fun y => by rw [compStep_mem, h2]; simp⟩
  unfold compStep
  split
  ·exact h1
  ·rename_i hn
   rw [List.pairwise_append]
   refine ⟨h1, by simp, ?_⟩
   intro y hy z hz
   have : z = x := by simpa using hz
   subst this
   have hle := hl.2.2 y ((h2 y).1 hy) z (by simp)
   rcases Int.lt_or_eq_of_le hle with h3 | h3
   ·exact h3
   ·exfalso
    have e := (h.eq _ _).1 h3
    subst e
    -- y is in the strictly ascending list, and is at least its last element
    apply hn
    obtain ⟨i, hi, hiy⟩ := List.mem_iff_getElem.1 hy
    have hlast : i = (compL m).length - 1 := by
     rcases Nat.lt_or_ge i ((compL m).length - 1) with hlt | hge
     ·exfalso
      have hp := List.pairwise_iff_getElem.1 h1 i ((compL m).length - 1) hi (by omega) hlt
      have hmem : (compL m)[(compL m).length - 1] ∈ m := (h2 _).1 (List.getElem_mem _)
      have := hl.2.2 _ hmem y (by simp)
      rw [hiy] at hp
      have := h.anti y ((compL m)[(compL m).length - 1])
      omega
     ·omega
    subst hlast
    rw [List.getLast?_eq_getElem?, List.getElem?_eq_getElem hi, hiy]
    simp
theorem comp_ins (h : IsCmp f) {l l' : List α} (hp : ∀ x, x ∈ l' ↔ x ∈ l) (hs : l'.Pairwise (fun x y => f x y ≤ 0)) : compL l' = insAll f l := by
 obtain ⟨h1, h2⟩ := comp_pw h l' hs
 refine pw_unique h h1 (insAll_pw h l) fun x => ?_
 rw [h2, insAll_mem h, hp]
end
section
variable {α β : Type} {f : β → β → Int} {m : α → β}
theorem insGo_map (p : α) : ∀ (l : List α), insGo f (m p) (l.map m) = (insGo (fun a b => f (m a) (m b)) p l).map m
 | [] => rfl
 | x :: r => by
  simp only [List.map_cons, insGo]
  split
  ·rfl
  ·rw [insGo_map p r]; rfl
variable [BEq α] [LawfulBEq α] [BEq β] [LawfulBEq β]
theorem beq_map (hm : ∀ a b, m a = m b → a = b) (a b : α) : (m a == m b) = (a == b) := by
 rw [Bool.eq_iff_iff, beq_iff_eq, beq_iff_eq]
 exact ⟨hm a b, fun e => e ▸ rfl⟩
theorem insG_map (hm : ∀ a b, m a = m b → a = b) (l : List α) (p : α) : insG f (l.map m) (m p) = (insG (fun a b => f (m a) (m b)) l p).map m := by
 unfold insG
 have e : (l.map m).any (fun x => x == m p) = l.any (fun x => x == p) := by
  rw [List.any_map]; congr 1; funext x; exact beq_map hm x p
 rw [e, insGo_map]
 split <;> rfl
theorem insFold_map (hm : ∀ a b, m a = m b → a = b) : ∀ (l acc : List α), (l.map m).foldl (insG f) (acc.map m) = (l.foldl (insG fun a b => f (m a) (m b)) acc).map m
 | [], _ => rfl
 | x :: r, acc => by rw [List.map_cons, List.foldl_cons, insG_map hm, insFold_map hm r]; rfl
theorem compFold_map (hm : ∀ a b, m a = m b → a = b) : ∀ (l acc : List α), (l.map m).foldl compStep (acc.map m) = (l.foldl compStep acc).map m
 | [], _ => rfl
 | x :: r, acc => by
  have e : compStep (acc.map m) (m x) = (compStep acc x).map m := by
   unfold compStep
   rw [List.getLast?_map]
   have : ((acc.getLast?.map m) == some (m x)) = (acc.getLast? == some x) := by
    cases acc.getLast? with
    | none => rfl
    | some y => exact beq_map hm y x
   rw [this]
   split <;> simp
  rw [List.map_cons, List.foldl_cons, e, compFold_map hm r]; rfl
end
def keepS (l : List Perm) (p : Perm) : Bool := checkS p == 0 && !(l.any fun q => !(q == p) && impliesS q p)
end Go.Lx
/- What the walks ask of this program's types of permissions. -/
namespace Go.Proofs.YtdnkjdmfnmdpdaaGreatDoor
open Go Go.Lx
set_option maxRecDepth 10000
theorem permBeq (x y : Perm) : (x == y) = ((x.act == y.act) && (x.path == y.path) && (x.deep == y.deep)) := by
 obtain ⟨a, b, c⟩ := x
 obtain ⟨a', b', c'⟩ := y
 rw [Bool.eq_iff_iff]
 simp only [Bool.and_eq_true, beq_iff_eq, Perm.mk.injEq, and_assoc]
end Go.Proofs.YtdnkjdmfnmdpdaaGreatDoor
/- The plain functions of the reference of permissions. Nothing of a program stands here. -/
namespace Go.Lx
open Go
def preH (n : Str) : List Str → List Str
 | [] => [n]
 | h :: t => (n ++ h) :: t
theorem preH_nil (l : Str) : preH [] (splitS l) = splitS l := by
 cases h : splitS l with
 | nil => exact absurd h (splitS_ne l)
 | cons a t => rfl
theorem drop_c {p : Str} {k : Nat} (hk : k < p.length) : p.drop k = p.getD k 0 :: p.drop (k + 1) := by
 rw [List.drop_eq_getElem_cons hk, getD_of hk]
theorem sp_char {p name : Str} {k : Nat} (hk : k < p.length) (hc : (p.getD k 0 == 47) = false) : preH name (splitS (p.drop k)) = preH (name ++ [p.getD k 0]) (splitS (p.drop (k + 1))) := by
 rw [drop_c hk, splitS, if_neg (by rw [hc]; decide)]
 cases h : splitS (p.drop (k + 1)) with
 | nil => exact absurd h (splitS_ne _)
 | cons a t => simp [preH]
theorem sp_sep {p name : Str} {k : Nat} (hk : k < p.length) (hc : (p.getD k 0 == 47) = true) : preH name (splitS (p.drop k)) = name :: splitS (p.drop (k + 1)) := by
 rw [drop_c hk, splitS, if_pos hc]
 simp [preH]
theorem sp_end {p name : Str} {k : Nat} (hk : p.length ≤ k) : preH name (splitS (p.drop k)) = [name] := by
 rw [List.drop_of_length_le hk]; simp [splitS, preH]
theorem b_u8 (c d : UInt8) : ((c.toNat : Int) == (d.toNat : Int)) = (c == d) := by
 rw [Bool.eq_iff_iff, beq_iff_eq, beq_iff_eq]
 constructor
 ·intro h; exact UInt8.toNat_inj.1 (by omega)
 ·intro h; rw [h]
theorem b47 (c : UInt8) : ((c.toNat : Int) == 47) = (c == 47) := b_u8 c 47
def SpAt (p : Str) (out : List Str) (name : Str) (k : Nat) : Prop :=
 1 ≤ k ∧ k ≤ p.length + 1 ∧ out.length ≤ k ∧ name.length ≤ k ∧ out.all namedS = true ∧ (if k ≤ p.length then splitS (p.drop 1) = out ++ preH name (splitS (p.drop k)) else splitS (p.drop 1) = out)
theorem SpAt.start {p : Str} (h : 1 ≤ p.length) : SpAt p [] [] 1 := ⟨by omega, by omega, by simp, by simp, rfl, by rw [if_pos h, preH_nil]; rfl⟩
theorem SpAt.char {p name : Str} {out : List Str} {k : Nat} (h : SpAt p out name k) (hk : (decide ((k : Int) < p.length) && !(((p.getD k 0).toNat : Int) == 47)) = true) : k < p.length ∧ SpAt p out (name ++ [p.getD k 0]) (k + 1) := by
 simp only [Bool.and_eq_true, decide_eq_true_eq, b47] at hk
 have hlt : k < p.length := by omega
 obtain ⟨h1, h2, h3, h4, h5, h6⟩ := h
 rw [if_pos (by omega)] at h6
 refine ⟨hlt, by omega, by omega, by omega, by simp; omega, h5, ?_⟩
 rw [if_pos (by omega), h6, sp_char hlt (by simpa using hk.2)]
theorem SpAt.sep {p name : Str} {out : List Str} {k : Nat} (h : SpAt p out name k) (hl : k ≤ p.length) (hk : (decide ((k : Int) < p.length) && !(((p.getD k 0).toNat : Int) == 47)) = false) (hn : namedS name = true) : SpAt p (out ++ [name]) [] (k + 1) := by
 obtain ⟨h1, h2, h3, h4, h5, h6⟩ := h
 rw [if_pos hl] at h6
 refine ⟨by omega, by omega, by simp; omega, by simp, by simp [h5, hn], ?_⟩
 by_cases hlt : k < p.length
 ·rw [if_pos (by omega), h6, sp_sep hlt, preH_nil, List.append_assoc]; rfl
  simp only [b47] at hk
  have : decide ((k : Int) < p.length) = true := by simp; omega
  rw [this] at hk
  simpa using hk
 ·rw [if_neg (by omega), h6, sp_end (by omega)]
theorem SpAt.bad {p name : Str} {out : List Str} {k : Nat} (h : SpAt p out name k) (hr : (p == [47]) = false) (hl : k ≤ p.length) (hk : (decide ((k : Int) < p.length) && !(((p.getD k 0).toNat : Int) == 47)) = false) (hn : namedS name = false) : splitOk p = false := by
 obtain ⟨h1, h2, h3, h4, h5, h6⟩ := h
 rw [if_pos hl] at h6
 have hmem : name ∈ splitS (p.drop 1) := by
  rw [h6]
  by_cases hlt : k < p.length
  ·rw [sp_sep hlt]
   ·simp
   ·simp only [b47] at hk
    have : decide ((k : Int) < p.length) = true := by simp; omega
    rw [this] at hk
    simpa using hk
  ·rw [sp_end (by omega)]; simp
 have hall : (splitS (p.drop 1)).all namedS = false := by
  rw [List.all_eq_false]; exact ⟨name, hmem, by simp [hn]⟩
 unfold splitOk splitP
 rw [if_neg (by simp [hr])]
 split
 ·rfl
 ·split
  ·rfl
  ·rw [hall]; rfl
theorem SpAt.fin {p name : Str} {out : List Str} {k : Nat} (h : SpAt p out name k) (hr : (p == [47]) = false) (hp : hasPre p [47] = true) (hl : ¬ (k : Int) ≤ p.length) : decide ((out.length : Int) ≤ 8) = splitOk p ∧ (splitOk p = true → out = splitL p) := by
 obtain ⟨h1, h2, h3, h4, h5, h6⟩ := h
 rw [if_neg (by omega)] at h6
 by_cases h8 : (8 : Int) < out.length
 ·have e : splitP p = none := by
   rw [splitP, if_neg (by simp [hr]), if_neg (by simp [hp]), h6, if_pos h8]
  rw [splitOk_none e]
  exact ⟨by simp; omega, fun h => by cases h⟩
 ·have e : splitP p = some out := by
   rw [splitP, if_neg (by simp [hr]), if_neg (by simp [hp]), h6, if_neg h8, if_pos h5]
  rw [splitOk_some e, splitL_some e]
  exact ⟨by simp; omega, fun _ => rfl⟩
theorem pre_no {p : Str} (h : ((p == []) || !(((p.getD 0 0).toNat : Int) == 47)) = true) : hasPre p [47] = false := by
 rw [b47] at h
 cases p with
 | nil => rfl
 | cons c r =>
  simp at h
  simp [hasPre, h]
theorem pre_yes {p : Str} (h : ((p == []) || !(((p.getD 0 0).toNat : Int) == 47)) = false) : hasPre p [47] = true ∧ 1 ≤ p.length := by
 rw [b47] at h
 cases p with
 | nil => simp at h
 | cons c r =>
  simp at h
  simp [hasPre, h]; omega
theorem one_byte {p : Str} {k : Nat} (h : k < p.length) : (p.take (k + 1)).drop k = [p.getD k 0] := by
 rw [List.take_succ_eq_append_getElem h, getD_of h, List.drop_append_of_le_length (by rw [List.length_take]; omega), List.drop_of_length_le (by rw [List.length_take]; omega)]
 rfl
/-! texts -/
def textS (x : Perm) : Str := if checkS x != 0 then [] else if !x.deep then x.act ++ [32] ++ x.path else if x.path == [47] then x.act ++ [32] ++ x.path ++ [42] else x.act ++ [32] ++ x.path ++ [47, 42]
/-! what two lists have in common -/
end Go.Lx
/- Paths, more: what is joined is split again; lying within is starting alike; the reference's implication. Nothing of a program stands here. -/
namespace Go.Lx
open Go
theorem splitL_named {p : Str} : (splitL p).all namedS = true := by
 unfold splitL splitP
 split
 ·rfl
 ·split
  ·rfl
  ·split
   ·rfl
   ·split
    ·rename_i h; exact h
    ·rfl
/-! the reference's walks -/
def rPart (s : Str) : Bool := !((((s == []) || decide ((12 : Int) < s.length)) || s == [46]) || s == [46, 46]) && s.all nameB
theorem rPart_eq (s : Str) : rPart s = namedS s := by
 unfold rPart namedS
 have : (s == []) = decide ((s.length : Int) < 1) := by
  rw [Bool.eq_iff_iff, beq_iff_eq, decide_eq_true_eq, ← List.length_eq_zero_iff]; omega
 rw [this]
theorem rName (c : UInt8) : (((((decide ((97 : Int) ≤ c.toNat) && decide ((c.toNat : Int) ≤ 122)) || (decide ((48 : Int) ≤ c.toNat) && decide ((c.toNat : Int) ≤ 57))) || (c.toNat : Int) == 95) || (c.toNat : Int) == 46) || (c.toNat : Int) == 45) = nameB c := by
 unfold nameB
 rw [Bool.eq_iff_iff]
 simp
 try omega
theorem chk_r {x : Perm} {l : List Str} (h : splitOk x.path = true → l = splitL x.path) : (!splitOk x.path || (x.deep && (depthS x.path == 8))) = (!splitOk x.path || (x.deep && ((l.length : Int) == 8))) := by
 cases hp : splitOk x.path with
 | false => rfl
 | true => rw [h hp, depthS, if_pos hp]
theorem anyD_succ {α : Type} {l : List α} {p : α → Bool} {k : Nat} {z : α} (h : k < l.length) (ha : (l.take k).any p = false) (hp : p (l.getD k z) = false) : (l.take (k + 1)).any p = false := anyT_succ h ha (by simpa [List.getD, h] using hp)
theorem named_len {s : Str} (h : namedS s = true) : s.length ≤ 12 := by
 unfold namedS at h
 simp at h
 have := h.1.1.1.2
 omega
theorem splitL_mem {p s : Str} (h : s ∈ splitL p) : s.length ≤ 12 := named_len (List.all_eq_true.1 splitL_named s h)
theorem cmpM_r1 {x y : Perm} (h : (cmpS x.act y.act != 0) = true) : cmpM x y = cmpS x.act y.act := by rw [cmpM, if_pos h]
def cmpQ (x y : Perm) : Int := if splitOk x.path && splitOk y.path then cmpL (splitL x.path) (splitL y.path) else cmpS x.path y.path
theorem cmpM_q {x y : Perm} (h : (cmpS x.act y.act != 0) = false) : cmpM x y = if cmpQ x y != 0 then cmpQ x y else if x.deep == y.deep then 0 else if y.deep then -1 else 1 := by
 rw [cmpM, if_neg (by rw [h]; simp)]
 have e : (if (!splitOk x.path || !splitOk y.path) = true then cmpS x.path y.path else cmpP x.path y.path) = cmpQ x y := by
  unfold cmpQ cmpP
  cases splitOk x.path <;> cases splitOk y.path <;> simp
 simp only [e]
 by_cases h0 : cmpQ x y = 0
 ·simp [h0]
 ·have : (cmpQ x y != 0) = true := by simp [h0]
  simp [h0]
theorem cmpQ_yes {x y : Perm} (h : (splitOk x.path && splitOk y.path) = true) : cmpQ x y = cmpL (splitL x.path) (splitL y.path) := by rw [cmpQ, if_pos h]
theorem cmpQ_no {x y : Perm} (h : (splitOk x.path && splitOk y.path) = false) : cmpQ x y = cmpS x.path y.path := by rw [cmpQ, if_neg (by rw [h]; simp)]
theorem cmpM_a {x y : Perm} (h : (cmpS x.act y.act != 0) = false) {c : Int} (hc : cmpQ x y = c) (h1 : (c != 0) = true) : cmpM x y = c := by subst hc; rw [cmpM_q h, if_pos h1]
theorem cmpM_b {x y : Perm} (h : (cmpS x.act y.act != 0) = false) {c : Int} (hc : cmpQ x y = c) (h1 : (c != 0) = false) (h2 : (x.deep == y.deep) = true) : cmpM x y = 0 := by subst hc; rw [cmpM_q h, if_neg (by rw [h1]; simp), if_pos h2]
theorem cmpM_c {x y : Perm} (h : (cmpS x.act y.act != 0) = false) {c : Int} (hc : cmpQ x y = c) (h1 : (c != 0) = false) (h2 : (x.deep == y.deep) = false) (h3 : y.deep = true) : cmpM x y = -1 := by subst hc; rw [cmpM_q h, if_neg (by rw [h1]; simp), if_neg (by rw [h2]; simp), if_pos h3]
theorem cmpM_d {x y : Perm} (h : (cmpS x.act y.act != 0) = false) {c : Int} (hc : cmpQ x y = c) (h1 : (c != 0) = false) (h2 : (x.deep == y.deep) = false) (h3 : y.deep = false) : cmpM x y = 1 := by subst hc; rw [cmpM_q h, if_neg (by rw [h1]; simp), if_neg (by rw [h2]; simp), if_neg (by rw [h3]; simp)]
/-! inserting -/
def InsAt (l : List Perm) (p : Perm) (out : List Perm) (done : Bool) (k : Nat) : Prop :=
 k ≤ l.length ∧ out.length = k + (if done then 1 else 0) ∧ (l.take k).any (fun x => x == p) = false ∧ insGo cmpM p l = out ++ (if done then l.drop k else insGo cmpM p (l.drop k))
theorem dropP {l : List Perm} {k : Nat} (h : k < l.length) : l.drop k = l.getD k pz :: l.drop (k + 1) := by
 rw [List.drop_eq_getElem_cons h]; simp [List.getD, h]
theorem InsAt.start (l : List Perm) (p : Perm) : InsAt l p [] false 0 := ⟨Nat.zero_le _, rfl, by simp, by simp⟩
theorem InsAt.here {l : List Perm} {p : Perm} {out : List Perm} {done : Bool} {k : Nat} (h : InsAt l p out done k) (hk : k < l.length) (hn : (l.getD k pz == p) = false) (hc : (!done && decide (cmpM p (l.getD k pz) < 0)) = true) : InsAt l p (out ++ [p] ++ [l.getD k pz]) true (k + 1) := by
 obtain ⟨h1, h2, h3, h4⟩ := h
 simp only [Bool.and_eq_true, Bool.not_eq_true', decide_eq_true_eq] at hc
 obtain ⟨hd, hc⟩ := hc
 subst hd
 refine ⟨by omega, by simp [h2], anyD_succ (z := pz) hk h3 hn, ?_⟩
 rw [h4, if_neg (by simp), if_pos rfl, dropP hk, insGo, if_pos hc]
 simp
theorem InsAt.skip {l : List Perm} {p : Perm} {out : List Perm} {done : Bool} {k : Nat} (h : InsAt l p out done k) (hk : k < l.length) (hn : (l.getD k pz == p) = false) (hc : (!done && decide (cmpM p (l.getD k pz) < 0)) = false) : InsAt l p (out ++ [l.getD k pz]) done (k + 1) := by
 obtain ⟨h1, h2, h3, h4⟩ := h
 refine ⟨by omega, by simp [h2]; omega, anyD_succ (z := pz) hk h3 hn, ?_⟩
 rw [h4, dropP hk]
 cases done with
 | true => simp
 | false =>
  have : ¬ cmpM p (l.getD k pz) < 0 := by simpa using hc
  simp only [Bool.false_eq_true, if_false]
  rw [insGo, if_neg this, List.append_assoc]
  rfl
theorem InsAt.fin {l : List Perm} {p : Perm} {out : List Perm} {done : Bool} {k : Nat} (h : InsAt l p out done k) (hk : l.length ≤ k) : insG cmpM l p = if done then out else out ++ [p] := by
 obtain ⟨h1, h2, h3, h4⟩ := h
 rw [List.take_of_length_le hk] at h3
 rw [insG, if_neg (by rw [h3]; simp), h4, List.drop_of_length_le hk]
 cases done <;> simp [insGo]
theorem text_r (x : Perm) : textS x = if checkS x != 0 then [] else if x.deep && (x.path == [47]) then x.act ++ [32] ++ x.path ++ [42] else if x.deep then x.act ++ [32] ++ x.path ++ [47, 42] else x.act ++ [32] ++ x.path := by
 unfold textS
 cases x.deep <;> cases (x.path == [47]) <;> rfl
def actions : List Str := [[114, 101, 97, 100], [119, 114, 105, 116, 101], [114, 117, 110], [114, 101, 97, 100], [119, 114, 105, 116, 101], [114, 101, 97, 100], [], [98, 121], [82, 101, 97, 100], [97, 95, 118, 101, 114, 121, 95, 108, 111, 110, 103, 95, 97, 99, 116, 105, 111, 110]]
def pieces : List Str := [[97], [98], [99], [97], [98], [100, 46, 49], [120, 45, 121], [97], [95], [46, 46], [46], [], [65], [116, 104, 105, 114, 116, 101, 101, 110, 45, 108, 111, 110, 103]]
def actionS (n : UInt8) : Str := actions.getD (n.toNat % 10) []
def pieceS (c : UInt8) : Str := pieces.getD (c.toNat % 14) []
def pathS (l : List UInt8) : Str := joinP ((l.take 10).map pieceS)
theorem pieceS_len (c : UInt8) : (pieceS c).length ≤ 18 := by
 have h : ∀ i, i < 14 → (pieces.getD i []).length ≤ 18 := by decide
 exact h _ (Nat.mod_lt _ (by decide))
theorem actionS_len (c : UInt8) : (actionS c).length ≤ 18 := by
 have h : ∀ i, i < 10 → (actions.getD i []).length ≤ 18 := by decide
 exact h _ (Nat.mod_lt _ (by decide))
theorem joinP_len : ∀ (l : List Str) (m : Nat), (∀ s ∈ l, s.length ≤ m) → (joinP l).length ≤ 1 + l.length * (m + 1)
 | [], m, _ => by simp [joinP, Lib.join, List.intercalate]
 | [x], m, h => by
  have := h x (by simp)
  simp [joinP, Lib.join_one]; omega
 | x :: y :: r, m, h => by
  have h1 := joinP_len (y :: r) m (fun s hs => h s (by simp [hs]))
  have h2 := h x (by simp)
  have e1 : Lib.join (x :: y :: r) [47] = x ++ [47] ++ Lib.join (y :: r) [47] := List.intercalate_cons_cons
  simp only [joinP, e1, List.length_cons, List.length_append, List.length_nil] at h1 ⊢
  have e2 : (r.length + 1 + 1) * (m + 1) = (r.length + 1) * (m + 1) + (m + 1) := by rw [Nat.add_mul (r.length + 1) 1]; omega
  omega
theorem pathS_len (l : List UInt8) : (pathS l).length ≤ 200 := by
 have h := joinP_len ((l.take 10).map pieceS) 18 (fun s hs => by
  obtain ⟨c, _, rfl⟩ := List.mem_map.1 hs
  exact pieceS_len c)
 have h2 : ((l.take 10).map pieceS).length ≤ 10 := by simp; omega
 have h3 : ((l.take 10).map pieceS).length * 19 ≤ 10 * 19 := Nat.mul_le_mul_right _ h2
 unfold pathS; omega
end Go.Lx
/- The plain laws of permissions. Nothing of a program stands here. -/
namespace Go.Lx
open Go
structure RawV where
 act : UInt8
 a : Option Addr
 c : Nat
 names : List UInt8
 deep : Bool
def RawV.perm (x : RawV) : Perm := ⟨actionS x.act, pathS x.names, x.deep⟩
theorem RawV.ok (x : RawV) : x.perm.ok := ⟨by have := actionS_len x.act; show (actionS x.act).length ≤ _; omega, by have := pathS_len x.names; show (pathS x.names).length ≤ _; omega⟩
/-! the chapter's example -/
/-! covering -/
/-! the laws' conditions, as the code puts them -/
end Go.Lx
/- Permissions, more: the text of a permission is read back. Nothing of a program stands here. -/
namespace Go.Lx
open Go
theorem textS_len (x : Perm) : (textS x).length ≤ x.act.length + x.path.length + 3 := by
 unfold textS
 split
 ·simp
 ·split
  ·simp; omega
  ·split <;> (simp; try omega)
