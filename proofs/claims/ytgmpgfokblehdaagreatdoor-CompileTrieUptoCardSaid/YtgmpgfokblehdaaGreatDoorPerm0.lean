/- Several texts in one file. -/
import Derived.Test.YtgmpgfokblehdaaGreatDoorPure11
set_option linter.unusedSimpArgs false
set_option linter.unusedVariables false
set_option linter.unnecessarySimpa false
/- What the walks ask of this program's types of permissions. -/
namespace Go.Proofs.YtgmpgfokblehdaaGreatDoor
open Go Go.Lx
set_option maxRecDepth 10000
theorem permBeq (x y : Perm) : (x == y) = ((x.act == y.act) && (x.path == y.path) && (x.deep == y.deep)) := by
 obtain ⟨a, b, c⟩ := x
 obtain ⟨a', b', c'⟩ := y
 rw [Bool.eq_iff_iff]
 simp only [Bool.and_eq_true, beq_iff_eq, Perm.mk.injEq, and_assoc]
theorem eq_perm : EqT Tryz.prog 50 encP := ⟨by kernel_rfl, fun w x y => by
 rw [run_equalIn_struct w 9999 _ _ _ (by kernel_rfl) (by kernel_rfl), permBeq, Bool.and_assoc, Program.fieldsOf, Tryz.underlying50]
 have h3 : ((x.deep == y.deep) : Bool) = ((x.deep == y.deep) && true) := (Bool.and_true _).symm
 rw [h3]
 exact ZV (by simp) Tryz.isAgg9 rfl rfl (YL _ _ Tryz.underlying9) (ZV (by simp) Tryz.isAgg9 rfl rfl (YL _ _ Tryz.underlying9) (ZV (by simp) Tryz.isAgg4 rfl rfl (fun w => run_equalIn_bool' w _ _ _ _ Tryz.underlying4) YK)) w⟩
theorem Y4 : ElT Tryz.prog 158 50 3 40 (.agg #[.string ⟨#[]⟩, .string ⟨#[]⟩, .bool false]) := ⟨Tryz.underlying158, ⟨Tryz.t50, by kernel_rfl, rfl, rfl, rfl⟩, rfl, by decide, by decide⟩
end Go.Proofs.YtgmpgfokblehdaaGreatDoor
/- The plain functions of the reference of permissions. Nothing of a program stands here. -/
namespace Go.Lx
open Go
def preH (n : Str) : List Str → List Str
 | [] => [n]
 | h :: t => (n ++ h) :: t
theorem preH_nil (l : Str) : preH [] (splitS l) = splitS l := by
 cases h : splitS l with
 | nil => exact absurd h (YI l)
 | cons a t => rfl
theorem drop_c {p : Str} {k : Nat} (hk : k < p.length) : p.drop k = p.getD k 0 :: p.drop (k + 1) := by
 rw [List.drop_eq_getElem_cons hk, YG hk]
theorem sp_char {p name : Str} {k : Nat} (hk : k < p.length) (hc : (p.getD k 0 == 47) = false) : preH name (splitS (p.drop k)) = preH (name ++ [p.getD k 0]) (splitS (p.drop (k + 1))) := by
 rw [drop_c hk, splitS, if_neg (by rw [hc]; decide)]
 cases h : splitS (p.drop (k + 1)) with
 | nil => exact absurd h (YI _)
 | cons a t => simp [preH]
theorem sp_sep {p name : Str} {k : Nat} (hk : k < p.length) (hc : (p.getD k 0 == 47) = true) : preH name (splitS (p.drop k)) = name :: splitS (p.drop (k + 1)) := by
 rw [drop_c hk, splitS, if_pos hc]
 simp [preH]
theorem sp_end {p name : Str} {k : Nat} (hk : p.length ≤ k) : preH name (splitS (p.drop k)) = [name] := by
 rw [List.drop_of_length_le hk]; simp [splitS, preH]
theorem b_u8 (c d : UInt8) : ((c.toNat : Int) == (d.toNat : Int)) = (c == d) := by
 rw [Bool.eq_iff_iff, beq_iff_eq, beq_iff_eq]
 constructor
 ·intro h; exact UInt8.toNat_inj.1 (by omega)
 ·intro h; rw [h]
theorem b47 (c : UInt8) : ((c.toNat : Int) == 47) = (c == 47) := b_u8 c 47
def SpAt (p : Str) (out : List Str) (name : Str) (k : Nat) : Prop :=
 1 ≤ k ∧ k ≤ p.length + 1 ∧ out.length ≤ k ∧ name.length ≤ k ∧ out.all namedS = true ∧ (if k ≤ p.length then splitS (p.drop 1) = out ++ preH name (splitS (p.drop k)) else splitS (p.drop 1) = out)
theorem SpAt.start {p : Str} (h : 1 ≤ p.length) : SpAt p [] [] 1 := ⟨by omega, by omega, by simp, by simp, rfl, by rw [if_pos h, preH_nil]; rfl⟩
theorem SpAt.char {p name : Str} {out : List Str} {k : Nat} (h : SpAt p out name k) (hk : (decide ((k : Int) < p.length) && !(((p.getD k 0).toNat : Int) == 47)) = true) : k < p.length ∧ SpAt p out (name ++ [p.getD k 0]) (k + 1) := by
 simp only [Bool.and_eq_true, decide_eq_true_eq, b47] at hk
 have hlt : k < p.length := by omega
 obtain ⟨h1, h2, h3, h4, h5, h6⟩ := h
 rw [if_pos (by omega)] at h6
 refine ⟨hlt, by omega, by omega, by omega, by simp; omega, h5, ?_⟩
 rw [if_pos (by omega), h6, sp_char hlt (by simpa using hk.2)]
theorem SpAt.sep {p name : Str} {out : List Str} {k : Nat} (h : SpAt p out name k) (hl : k ≤ p.length) (hk : (decide ((k : Int) < p.length) && !(((p.getD k 0).toNat : Int) == 47)) = false) (hn : namedS name = true) : SpAt p (out ++ [name]) [] (k + 1) := by
 obtain ⟨h1, h2, h3, h4, h5, h6⟩ := h
 rw [if_pos hl] at h6
 refine ⟨by omega, by omega, by simp; omega, by simp, by simp [h5, hn], ?_⟩
 by_cases hlt : k < p.length
 ·rw [if_pos (by omega), h6, sp_sep hlt, preH_nil, List.append_assoc]; rfl
  simp only [b47] at hk
  have : decide ((k : Int) < p.length) = true := by simp; omega
  rw [this] at hk
  simpa using hk
 ·rw [if_neg (by omega), h6, sp_end (by omega)]
theorem SpAt.bad {p name : Str} {out : List Str} {k : Nat} (h : SpAt p out name k) (hr : (p == [47]) = false) (hl : k ≤ p.length) (hk : (decide ((k : Int) < p.length) && !(((p.getD k 0).toNat : Int) == 47)) = false) (hn : namedS name = false) : splitOk p = false := by
 obtain ⟨h1, h2, h3, h4, h5, h6⟩ := h
 rw [if_pos hl] at h6
 have hmem : name ∈ splitS (p.drop 1) := by
  rw [h6]
  by_cases hlt : k < p.length
  ·rw [sp_sep hlt]
   ·simp
   ·simp only [b47] at hk
    have : decide ((k : Int) < p.length) = true := by simp; omega
    rw [this] at hk
    simpa using hk
  ·rw [sp_end (by omega)]; simp
 have hall : (splitS (p.drop 1)).all namedS = false := by
  rw [List.all_eq_false]; exact ⟨name, hmem, by simp [hn]⟩
 unfold splitOk splitP
 rw [if_neg (by simp [hr])]
 split
 ·rfl
 ·split
  ·rfl
  ·rw [hall]; rfl
theorem SpAt.fin {p name : Str} {out : List Str} {k : Nat} (h : SpAt p out name k) (hr : (p == [47]) = false) (hp : hasPre p [47] = true) (hl : ¬ (k : Int) ≤ p.length) : decide ((out.length : Int) ≤ 8) = splitOk p ∧ (splitOk p = true → out = splitL p) := by
 obtain ⟨h1, h2, h3, h4, h5, h6⟩ := h
 rw [if_neg (by omega)] at h6
 by_cases h8 : (8 : Int) < out.length
 ·have e : splitP p = none := by
   rw [splitP, if_neg (by simp [hr]), if_neg (by simp [hp]), h6, if_pos h8]
  rw [Jz e]
  exact ⟨by simp; omega, fun h => by cases h⟩
 ·have e : splitP p = some out := by
   rw [splitP, if_neg (by simp [hr]), if_neg (by simp [hp]), h6, if_neg h8, if_pos h5]
  rw [Jy e, Z0 e]
  exact ⟨by simp; omega, fun _ => rfl⟩
theorem pre_no {p : Str} (h : ((p == []) || !(((p.getD 0 0).toNat : Int) == 47)) = true) : hasPre p [47] = false := by
 rw [b47] at h
 cases p with
 | nil => rfl
 | cons c r =>
  simp at h
  simp [hasPre, h]
theorem pre_yes {p : Str} (h : ((p == []) || !(((p.getD 0 0).toNat : Int) == 47)) = false) : hasPre p [47] = true ∧ 1 ≤ p.length := by
 rw [b47] at h
 cases p with
 | nil => simp at h
 | cons c r =>
  simp at h
  simp [hasPre, h]; omega
theorem one_byte {p : Str} {k : Nat} (h : k < p.length) : (p.take (k + 1)).drop k = [p.getD k 0] := by
 rw [List.take_succ_eq_append_getElem h, YG h, List.drop_append_of_le_length (by rw [List.length_take]; omega), List.drop_of_length_le (by rw [List.length_take]; omega)]
 rfl
theorem joinP_flat : ∀ (l : List Str), l ≠ [] → l.flatMap (fun s => 47 :: s) = joinP l
 | [x], _ => by simp [joinP, Lib.join_one]
 | x :: y :: r, _ => by
  rw [List.flatMap_cons, joinP_flat (y :: r) (by simp)]
  have e1 : Lib.join (x :: y :: r) [47] = x ++ [47] ++ Lib.join (y :: r) [47] := List.intercalate_cons_cons
  simp [joinP, e1]
theorem flat_take {l : List Str} {k : Nat} (h : k < l.length) : (l.take (k + 1)).flatMap (fun s => 47 :: s) = (l.take k).flatMap (fun s => 47 :: s) ++ [47] ++ l[k] := by
 rw [List.take_succ_eq_append_getElem h, List.flatMap_append]; simp
theorem flat_len {l : List Str} (k : Nat) : ((l.take k).flatMap (fun s => 47 :: s)).length ≤ (l.flatMap (fun s => 47 :: s)).length := by
 have h : l.flatMap (fun s => 47 :: s) = (l.take k).flatMap (fun s => 47 :: s) ++ (l.drop k).flatMap (fun s => 47 :: s) := by
  rw [← List.flatMap_append, List.take_append_drop]
 rw [h, List.length_append]; omega
/-! texts -/
/-! what two lists have in common -/
end Go.Lx
/- Paths, more: what is joined is split again; lying within is starting alike; the reference's implication. Nothing of a program stands here. -/
namespace Go.Lx
open Go
theorem splitL_named {p : Str} : (splitL p).all namedS = true := by
 unfold splitL splitP
 split
 ·rfl
 ·split
  ·rfl
  ·split
   ·rfl
   ·split
    ·rename_i h; exact h
    ·rfl
theorem commonS_pre : ∀ (a b : List Str), commonS a b = b.length ↔ b <+: a
 | a, [] => by
  have : commonS a [] = 0 := by cases a <;> rfl
  simp [this]
 | [], y :: b => by simp [commonS]
 | x :: a, y :: b => by
  have ih := commonS_pre a b
  by_cases h : x = y
  ·subst h
   simp only [commonS, beq_self_eq_true, if_true, List.length_cons, Nat.add_right_cancel_iff, ih, List.cons_prefix_cons, true_and]
  ·have hb : (x == y) = false := by rw [beq_eq_false_iff_ne]; exact h
   simp only [commonS, hb, Bool.false_eq_true, if_false, List.length_cons, List.cons_prefix_cons]
   constructor
   ·intro e; omega
   ·intro e; exact absurd e.1.symm h
theorem within_iff {p q : Str} : withinS p q = true ↔ splitOk p = true ∧ splitOk q = true ∧ splitL q <+: splitL p := by
 unfold withinS
 rw [Bool.and_eq_true, Bool.and_eq_true, beq_iff_eq, and_assoc, ← commonS_pre]
 constructor
 ·rintro ⟨h1, h2, h3⟩; exact ⟨h1, h2, by omega⟩
 ·rintro ⟨h1, h2, h3⟩; exact ⟨h1, h2, by omega⟩
/-! the reference's walks -/
def rPart (s : Str) : Bool := !((((s == []) || decide ((12 : Int) < s.length)) || s == [46]) || s == [46, 46]) && s.all nameB
theorem rPart_eq (s : Str) : rPart s = namedS s := by
 unfold rPart namedS
 have : (s == []) = decide ((s.length : Int) < 1) := by
  rw [Bool.eq_iff_iff, beq_iff_eq, decide_eq_true_eq, ← List.length_eq_zero_iff]; omega
 rw [this]
theorem rName (c : UInt8) : (((((decide ((97 : Int) ≤ c.toNat) && decide ((c.toNat : Int) ≤ 122)) || (decide ((48 : Int) ≤ c.toNat) && decide ((c.toNat : Int) ≤ 57))) || (c.toNat : Int) == 95) || (c.toNat : Int) == 46) || (c.toNat : Int) == 45) = nameB c := by
 unfold nameB
 rw [Bool.eq_iff_iff]
 simp
 try omega
theorem Y5 {x : Perm} {a p : Str} (h : coversS x a p = true) : checkS x = 0 ∧ x.act = a ∧ splitOk p = true ∧ (x.path = p ∨ (x.deep = true ∧ withinS p x.path = true)) := by
 unfold coversS at h
 split at h
 ·cases h
 ·rename_i h1
  simp only [Bool.or_eq_true, not_or, Bool.not_eq_true, bne_eq_false_iff_eq, Bool.not_eq_false', beq_iff_eq] at h1
  simp only [Bool.or_eq_true, beq_iff_eq, Bool.and_eq_true] at h
  exact ⟨h1.1.1, h1.1.2, h1.2, h⟩
theorem covers_mk {x : Perm} {a p : Str} (h1 : checkS x = 0) (h2 : x.act = a) (h3 : splitOk p = true) : coversS x a p = (x.path == p || (x.deep && withinS p x.path)) := by
 unfold coversS
 rw [if_neg (by simp [h1, h2, h3])]
theorem check_path {x : Perm} (h : checkS x = 0) : splitOk x.path = true ∧ (x.deep = true → (splitL x.path).length ≤ 7) ∧ nmS x.act = true := by
 unfold checkS at h
 split at h
 ·cases h
 ·split at h
  ·cases h
  ·rename_i h1 h2
   simp only [Bool.or_eq_true, not_or, Bool.not_eq_true, Bool.not_eq_false', Bool.and_eq_false_iff] at h1 h2
   refine ⟨h2.1, fun hd => ?_, h1⟩
   rcases h2.2 with h | h
   ·rw [hd] at h; cases h
   ·have h8 := JK x.path
    rw [depthS, if_pos h2.1] at h
    have : ¬ (((splitL x.path).length : Int) = 8) := by simpa using h
    omega
theorem chk_r {x : Perm} {l : List Str} (h : splitOk x.path = true → l = splitL x.path) : (!splitOk x.path || (x.deep && (depthS x.path == 8))) = (!splitOk x.path || (x.deep && ((l.length : Int) == 8))) := by
 cases hp : splitOk x.path with
 | false => rfl
 | true => rw [h hp, depthS, if_pos hp]
theorem anyD_succ {α : Type} {l : List α} {p : α → Bool} {k : Nat} {z : α} (h : k < l.length) (ha : (l.take k).any p = false) (hp : p (l.getD k z) = false) : (l.take (k + 1)).any p = false := Jd h ha (by simpa [List.getD, h] using hp)
theorem named_len {s : Str} (h : namedS s = true) : s.length ≤ 12 := by
 unfold namedS at h
 simp at h
 have := h.1.1.1.2
 omega
theorem splitL_mem {p s : Str} (h : s ∈ splitL p) : s.length ≤ 12 := named_len (List.all_eq_true.1 splitL_named s h)
theorem cmpM_r1 {x y : Perm} (h : (cmpS x.act y.act != 0) = true) : cmpM x y = cmpS x.act y.act := by rw [cmpM, if_pos h]
def cmpQ (x y : Perm) : Int := if splitOk x.path && splitOk y.path then cmpL (splitL x.path) (splitL y.path) else cmpS x.path y.path
theorem cmpM_q {x y : Perm} (h : (cmpS x.act y.act != 0) = false) : cmpM x y = if cmpQ x y != 0 then cmpQ x y else if x.deep == y.deep then 0 else if y.deep then -1 else 1 := by
 rw [cmpM, if_neg (by rw [h]; simp)]
 have e : (if (!splitOk x.path || !splitOk y.path) = true then cmpS x.path y.path else cmpP x.path y.path) = cmpQ x y := by
  unfold cmpQ cmpP
  cases splitOk x.path <;> cases splitOk y.path <;> simp
 simp only [e]
 by_cases h0 : cmpQ x y = 0
 ·simp [h0]
 ·have : (cmpQ x y != 0) = true := by simp [h0]
  simp [h0]
theorem cmpQ_yes {x y : Perm} (h : (splitOk x.path && splitOk y.path) = true) : cmpQ x y = cmpL (splitL x.path) (splitL y.path) := by rw [cmpQ, if_pos h]
theorem cmpQ_no {x y : Perm} (h : (splitOk x.path && splitOk y.path) = false) : cmpQ x y = cmpS x.path y.path := by rw [cmpQ, if_neg (by rw [h]; simp)]
theorem cmpM_a {x y : Perm} (h : (cmpS x.act y.act != 0) = false) {c : Int} (hc : cmpQ x y = c) (h1 : (c != 0) = true) : cmpM x y = c := by subst hc; rw [cmpM_q h, if_pos h1]
theorem cmpM_b {x y : Perm} (h : (cmpS x.act y.act != 0) = false) {c : Int} (hc : cmpQ x y = c) (h1 : (c != 0) = false) (h2 : (x.deep == y.deep) = true) : cmpM x y = 0 := by subst hc; rw [cmpM_q h, if_neg (by rw [h1]; simp), if_pos h2]
theorem cmpM_c {x y : Perm} (h : (cmpS x.act y.act != 0) = false) {c : Int} (hc : cmpQ x y = c) (h1 : (c != 0) = false) (h2 : (x.deep == y.deep) = false) (h3 : y.deep = true) : cmpM x y = -1 := by subst hc; rw [cmpM_q h, if_neg (by rw [h1]; simp), if_neg (by rw [h2]; simp), if_pos h3]
theorem cmpM_d {x y : Perm} (h : (cmpS x.act y.act != 0) = false) {c : Int} (hc : cmpQ x y = c) (h1 : (c != 0) = false) (h2 : (x.deep == y.deep) = false) (h3 : y.deep = false) : cmpM x y = 1 := by subst hc; rw [cmpM_q h, if_neg (by rw [h1]; simp), if_neg (by rw [h2]; simp), if_neg (by rw [h3]; simp)]
/-! inserting -/
def InsAt (l : List Perm) (p : Perm) (out : List Perm) (done : Bool) (k : Nat) : Prop :=
 k ≤ l.length ∧ out.length = k + (if done then 1 else 0) ∧ (l.take k).any (fun x => x == p) = false ∧ insGo cmpM p l = out ++ (if done then l.drop k else insGo cmpM p (l.drop k))
theorem dropP {l : List Perm} {k : Nat} (h : k < l.length) : l.drop k = l.getD k pz :: l.drop (k + 1) := by
 rw [List.drop_eq_getElem_cons h]; simp [List.getD, h]
theorem InsAt.start (l : List Perm) (p : Perm) : InsAt l p [] false 0 := ⟨Nat.zero_le _, rfl, by simp, by simp⟩
theorem InsAt.here {l : List Perm} {p : Perm} {out : List Perm} {done : Bool} {k : Nat} (h : InsAt l p out done k) (hk : k < l.length) (hn : (l.getD k pz == p) = false) (hc : (!done && decide (cmpM p (l.getD k pz) < 0)) = true) : InsAt l p (out ++ [p] ++ [l.getD k pz]) true (k + 1) := by
 obtain ⟨h1, h2, h3, h4⟩ := h
 simp only [Bool.and_eq_true, Bool.not_eq_true', decide_eq_true_eq] at hc
 obtain ⟨hd, hc⟩ := hc
 subst hd
 refine ⟨by omega, by simp [h2], anyD_succ (z := pz) hk h3 hn, ?_⟩
 rw [h4, if_neg (by simp), if_pos rfl, dropP hk, insGo, if_pos hc]
 simp
theorem InsAt.skip {l : List Perm} {p : Perm} {out : List Perm} {done : Bool} {k : Nat} (h : InsAt l p out done k) (hk : k < l.length) (hn : (l.getD k pz == p) = false) (hc : (!done && decide (cmpM p (l.getD k pz) < 0)) = false) : InsAt l p (out ++ [l.getD k pz]) done (k + 1) := by
 obtain ⟨h1, h2, h3, h4⟩ := h
 refine ⟨by omega, by simp [h2]; omega, anyD_succ (z := pz) hk h3 hn, ?_⟩
 rw [h4, dropP hk]
 cases done with
 | true => simp
 | false =>
  have : ¬ cmpM p (l.getD k pz) < 0 := by simpa using hc
  simp only [Bool.false_eq_true, if_false]
  rw [insGo, if_neg this, List.append_assoc]
  rfl
theorem InsAt.fin {l : List Perm} {p : Perm} {out : List Perm} {done : Bool} {k : Nat} (h : InsAt l p out done k) (hk : l.length ≤ k) : insG cmpM l p = if done then out else out ++ [p] := by
 obtain ⟨h1, h2, h3, h4⟩ := h
 rw [List.take_of_length_le hk] at h3
 rw [insG, if_neg (by rw [h3]; simp), h4, List.drop_of_length_le hk]
 cases done <;> simp [insGo]
def actions : List Str := [[114, 101, 97, 100], [119, 114, 105, 116, 101], [114, 117, 110], [114, 101, 97, 100], [119, 114, 105, 116, 101], [114, 101, 97, 100], [], [98, 121], [82, 101, 97, 100], [97, 95, 118, 101, 114, 121, 95, 108, 111, 110, 103, 95, 97, 99, 116, 105, 111, 110]]
def pieces : List Str := [[97], [98], [99], [97], [98], [100, 46, 49], [120, 45, 121], [97], [95], [46, 46], [46], [], [65], [116, 104, 105, 114, 116, 101, 101, 110, 45, 108, 111, 110, 103]]
def actionS (n : UInt8) : Str := actions.getD (n.toNat % 10) []
def pieceS (c : UInt8) : Str := pieces.getD (c.toNat % 14) []
def pathS (l : List UInt8) : Str := joinP ((l.take 10).map pieceS)
theorem pieceS_len (c : UInt8) : (pieceS c).length ≤ 18 := by
 have h : ∀ i, i < 14 → (pieces.getD i []).length ≤ 18 := by decide
 exact h _ (Nat.mod_lt _ (by decide))
theorem actionS_len (c : UInt8) : (actionS c).length ≤ 18 := by
 have h : ∀ i, i < 10 → (actions.getD i []).length ≤ 18 := by decide
 exact h _ (Nat.mod_lt _ (by decide))
theorem joinP_len : ∀ (l : List Str) (m : Nat), (∀ s ∈ l, s.length ≤ m) → (joinP l).length ≤ 1 + l.length * (m + 1)
 | [], m, _ => by simp [joinP, Lib.join, List.intercalate]
 | [x], m, h => by
  have := h x (by simp)
  simp [joinP, Lib.join_one]; omega
 | x :: y :: r, m, h => by
  have h1 := joinP_len (y :: r) m (fun s hs => h s (by simp [hs]))
  have h2 := h x (by simp)
  have e1 : Lib.join (x :: y :: r) [47] = x ++ [47] ++ Lib.join (y :: r) [47] := List.intercalate_cons_cons
  simp only [joinP, e1, List.length_cons, List.length_append, List.length_nil] at h1 ⊢
  have e2 : (r.length + 1 + 1) * (m + 1) = (r.length + 1) * (m + 1) + (m + 1) := by rw [Nat.add_mul (r.length + 1) 1]; omega
  omega
theorem pathS_len (l : List UInt8) : (pathS l).length ≤ 200 := by
 have h := joinP_len ((l.take 10).map pieceS) 18 (fun s hs => by
  obtain ⟨c, _, rfl⟩ := List.mem_map.1 hs
  exact pieceS_len c)
 have h2 : ((l.take 10).map pieceS).length ≤ 10 := by simp; omega
 have h3 : ((l.take 10).map pieceS).length * 19 ≤ 10 * 19 := Nat.mul_le_mul_right _ h2
 unfold pathS; omega
theorem map_take1 {l : List UInt8} {k : Nat} (h : k < l.length) : (l.take (k + 1)).map pieceS = (l.take k).map pieceS ++ [pieceS (l.getD k 0)] := by
 rw [List.take_succ_eq_append_getElem h, List.map_append, YG h]; rfl
theorem piece_mem {l : List UInt8} {p : Str} (h : p ∈ l.map pieceS) : p.length ≤ 1100000 := by
 obtain ⟨c, _, rfl⟩ := List.mem_map.1 h
 have := pieceS_len c; omega
theorem path_end {l : List UInt8} {k : Nat} (h1 : k ≤ l.length) (h2 : k ≤ 10) (h3 : ¬ (k < l.length ∧ k < 10)) : pathS l = joinP ((l.take k).map pieceS) := by
 unfold pathS
 have : l.take 10 = l.take k := by
  by_cases h : k = 10
  ·subst h; rfl
  ·have : k = l.length := by omega
   subst this
   rw [List.take_length, List.take_of_length_le (by omega)]
 rw [this]
end Go.Lx
/- The plain laws of permissions. Nothing of a program stands here. -/
namespace Go.Lx
open Go
structure RawV where
 act : UInt8
 a : Option Addr
 c : Nat
 names : List UInt8
 deep : Bool
def encR (x : RawV) : List Value := [.int .u8 (x.act.toNat : Int), .slice x.a x.names.length x.c, .bool x.deep]
def rwz : RawV := ⟨0, none, 0, [], false⟩
def RawV.perm (x : RawV) : Perm := ⟨actionS x.act, pathS x.names, x.deep⟩
theorem RawV.ok (x : RawV) : x.perm.ok := ⟨by have := actionS_len x.act; show (actionS x.act).length ≤ _; omega, by have := pathS_len x.names; show (pathS x.names).length ≤ _; omega⟩
/-! the chapter's example -/
/-! covering -/
/-! the laws' conditions, as the code puts them -/
end Go.Lx
/- Permissions, more: the text of a permission is read back. Nothing of a program stands here. -/
namespace Go.Lx
open Go
end Go.Lx
/- Lists of permissions: the normal list covers the same; two normal lists are equal exactly if they imply the same; what is common, what is beyond. Nothing of a program stands here. -/
namespace Go.Lx
open Go
