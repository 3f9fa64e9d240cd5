/- The plain functions of the reference of permissions. Nothing of a program stands here. -/
import Derived.Test.YtnhbdlllkmnpfaaDoorNorm
namespace Go.Lx
open Go
set_option linter.unusedSimpArgs false
set_option linter.unusedVariables false
set_option linter.unnecessarySimpa false
def preH (n : Str) : List Str → List Str
  | [] => [n]
  | h :: t => (n ++ h) :: t
theorem preH_nil (l : Str) : preH [] (splitS l) = splitS l := by
  cases h : splitS l with
  | nil => exact absurd h (splitS_ne l)
  | cons a t => rfl
theorem drop_c {p : Str} {k : Nat} (hk : k < p.length) : p.drop k = p.getD k 0 :: p.drop (k + 1) := by
  rw [List.drop_eq_getElem_cons hk, getD_of hk]
theorem sp_char {p name : Str} {k : Nat} (hk : k < p.length) (hc : (p.getD k 0 == 47) = false) : preH name (splitS (p.drop k)) = preH (name ++ [p.getD k 0]) (splitS (p.drop (k + 1))) := by
  rw [drop_c hk, splitS, if_neg (by rw [hc]; decide)]
  cases h : splitS (p.drop (k + 1)) with
  | nil => exact absurd h (splitS_ne _)
  | cons a t => simp [preH]
theorem sp_sep {p name : Str} {k : Nat} (hk : k < p.length) (hc : (p.getD k 0 == 47) = true) : preH name (splitS (p.drop k)) = name :: splitS (p.drop (k + 1)) := by
  rw [drop_c hk, splitS, if_pos hc]
  simp [preH]
theorem sp_end {p name : Str} {k : Nat} (hk : p.length ≤ k) : preH name (splitS (p.drop k)) = [name] := by
  rw [List.drop_of_length_le hk]; simp [splitS, preH]
theorem b_u8 (c d : UInt8) : ((c.toNat : Int) == (d.toNat : Int)) = (c == d) := by
  rw [Bool.eq_iff_iff, beq_iff_eq, beq_iff_eq]
  constructor
  · intro h; exact UInt8.toNat_inj.1 (by omega)
  · intro h; rw [h]
theorem b47 (c : UInt8) : ((c.toNat : Int) == 47) = (c == 47) := b_u8 c 47
/-- What the reference's split has read ahead of byte k: whole names, and the beginning of one. -/
def SpAt (p : Str) (out : List Str) (name : Str) (k : Nat) : Prop :=
  1 ≤ k ∧ k ≤ p.length + 1 ∧ out.length ≤ k ∧ name.length ≤ k ∧ out.all namedS = true ∧ (if k ≤ p.length then splitS (p.drop 1) = out ++ preH name (splitS (p.drop k)) else splitS (p.drop 1) = out)
theorem SpAt.start {p : Str} (h : 1 ≤ p.length) : SpAt p [] [] 1 := ⟨by omega, by omega, by simp, by simp, rfl, by rw [if_pos h, preH_nil]; rfl⟩
theorem SpAt.char {p name : Str} {out : List Str} {k : Nat} (h : SpAt p out name k) (hk : (decide ((k : Int) < p.length) && !(((p.getD k 0).toNat : Int) == 47)) = true) : k < p.length ∧ SpAt p out (name ++ [p.getD k 0]) (k + 1) := by
  simp only [Bool.and_eq_true, decide_eq_true_eq, b47] at hk
  have hlt : k < p.length := by omega
  obtain ⟨h1, h2, h3, h4, h5, h6⟩ := h
  rw [if_pos (by omega)] at h6
  refine ⟨hlt, by omega, by omega, by omega, by simp; omega, h5, ?_⟩
  rw [if_pos (by omega), h6, sp_char hlt (by simpa using hk.2)]
theorem SpAt.sep {p name : Str} {out : List Str} {k : Nat} (h : SpAt p out name k) (hl : k ≤ p.length) (hk : (decide ((k : Int) < p.length) && !(((p.getD k 0).toNat : Int) == 47)) = false) (hn : namedS name = true) : SpAt p (out ++ [name]) [] (k + 1) := by
  obtain ⟨h1, h2, h3, h4, h5, h6⟩ := h
  rw [if_pos hl] at h6
  refine ⟨by omega, by omega, by simp; omega, by simp, by simp [h5, hn], ?_⟩
  by_cases hlt : k < p.length
  · rw [if_pos (by omega), h6, sp_sep hlt, preH_nil, List.append_assoc]; rfl
    simp only [b47] at hk
    have : decide ((k : Int) < p.length) = true := by simp; omega
    rw [this] at hk
    simpa using hk
  · rw [if_neg (by omega), h6, sp_end (by omega)]
theorem SpAt.bad {p name : Str} {out : List Str} {k : Nat} (h : SpAt p out name k) (hr : (p == [47]) = false) (hl : k ≤ p.length) (hk : (decide ((k : Int) < p.length) && !(((p.getD k 0).toNat : Int) == 47)) = false) (hn : namedS name = false) : splitOk p = false := by
  obtain ⟨h1, h2, h3, h4, h5, h6⟩ := h
  rw [if_pos hl] at h6
  have hmem : name ∈ splitS (p.drop 1) := by
    rw [h6]
    by_cases hlt : k < p.length
    · rw [sp_sep hlt]
      · simp
      · simp only [b47] at hk
        have : decide ((k : Int) < p.length) = true := by simp; omega
        rw [this] at hk
        simpa using hk
    · rw [sp_end (by omega)]; simp
  have hall : (splitS (p.drop 1)).all namedS = false := by
    rw [List.all_eq_false]; exact ⟨name, hmem, by simp [hn]⟩
  unfold splitOk splitP
  rw [if_neg (by simp [hr])]
  split
  · rfl
  · split
    · rfl
    · rw [hall]; rfl
theorem SpAt.fin {p name : Str} {out : List Str} {k : Nat} (h : SpAt p out name k) (hr : (p == [47]) = false) (hp : hasPre p [47] = true) (hl : ¬ (k : Int) ≤ p.length) : decide ((out.length : Int) ≤ 8) = splitOk p ∧ (splitOk p = true → out = splitL p) := by
  obtain ⟨h1, h2, h3, h4, h5, h6⟩ := h
  rw [if_neg (by omega)] at h6
  by_cases h8 : (8 : Int) < out.length
  · have e : splitP p = none := by
      rw [splitP, if_neg (by simp [hr]), if_neg (by simp [hp]), h6, if_pos h8]
    rw [splitOk_none e]
    exact ⟨by simp; omega, fun h => by cases h⟩
  · have e : splitP p = some out := by
      rw [splitP, if_neg (by simp [hr]), if_neg (by simp [hp]), h6, if_neg h8, if_pos h5]
    rw [splitOk_some e, splitL_some e]
    exact ⟨by simp; omega, fun _ => rfl⟩
theorem pre_no {p : Str} (h : ((p == []) || !(((p.getD 0 0).toNat : Int) == 47)) = true) : hasPre p [47] = false := by
  rw [b47] at h
  cases p with
  | nil => rfl
  | cons c r =>
    simp at h
    simp [hasPre, h]
theorem pre_yes {p : Str} (h : ((p == []) || !(((p.getD 0 0).toNat : Int) == 47)) = false) : hasPre p [47] = true ∧ 1 ≤ p.length := by
  rw [b47] at h
  cases p with
  | nil => simp at h
  | cons c r =>
    simp at h
    simp [hasPre, h]; omega
theorem one_byte {p : Str} {k : Nat} (h : k < p.length) : (p.take (k + 1)).drop k = [p.getD k 0] := by
  rw [List.take_succ_eq_append_getElem h, getD_of h, List.drop_append_of_le_length (by rw [List.length_take]; omega), List.drop_of_length_le (by rw [List.length_take]; omega)]
  rfl
theorem joinP_flat : ∀ (l : List Str), l ≠ [] → l.flatMap (fun s => 47 :: s) = joinP l
  | [x], _ => by simp [joinP, Lib.join_one]
  | x :: y :: r, _ => by
    rw [List.flatMap_cons, joinP_flat (y :: r) (by simp)]
    have e1 : Lib.join (x :: y :: r) [47] = x ++ [47] ++ Lib.join (y :: r) [47] := List.intercalate_cons_cons
    simp [joinP, e1]
theorem flat_take {l : List Str} {k : Nat} (h : k < l.length) : (l.take (k + 1)).flatMap (fun s => 47 :: s) = (l.take k).flatMap (fun s => 47 :: s) ++ [47] ++ l[k] := by
  rw [List.take_succ_eq_append_getElem h, List.flatMap_append]; simp
theorem flat_len {l : List Str} (k : Nat) : ((l.take k).flatMap (fun s => 47 :: s)).length ≤ (l.flatMap (fun s => 47 :: s)).length := by
  have h : l.flatMap (fun s => 47 :: s) = (l.take k).flatMap (fun s => 47 :: s) ++ (l.drop k).flatMap (fun s => 47 :: s) := by
    rw [← List.flatMap_append, List.take_append_drop]
  rw [h, List.length_append]; omega
/-! texts -/
def hasSuf (s p : Str) : Bool := decide ((p.length : Int) ≤ s.length) && (s.drop (s.length - p.length) == p)
theorem hasSuf_le {s p : Str} (h : hasSuf s p = true) : p.length ≤ s.length := by
  simp only [hasSuf, Bool.and_eq_true, decide_eq_true_eq] at h
  have := h.1; omega
def cutSuf (s p : Str) : Str := if hasSuf s p then s.take (s.length - p.length) else s
def cutS (c : UInt8) (s : Str) : Str × Str × Bool := if Lib.indexByte s c < 0 then (s, [], false) else (s.take (Lib.indexByte s c).toNat, s.drop ((Lib.indexByte s c).toNat + 1), true)
theorem ib_ge : ∀ (s : Str) (c : UInt8), Lib.indexByte s c = -1 ∨ 0 ≤ Lib.indexByte s c
  | [], c => .inl rfl
  | d :: r, c => by
    unfold Lib.indexByte
    split
    · right; omega
    · rcases ib_ge r c with h | h
      · left; rw [h]; rfl
      · right
        rw [if_neg (by simp; omega)]
        omega
theorem ib_pos : ∀ {s : Str} {c : UInt8}, 0 ≤ Lib.indexByte s c → ∃ m : Nat, Lib.indexByte s c = m ∧ m < s.length
  | [], c, h => by simp [Lib.indexByte] at h
  | d :: r, c, h => by
    unfold Lib.indexByte at h ⊢
    by_cases hc : (d == c) = true
    · rw [if_pos hc]; exact ⟨0, rfl, by simp⟩
    · rw [if_neg hc] at h ⊢
      rcases ib_ge r c with h1 | h1
      · rw [h1] at h; simp at h
      · obtain ⟨m, e, hm⟩ := ib_pos h1
        rw [if_neg (by simp; omega), e]
        exact ⟨m + 1, by simp, by simp; omega⟩
def textS (x : Perm) : Str := if checkS x != 0 then [] else if !x.deep then x.act ++ [32] ++ x.path else if x.path == [47] then x.act ++ [32] ++ x.path ++ [42] else x.act ++ [32] ++ x.path ++ [47, 42]
def parse0 (s : Str) : Perm := if hasSuf (cutS 32 s).2.1 [47, 42] then ⟨(cutS 32 s).1, if cutSuf (cutS 32 s).2.1 [47, 42] == [] then [47] else cutSuf (cutS 32 s).2.1 [47, 42], true⟩ else ⟨(cutS 32 s).1, (cutS 32 s).2.1, false⟩
def parseBad (s : Str) : Bool := textS (parse0 s) == [] || !(textS (parse0 s) == s)
def parseS (s : Str) : Perm × Int := if parseBad s then (pz, 6) else (parse0 s, 0)
theorem parseS_bad {s : Str} (h : (textS (parse0 s) == [] || !(textS (parse0 s) == s)) = true) : parseS s = (pz, 6) := by unfold parseS parseBad; rw [if_pos h]
theorem parseS_good {s : Str} (h : (textS (parse0 s) == [] || !(textS (parse0 s) == s)) = false) : parseS s = (parse0 s, 0) := by unfold parseS parseBad; rw [if_neg (by rw [h]; simp)]
theorem cutS_len (c : UInt8) (s : Str) : (cutS c s).1.length ≤ s.length ∧ (cutS c s).2.1.length ≤ s.length := by
  unfold cutS
  split
  · simp
  · simp; omega
theorem cutSuf_len (s p : Str) : (cutSuf s p).length ≤ s.length := by
  unfold cutSuf
  split
  · simp
  · simp
theorem parse0_ok {s : Str} (h : s.length ≤ 1000000) : (parse0 s).ok := by
  have h1 := cutS_len 32 s
  have h2 := cutSuf_len (cutS 32 s).2.1 [47, 42]
  unfold parse0 Perm.ok
  split
  · refine ⟨by show (cutS 32 s).1.length ≤ _; omega, ?_⟩
    show (if _ then _ else _ : Str).length ≤ _
    split
    · simp
    · omega
  · exact ⟨by show (cutS 32 s).1.length ≤ _; omega, by show (cutS 32 s).2.1.length ≤ _; omega⟩
/-! what two lists have in common -/
def comStep (p q : Perm) : List Perm := if impliesS p q then [q] else if impliesS q p then [p] else []
def comL (x y : List Perm) : List Perm := x.flatMap fun p => y.flatMap (comStep p)
theorem comStep_len (p q : Perm) : (comStep p q).length ≤ 1 := by
  unfold comStep
  split
  · simp
  · split <;> simp
theorem comIn_len (p : Perm) : ∀ (y : List Perm), (y.flatMap (comStep p)).length ≤ y.length
  | [] => by simp
  | q :: r => by
    have h1 := comStep_len p q
    have h2 := comIn_len p r
    rw [List.flatMap_cons, List.length_append, List.length_cons]; omega
theorem comL_len (y : List Perm) : ∀ (x : List Perm), (comL x y).length ≤ x.length * y.length
  | [] => by simp [comL]
  | p :: r => by
    have h1 := comIn_len p y
    have h2 := comL_len y r
    have e : comL (p :: r) y = y.flatMap (comStep p) ++ comL r y := by simp [comL]
    rw [e, List.length_append, List.length_cons, Nat.add_mul]; omega
theorem comL_room {x y : List Perm} {k : Nat} (hk : k ≤ x.length) (hx : x.length ≤ 1000) (hy : y.length ≤ 1000) : (comL (x.take k) y).length ≤ 1000000 := by
  have h1 := comL_len y (x.take k)
  have h2 : (x.take k).length * y.length ≤ 1000 * 1000 := Nat.mul_le_mul (by rw [List.length_take]; omega) hy
  omega
theorem comL_succ {x y : List Perm} {k : Nat} (h : k < x.length) : comL (x.take (k + 1)) y = comL (x.take k) y ++ y.flatMap (comStep (x.getD k pz)) := by
  unfold comL
  rw [List.take_succ_eq_append_getElem h, List.flatMap_append]
  simp [List.getD, h]
theorem comIn_succ {p : Perm} {y : List Perm} {j : Nat} (h : j < y.length) : (y.take (j + 1)).flatMap (comStep p) = (y.take j).flatMap (comStep p) ++ comStep p (y.getD j pz) := by
  rw [List.take_succ_eq_append_getElem h, List.flatMap_append]
  simp [List.getD, h]
theorem comL_ok {x y : List Perm} (hx : ∀ p ∈ x, p.ok) (hy : ∀ p ∈ y, p.ok) : ∀ p ∈ comL x y, p.ok := by
  intro p hp
  simp only [comL, List.mem_flatMap] at hp
  obtain ⟨a, ha, b, hb, h⟩ := hp
  unfold comStep at h
  split at h
  · simp at h; subst h; exact hy _ hb
  · split at h
    · simp at h; subst h; exact hx _ ha
    · simp at h
end Go.Lx
