/- The order of an acyclic relation: what the lists hold while elements are taken one after the other. No program in sight. -/
import Derived.Test.YtncmjgmlnnenhaaDoorPr
namespace Go.Lx
open Go
set_option linter.unusedSimpArgs false
set_option linter.unusedVariables false
set_option linter.unnecessarySimpa false
/-- 64 values. -/
def lof {α : Type} (f : Nat → α) : List α := (List.range 64).map f
theorem lof_len {α : Type} (f : Nat → α) : (lof f).length = 64 := by simp [lof]
theorem lof_get {α : Type} (f : Nat → α) {i : Nat} (h : i < 64) : (lof f)[i]? = some (f i) := by simp [lof, h]
theorem lof_getD {α : Type} (f : Nat → α) {i : Nat} (z : α) (h : i < 64) : (lof f).getD i z = f i := by simp [List.getD, lof_get f h]
theorem lof_congr {α : Type} {f g : Nat → α} (h : ∀ i, i < 64 → f i = g i) : lof f = lof g := by
  unfold lof
  apply List.map_congr_left
  intro i hi
  exact h i (by simpa using hi)
theorem lof_set {α : Type} (f : Nat → α) (i : Nat) (v : α) : (lof f).set i v = lof fun j => if j = i then v else f j := by
  apply List.ext_getElem?
  intro j
  by_cases hj : j < 64
  · rw [lof_get _ hj, List.getElem?_set]
    by_cases e : i = j
    · subst e; simp [lof_len, hj]
    · rw [if_neg e, lof_get _ hj, if_neg (fun h => e h.symm)]
  · rw [List.getElem?_eq_none (by simp [lof_len]; omega), List.getElem?_eq_none (by simp [lof_len]; omega)]
theorem rep_lof {α : Type} (x : α) : List.replicate 64 x = lof fun _ => x := by
  apply List.ext_getElem?
  intro j
  by_cases hj : j < 64
  · rw [lof_get _ hj, List.getElem?_replicate, if_pos hj]
  · rw [List.getElem?_eq_none (by simp; omega), List.getElem?_eq_none (by simp [lof_len]; omega)]
theorem nodup_le {α : Type} [BEq α] [LawfulBEq α] : ∀ {l m : List α}, l.Nodup → (∀ x ∈ l, x ∈ m) → l.length ≤ m.length
  | [], m, _, _ => Nat.zero_le _
  | x :: l, m, h, hs => by
    obtain ⟨h1, h2⟩ := List.nodup_cons.1 h
    have hx := hs x (by simp)
    have := nodup_le (m := m.erase x) h2 (fun y hy => (List.mem_erase_of_ne (fun e : y = x => h1 (by rw [← e]; exact hy))).2 (hs y (by simp [hy])))
    rw [List.length_erase_of_mem hx] at this
    have := List.length_pos_of_mem hx
    simp; omega
theorem countP_split {α : Type} {p q r : α → Bool} : ∀ {l : List α}, (∀ x ∈ l, p x = (q x || r x) ∧ (q x && r x) = false) → l.countP p = l.countP q + l.countP r
  | [], _ => rfl
  | x :: l, h => by
    have ih := countP_split (l := l) (fun y hy => h y (by simp [hy]))
    obtain ⟨h1, h2⟩ := h x (by simp)
    simp only [List.countP_cons, ih, h1]
    cases hq : q x <;> cases hr : r x <;> simp_all <;> omega
/-- How many pairs lead to i. -/
def cIn (l : List Pr) (i : Nat) : Nat := l.countP fun x => x.2.val == i
/-- How many of them from what is not listed. -/
def cOut (l : List Pr) (srt : List (Fin 64)) (i : Nat) : Nat := l.countP fun x => x.2.val == i && !srt.contains x.1
/-- How many of them from k. -/
def cFrom (l : List Pr) (k : Fin 64) (i : Nat) : Nat := l.countP fun x => x.2.val == i && (x.1 == k)
theorem takeS {l : List Pr} {k : Nat} (h : k < l.length) : l.take (k + 1) = l.take k ++ [l.getD k pz0] := by
  rw [List.take_add_one, List.getElem?_eq_getElem h]
  simp [List.getD, List.getElem?_eq_getElem h]
theorem cIn_zero (i : Nat) (l : List Pr) : cIn (l.take 0) i = 0 := rfl
theorem cIn_succ {l : List Pr} {k : Nat} (h : k < l.length) (i : Nat) : cIn (l.take (k + 1)) i = if i = (l.getD k pz0).2.val then cIn (l.take k) i + 1 else cIn (l.take k) i := by
  rw [takeS h, cIn, List.countP_append, ← cIn]
  generalize l.getD k pz0 = y
  by_cases e : i = y.2.val
  · rw [if_pos e]; simp [List.countP_cons, e]
  · rw [if_neg e]
    have : (y.2.val == i) = false := by simpa using fun h => e h.symm
    simp [List.countP_cons, this]
theorem cIn_set {l : List Pr} {k : Nat} (h : k < l.length) : (lof fun i => (cIn (l.take k) i : Int)).set (l.getD k pz0).2.val ((cIn (l.take k) (l.getD k pz0).2.val : Int) + 1) = lof fun i => (cIn (l.take (k + 1)) i : Int) := by
  rw [lof_set]
  apply lof_congr
  intro i _
  rw [cIn_succ h]
  by_cases e : i = (l.getD k pz0).2.val
  · rw [if_pos e, if_pos e, e]; rfl
  · rw [if_neg e, if_neg e]
theorem cFrom_succ {l : List Pr} {k : Nat} (h : k < l.length) (kk : Fin 64) (i : Nat) : cFrom (l.take (k + 1)) kk i = if (l.getD k pz0).1 = kk ∧ i = (l.getD k pz0).2.val then cFrom (l.take k) kk i + 1 else cFrom (l.take k) kk i := by
  rw [takeS h, cFrom, List.countP_append, ← cFrom]
  generalize l.getD k pz0 = y
  by_cases e : y.1 = kk ∧ i = y.2.val
  · rw [if_pos e]; simp [List.countP_cons, e.1, e.2]
  · rw [if_neg e]
    have : (y.2.val == i && (y.1 == kk)) = false := by
      cases h1 : (y.2.val == i && (y.1 == kk)) with
      | false => rfl
      | true =>
        simp at h1
        exact absurd ⟨h1.2, h1.1.symm⟩ e
    simp only [List.countP_cons, List.countP_nil, this]; simp
theorem c_le (l : List Pr) (p : Pr → Bool) : l.countP p ≤ l.length := List.countP_le_length
/-- What is still to come, once srt has been listed. -/
def lfA (ps : List Pr) (srt : List (Fin 64)) (i : Nat) : Int := if srt.any (fun j => j.val == i) then -1 else (cOut ps srt i : Int)
/-- While the pairs from kk are being struck: k of them have been looked at. -/
def lfB (ps : List Pr) (srt : List (Fin 64)) (kk : Fin 64) (k : Nat) (i : Nat) : Int := if (srt ++ [kk]).any (fun j => j.val == i) then -1 else (cOut ps srt i : Int) - (cFrom (ps.take k) kk i : Int)
structure Topo (ps : List Pr) (srt : List (Fin 64)) : Prop where
  nd : srt.Nodup
  up : ∀ i b, srt[i]? = some b → ∀ x ∈ ps, x.2 = b → ∃ j : Nat, j < i ∧ srt[j]? = some x.1
theorem Topo.nil (ps : List Pr) : Topo ps [] := ⟨List.nodup_nil, fun i b h => by simp at h⟩
theorem lfA_start (ps : List Pr) : (lof fun i => (cIn (ps.take ps.length) i : Int)) = lof (lfA ps []) := by
  apply lof_congr
  intro i _
  simp [lfA, cOut, cIn]
theorem any_val {srt : List (Fin 64)} {k : Fin 64} : (srt.any fun j => j.val == k.val) = srt.contains k := by
  rw [Bool.eq_iff_iff]
  simp only [List.any_eq_true, List.contains_iff_mem, beq_iff_eq]
  exact ⟨fun ⟨j, h1, h2⟩ => by rw [← Fin.ext h2]; exact h1, fun h => ⟨k, h, rfl⟩⟩
/-- A zero is an element all of whose pairs have been listed. -/
theorem zero_of {ps : List Pr} {srt : List (Fin 64)} {k : Fin 64} (h : lfA ps srt k.val = 0) : k ∉ srt ∧ ∀ x ∈ ps, x.2 = k → x.1 ∈ srt := by
  unfold lfA at h
  rw [any_val] at h
  cases hc : srt.contains k with
  | true => rw [hc] at h; simp at h
  | false =>
    rw [hc] at h
    simp only [Bool.false_eq_true, if_false] at h
    refine ⟨by simpa using hc, fun x hx e => ?_⟩
    have h0 : cOut ps srt k.val = 0 := by omega
    unfold cOut at h0
    rw [List.countP_eq_zero] at h0
    have := h0 x hx
    rw [e] at this
    simpa using this
theorem Topo.snoc {ps : List Pr} {srt : List (Fin 64)} {k : Fin 64} (h : Topo ps srt) (hz : lfA ps srt k.val = 0) : Topo ps (srt ++ [k]) := by
  obtain ⟨h1, h2⟩ := zero_of hz
  refine ⟨?_, ?_⟩
  · rw [List.nodup_append]
    refine ⟨h.nd, by simp, fun a ha b hb => ?_⟩
    simp at hb; subst hb
    exact fun e => h1 (e ▸ ha)
  · intro i b hi x hx e
    by_cases hl : i < srt.length
    · rw [List.getElem?_append_left hl] at hi
      obtain ⟨j, hj, hs⟩ := h.up i b hi x hx e
      exact ⟨j, hj, by rw [List.getElem?_append_left (by omega)]; exact hs⟩
    · have hi0 : i = srt.length := by
        have := (List.getElem?_eq_some_iff.1 hi).1
        simp at this; omega
      subst hi0
      simp at hi
      obtain ⟨j, hj, hs⟩ := List.mem_iff_getElem.1 (h2 x hx (e.trans hi.symm))
      exact ⟨j, hj, by rw [List.getElem?_append_left hj, List.getElem?_eq_getElem hj, hs]⟩
/-- Where a rank goes up along all pairs there is a zero. -/
theorem zero_ex {ps : List Pr} {srt : List (Fin 64)} (ρ : Fin 64 → Nat) (hρ : ∀ x ∈ ps, ρ x.1 < ρ x.2) (hl : srt.length < 64) : ∃ k : Fin 64, lfA ps srt k.val = 0 := by
  have hex : ∃ k : Fin 64, k ∉ srt := by
    apply Classical.byContradiction
    intro hn
    have hall : ∀ k : Fin 64, k ∈ srt := fun k => Classical.byContradiction fun h => hn ⟨k, h⟩
    have := nodup_le (List.nodup_finRange 64) (fun k _ => hall k)
    simp at this; omega
  obtain ⟨m, ⟨k, hk, hm⟩, hmin⟩ := least_of (fun m => ∃ k : Fin 64, k ∉ srt ∧ ρ k = m) (by obtain ⟨k, hk⟩ := hex; exact ⟨ρ k, k, hk, rfl⟩)
  refine ⟨k, ?_⟩
  have hc : srt.contains k = false := by simpa using hk
  unfold lfA
  rw [any_val, hc]
  simp only [Bool.false_eq_true, if_false]
  have : cOut ps srt k.val = 0 := by
    unfold cOut
    rw [List.countP_eq_zero]
    intro x hx
    simp only [Bool.and_eq_true, beq_iff_eq, Bool.not_eq_true', not_and, Bool.not_eq_false]
    intro e
    have e' : x.2 = k := Fin.ext e
    apply Classical.byContradiction
    intro hx1
    have h1 : x.1 ∉ srt := by simpa using hx1
    have h2 := hmin (ρ x.1) ⟨x.1, h1, rfl⟩
    have h3 := hρ x hx
    rw [e'] at h3
    omega
  rw [this]; rfl
theorem ix_zero {f : Nat → Int} (h : ∃ k : Fin 64, f k.val = 0) : ∃ k : Fin 64, ixOf (fun y => (0 : Int) == y) (lof f) = (k.val : Int) ∧ f k.val = 0 := by
  unfold ixOf
  cases hx : (lof f).findIdx? (fun y => (0 : Int) == y) with
  | none =>
    obtain ⟨k, hk⟩ := h
    rw [List.findIdx?_eq_none_iff] at hx
    have := hx (f k.val) (List.mem_of_getElem? (lof_get f k.isLt))
    rw [hk] at this; simp at this
  | some i =>
    obtain ⟨h1, h2, _⟩ := List.findIdx?_eq_some_iff_getElem.1 hx
    rw [lof_len] at h1
    refine ⟨⟨i, h1⟩, rfl, ?_⟩
    have h3 : (lof f)[i]? = some (f i) := lof_get f h1
    rw [List.getElem?_eq_getElem (by rw [lof_len]; exact h1)] at h3
    simp only [Option.some.injEq] at h3
    rw [h3] at h2
    have : (0 : Int) = f i := by simpa using h2
    exact this.symm
theorem lfB_start (ps : List Pr) (srt : List (Fin 64)) (k : Fin 64) : ((lof (lfA ps srt)).set k.val (-1)) = lof (lfB ps srt k 0) := by
  rw [lof_set]
  apply lof_congr
  intro i hi
  unfold lfB lfA
  by_cases e : i = k.val
  · subst e; simp
  · rw [if_neg e]
    have : ((srt ++ [k]).any fun j => j.val == i) = srt.any fun j => j.val == i := by
      rw [List.any_append]
      have : (k.val == i) = false := by simpa using fun h => e h.symm
      simp [this]
    rw [this]
    simp [cFrom]
theorem lfB_end (ps : List Pr) (srt : List (Fin 64)) (k : Fin 64) (hk : k ∉ srt) : lof (lfB ps srt k ps.length) = lof (lfA ps (srt ++ [k])) := by
  apply lof_congr
  intro i hi
  unfold lfB lfA
  split
  · rfl
  · have : cOut ps srt i = cOut ps (srt ++ [k]) i + cFrom ps k i := by
      unfold cOut cFrom
      refine countP_split fun x _ => ?_
      have e1 : (srt ++ [k]).contains x.1 = (srt.contains x.1 || x.1 == k) := by
        rw [Bool.eq_iff_iff]; simp
      have e2 : (x.1 == k) = true → srt.contains x.1 = false := fun h => by
        have : x.1 = k := by simpa using h
        rw [this]; simpa using hk
      rw [e1]
      cases h1 : (x.2.val == i) <;> cases h2 : srt.contains x.1 <;> cases h3 : (x.1 == k) <;> simp_all
    rw [List.take_length]
    omega
theorem lfB_no {ps : List Pr} {srt : List (Fin 64)} {kk : Fin 64} {k : Nat} (h : k < ps.length) (hx : (ps.getD k pz0).1 ≠ kk) : lof (lfB ps srt kk (k + 1)) = lof (lfB ps srt kk k) := by
  apply lof_congr
  intro i hi
  unfold lfB
  have e := cFrom_succ h kk i
  rw [if_neg (fun h => hx h.1)] at e
  rw [e]
theorem lfB_yes {ps : List Pr} {srt : List (Fin 64)} {kk : Fin 64} {k : Nat} (ht : Topo ps srt) (hz : lfA ps srt kk.val = 0) (h : k < ps.length) (hx : (ps.getD k pz0).1 = kk) :
    (lof (lfB ps srt kk k)).set (ps.getD k pz0).2.val (lfB ps srt kk k (ps.getD k pz0).2.val - 1) = lof (lfB ps srt kk (k + 1)) := by
  obtain ⟨h1, h2⟩ := zero_of hz
  have hmem : ps.getD k pz0 ∈ ps := by
    rw [List.getD, List.getElem?_eq_getElem h]; exact List.getElem_mem h
  have hn : (ps.getD k pz0).2 ∉ srt ++ [kk] := by
    intro hm
    rcases List.mem_append.1 hm with hm | hm
    · obtain ⟨i, hi, e⟩ := List.mem_iff_getElem.1 hm
      obtain ⟨j, hj, hs⟩ := ht.up i _ (by rw [List.getElem?_eq_getElem hi, e]) _ hmem rfl
      rw [hx] at hs
      exact h1 (List.mem_of_getElem? hs)
    · have : (ps.getD k pz0).2 = kk := by simpa using hm
      exact h1 (hx ▸ h2 _ hmem this)
  rw [lof_set]
  apply lof_congr
  intro i hi
  by_cases e : i = (ps.getD k pz0).2.val
  · subst e
    rw [if_pos rfl]
    have hc : ((srt ++ [kk]).any fun j => j.val == (ps.getD k pz0).2.val) = false := by rw [any_val]; simpa using hn
    unfold lfB
    have e := cFrom_succ h kk (ps.getD k pz0).2.val
    rw [if_pos ⟨hx, rfl⟩] at e
    rw [hc, e]
    simp only [Bool.false_eq_true, if_false]
    omega
  · rw [if_neg e]
    unfold lfB
    have e2 := cFrom_succ h kk i
    rw [if_neg (fun h => e h.2)] at e2
    rw [e2]
theorem lfA_rng (ps : List Pr) (srt : List (Fin 64)) (i : Nat) : -1 ≤ lfA ps srt i ∧ lfA ps srt i ≤ ps.length := by
  unfold lfA
  split
  · omega
  · have := c_le ps (fun x => x.2.val == i && !srt.contains x.1)
    unfold cOut; omega
theorem lfB_rng (ps : List Pr) (srt : List (Fin 64)) (kk : Fin 64) (k i : Nat) : -1 - (ps.length : Int) ≤ lfB ps srt kk k i ∧ lfB ps srt kk k i ≤ ps.length := by
  unfold lfB
  split
  · omega
  · have := c_le ps (fun x => x.2.val == i && !srt.contains x.1)
    have h2 := c_le (ps.take k) (fun x => x.2.val == i && (x.1 == kk))
    rw [List.length_take] at h2
    unfold cOut cFrom; omega
theorem Topo.all {ps : List Pr} {srt : List (Fin 64)} (h : Topo ps srt) (hl : 64 ≤ srt.length) : ∀ k, k ∈ srt := by
  intro k
  apply Classical.byContradiction
  intro hk
  have := nodup_le (List.nodup_cons.2 ⟨hk, h.nd⟩) (fun x _ => List.mem_finRange x)
  simp at this; omega
end Go.Lx
