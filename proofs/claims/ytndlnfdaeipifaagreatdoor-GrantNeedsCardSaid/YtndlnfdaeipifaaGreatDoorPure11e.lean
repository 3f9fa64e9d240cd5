/- Several texts in one file. -/
import Derived.Test.YtndlnfdaeipifaaGreatDoorPerm0
import Derived.Test.YtndlnfdaeipifaaGreatDoorBox
import Derived.Shelf.GgSortFunc.InsertionK
/- The plain laws of permissions. Nothing of a program stands here. -/
namespace Go.Lx
open Go
set_option linter.unusedSimpArgs false
set_option linter.unusedVariables false
set_option linter.unnecessarySimpa false
structure RawV where
  act : UInt8
  a : Option Addr
  c : Nat
  names : List UInt8
  deep : Bool
def encR (x : RawV) : List Value := [.int .u8 (x.act.toNat : Int), .slice x.a x.names.length x.c, .bool x.deep]
def rz : RawV := ⟨0, none, 0, [], false⟩
def RawV.perm (x : RawV) : Perm := ⟨actionS x.act, pathS x.names, x.deep⟩
theorem RawV.ok (x : RawV) : x.perm.ok := ⟨by have := actionS_len x.act; show (actionS x.act).length ≤ _; omega, by have := pathS_len x.names; show (pathS x.names).length ≤ _; omega⟩
/-! the chapter's example -/
/-! covering -/
theorem covers_own (p : Perm) : coversS p p.act p.path = (checkS p == 0) := by
  by_cases h : checkS p = 0
  · rw [covers_mk h rfl (check_path h).1, h]; simp
  · have : (checkS p == 0) = false := by rw [beq_eq_false_iff_ne]; exact h
    rw [this, Bool.eq_false_iff]
    intro hc
    exact h (covers_parts hc).1
theorem implies_own (p : Perm) : impliesS p p = (checkS p == 0) := by
  unfold impliesS
  rw [covers_own]
  cases p.deep <;> simp
theorem implies_parts {p q : Perm} (h : impliesS p q = true) : checkS p = 0 ∧ checkS q = 0 ∧ p.act = q.act ∧ (p.deep = true ∨ q.deep = false) ∧ (p.path = q.path ∨ (p.deep = true ∧ splitL p.path <+: splitL q.path)) := by
  simp only [impliesS, Bool.and_eq_true, beq_iff_eq, Bool.or_eq_true, Bool.not_eq_true'] at h
  obtain ⟨⟨h1, h2⟩, h3⟩ := h
  obtain ⟨g1, g2, g3, g4⟩ := covers_parts h2
  refine ⟨g1, h1, g2, h3, ?_⟩
  rcases g4 with g | ⟨g, g'⟩
  · exact .inl g
  · exact .inr ⟨g, (within_iff.1 g').2.2⟩
theorem implies_mk {p q : Perm} (h1 : checkS p = 0) (h2 : checkS q = 0) (h3 : p.act = q.act) (h4 : p.deep = true ∨ q.deep = false) (h5 : p.path = q.path ∨ (p.deep = true ∧ splitL p.path <+: splitL q.path)) : impliesS p q = true := by
  simp only [impliesS, Bool.and_eq_true, beq_iff_eq, Bool.or_eq_true, Bool.not_eq_true']
  refine ⟨⟨h2, ?_⟩, h4⟩
  rw [covers_mk h1 h3 (check_path h2).1]
  rcases h5 with h | ⟨h, h'⟩
  · simp [h]
  · have : withinS q.path p.path = true := within_iff.2 ⟨(check_path h2).1, (check_path h1).1, h'⟩
    simp [h, this]
theorem implies_pre {p q : Perm} (h : impliesS p q = true) : splitL p.path <+: splitL q.path := by
  rcases (implies_parts h).2.2.2.2 with h | h
  · rw [h]; exact List.prefix_refl _
  · exact h.2
theorem implies_trans {p q r : Perm} (h : impliesS p q = true) (k : impliesS q r = true) : impliesS p r = true := by
  obtain ⟨h1, h2, h3, h4, h5⟩ := implies_parts h
  obtain ⟨k1, k2, k3, k4, k5⟩ := implies_parts k
  refine implies_mk h1 k2 (h3.trans k3) ?_ ?_
  · rcases h4 with h | h
    · exact .inl h
    · rcases k4 with k | k
      · rw [h] at k; cases k
      · exact .inr k
  · rcases h5 with h | ⟨h, h'⟩
    · rcases k5 with k | ⟨k, k'⟩
      · exact .inl (h.trans k)
      · rcases h4 with g | g
        · exact .inr ⟨g, by rw [h]; exact k'⟩
        · rw [g] at k; cases k
    · exact .inr ⟨h, h'.trans (implies_pre k)⟩
theorem implies_anti {p q : Perm} (h : impliesS p q = true) (k : impliesS q p = true) : p = q := by
  obtain ⟨h1, h2, h3, h4, h5⟩ := implies_parts h
  obtain ⟨k1, k2, k3, k4, k5⟩ := implies_parts k
  have e : splitL p.path = splitL q.path := by
    have g1 := implies_pre h
    have g2 := implies_pre k
    exact g1.eq_of_length_le g2.length_le
  have hp : p.path = q.path := split_inj (check_path h1).1 (check_path h2).1 e
  have hd : p.deep = q.deep := by
    cases hpd : p.deep <;> cases hqd : q.deep <;> simp_all
  obtain ⟨a, b, c⟩ := p
  obtain ⟨a', b', c'⟩ := q
  simp only at h3 hp hd
  subst h3 hp hd
  rfl
theorem covers_implied {p q : Perm} {a s : Str} (h : impliesS p q = true) (k : coversS q a s = true) : coversS p a s = true := by
  obtain ⟨h1, h2, h3, h4, h5⟩ := implies_parts h
  obtain ⟨k1, k2, k3, k4⟩ := covers_parts k
  rw [covers_mk h1 (h3.trans k2) k3]
  simp only [Bool.or_eq_true, beq_iff_eq, Bool.and_eq_true]
  have hpre := implies_pre h
  have hs : q.path = s ∨ q.deep = true ∧ splitL q.path <+: splitL s := by
    rcases k4 with k | ⟨k, k'⟩
    · exact .inl k
    · exact .inr ⟨k, (within_iff.1 k').2.2⟩
  have hw : splitL q.path <+: splitL s := by
    rcases hs with h | h
    · rw [h]; exact List.prefix_refl _
    · exact h.2
  by_cases hd : p.deep = true
  · exact .inr ⟨hd, within_iff.2 ⟨k3, (check_path h1).1, hpre.trans hw⟩⟩
  · rcases h4 with g | g
    · exact absurd g hd
    · left
      rcases h5 with h | h
      · rcases hs with k | k
        · exact h.trans k
        · rw [g] at k; exact absurd k.1 (by simp)
      · exact absurd h.1 hd
/-! the laws' conditions, as the code puts them -/
end Go.Lx
/- Permissions, more: the text of a permission is read back. Nothing of a program stands here. -/
namespace Go.Lx
open Go
set_option linter.unusedSimpArgs false
set_option linter.unusedVariables false
set_option linter.unnecessarySimpa false
end Go.Lx
/- Lists of permissions: the normal list covers the same; two normal lists are equal exactly if they imply the same; what is common, what is beyond. Nothing of a program stands here. -/
namespace Go.Lx
open Go
set_option linter.unusedSimpArgs false
set_option linter.unusedVariables false
set_option linter.unnecessarySimpa false
def impL (l : List Perm) (q : Perm) : Bool := l.any fun p => impliesS p q
theorem impL_iff {l : List Perm} {q : Perm} : impL l q = true ↔ ∃ p ∈ l, impliesS p q = true := List.any_eq_true
theorem implies_self {p : Perm} (h : checkS p = 0) : impliesS p p = true := by rw [implies_own, h]; rfl
theorem keepS_iff {l : List Perm} {x : Perm} : keepS l x = true ↔ checkS x = 0 ∧ ∀ q ∈ l, impliesS q x = true → q = x := by
  unfold keepS
  rw [Bool.and_eq_true, beq_iff_eq, Bool.not_eq_true', List.any_eq_false]
  refine and_congr_right fun _ => ⟨fun h q hq hi => ?_, fun h q hq hi => ?_⟩
  · have := h q hq
    rw [hi, Bool.and_true] at this
    simpa using this
  · rw [Bool.and_eq_true] at hi
    rw [h q hq hi.2] at hi
    simp at hi
theorem norm_max {l : List Perm} {x : Perm} : x ∈ normS l ↔ impL l x = true ∧ ∀ q, impL l q = true → impliesS q x = true → q = x := by
  rw [normS_mem, keepS_iff]
  constructor
  · rintro ⟨hx, hc, h⟩
    refine ⟨impL_iff.2 ⟨x, hx, implies_self hc⟩, fun q hq hi => ?_⟩
    obtain ⟨p, hp, hpq⟩ := impL_iff.1 hq
    have := h p hp (implies_trans hpq hi)
    subst this
    exact (implies_anti hi hpq)
  · rintro ⟨h1, h2⟩
    obtain ⟨p, hp, hpx⟩ := impL_iff.1 h1
    have hpc := (implies_parts hpx).1
    have e := h2 p (impL_iff.2 ⟨p, hp, implies_self hpc⟩) hpx
    subst e
    exact ⟨hp, hpc, fun q hq hi => h2 q (impL_iff.2 ⟨q, hq, implies_self (implies_parts hi).1⟩) hi⟩
theorem normV (l : List Perm) (hok : ∀ x ∈ l, x.ok) : ∃ lv : List VP, lv.map (·.1) = normS l ∧ lv.Pairwise (fun x y => cmpM x.1 y.1 < 0) := by
  have hv := keepS_vp hok
  have h1 := vpL_map (l.filter (keepS l)) hv
  generalize vpL (l.filter (keepS l)) hv = a at h1
  refine ⟨insAll (fun x y : VP => cmpM x.1 y.1) a, ?_, insAll_pw cmpV_is a⟩
  have e2 := insFold_map (f := cmpM) (m := fun x : VP => x.1) val_inj a []
  unfold normS insAll
  rw [← h1]
  exact e2.symm
theorem norm_ext {l m : List Perm} (hl : ∀ x ∈ l, x.ok) (hm : ∀ x ∈ m, x.ok) (h : ∀ x, x ∈ normS l ↔ x ∈ normS m) : normS l = normS m := by
  obtain ⟨a, e1, p1⟩ := normV l hl
  obtain ⟨b, e2, p2⟩ := normV m hm
  rw [← e1, ← e2] at h ⊢
  have : a = b := pw_unique cmpV_is p1 p2 fun x => by
    have hmm : ∀ (l : List VP), x ∈ l ↔ x.1 ∈ l.map (fun y => y.1) := fun l => by
      rw [List.mem_map]
      exact ⟨fun h => ⟨x, h, rfl⟩, fun ⟨y, h, e⟩ => val_inj y x e ▸ h⟩
    rw [hmm, hmm]; exact h x.1
  rw [this]
theorem norm_same {l m : List Perm} (hl : ∀ x ∈ l, x.ok) (hm : ∀ x ∈ m, x.ok) (h : ∀ q, impL l q = impL m q) : normS l = normS m :=
  norm_ext hl hm fun x => by
    rw [norm_max, norm_max, h x]
    refine and_congr_right fun _ => ?_
    simp only [h]
def muP (p : Perm) : Nat := 2 * (splitL p.path).length + if p.deep then 0 else 1
theorem mu_lt {p q : Perm} (h : impliesS p q = true) (hne : p ≠ q) : muP p < muP q := by
  have hp := implies_pre h
  have hle := hp.length_le
  obtain ⟨c1, c2, ha, hd, _⟩ := implies_parts h
  unfold muP
  rcases Nat.lt_or_ge (splitL p.path).length (splitL q.path).length with hl | hl
  · split <;> split <;> omega
  · have e := hp.eq_of_length (by omega)
    have hpath := split_inj (check_path c1).1 (check_path c2).1 e
    obtain ⟨a1, s1, d1⟩ := p
    obtain ⟨a2, s2, d2⟩ := q
    simp only at ha hpath hd
    subst ha hpath
    cases d1 <;> cases d2
    · exact absurd rfl hne
    · simp at hd
    · simp
    · exact absurd rfl hne
theorem norm_above {l : List Perm} : ∀ (n : Nat) (p : Perm), muP p ≤ n → p ∈ l → checkS p = 0 → ∃ x ∈ normS l, impliesS x p = true := by
  intro n
  induction n with
  | zero =>
    intro p h hp hc
    refine ⟨p, normS_mem.2 ⟨hp, keepS_iff.2 ⟨hc, fun q hq hi => ?_⟩⟩, implies_self hc⟩
    refine Classical.byContradiction fun hne => ?_
    have := mu_lt hi hne
    omega
  | succ n ih =>
    intro p h hp hc
    by_cases hk : keepS l p = true
    · exact ⟨p, normS_mem.2 ⟨hp, hk⟩, implies_self hc⟩
    · rw [keepS_iff] at hk
      obtain ⟨q, hq, hi, hne⟩ : ∃ q, q ∈ l ∧ impliesS q p = true ∧ q ≠ p := by
        refine Classical.byContradiction fun hno => hk ⟨hc, fun q hq hi => Classical.byContradiction fun hne => hno ⟨q, hq, hi, hne⟩⟩
      obtain ⟨x, hx, hxi⟩ := ih q (by have := mu_lt hi hne; omega) hq (implies_parts hi).1
      exact ⟨x, hx, implies_trans hxi hi⟩
theorem norm_sub {l : List Perm} {x : Perm} (h : x ∈ normS l) : x ∈ l := (normS_mem.1 h).1
def covL (l : List Perm) (a s : Str) : Bool := l.any fun x => coversS x a s
theorem covL_iff {l : List Perm} {a s : Str} : covL l a s = true ↔ ∃ p ∈ l, coversS p a s = true := List.any_eq_true
theorem norm_cov (l : List Perm) (a s : Str) : covL (normS l) a s = covL l a s := by
  rw [Bool.eq_iff_iff, covL_iff, covL_iff]
  constructor
  · rintro ⟨p, hp, h⟩; exact ⟨p, norm_sub hp, h⟩
  · rintro ⟨p, hp, h⟩
    obtain ⟨x, hx, hi⟩ := norm_above _ p (Nat.le_refl _) hp (covers_parts h).1
    exact ⟨x, hx, covers_implied hi h⟩
end Go.Lx
/- An own slice as the library's sort takes and leaves it. Nothing of a program stands here. -/
namespace Go.Lx
open Go Go.RowKit
set_option linter.unusedSimpArgs false
set_option linter.unusedVariables false
set_option linter.unnecessarySimpa false
theorem ext_grow {W W' : World} (h : Ext True W W') : ∃ q os', W' = Sort.grow (W.drewN q) os' := by
  have h1 := h.os; have h2 := h.tape; have h3 := h.output; have h4 := h.size
  have h5 : ∀ b, b < W.heap.size → W'.heap[b]? = W.heap[b]? := fun b hb => h.block b hb id
  have hd := h.drawn trivial
  obtain ⟨heap, tape, drawn, os, output⟩ := W
  obtain ⟨heap', tape', drawn', os', output'⟩ := W'
  simp only at h1 h2 h3 h4 h5 hd
  subst h1 h2 h3
  refine ⟨drawn' - drawn, heap'.extract heap.size heap'.size, ?_⟩
  unfold Sort.grow World.drewN
  simp only [World.mk.injEq, and_true, true_and]
  refine ⟨?_, by omega⟩
  apply Array.ext_getElem?
  intro i
  rw [Array.getElem?_append]
  by_cases hi : i < heap.size
  · rw [if_pos hi]; exact h5 i hi
  · rw [if_neg hi, Array.getElem?_extract]
    by_cases hj : i < heap'.size
    · rw [if_pos (by omega), show heap.size + (i - heap.size) = i from by omega]
    · rw [if_neg (by omega), Array.getElem?_eq_none (by omega)]
section
variable {α : Type} [Inhabited α] {enc : α → List Value} {k m c g off : Nat} {D : Nat → Prop} {e : TypeId} {w : World} {l : List α}
theorem flat_get (he : EncOk enc k) (j : Nat) (hj : j < l.length * k) : (l.flatMap enc)[j]? = some ((Sort.flatK enc k l.toArray)[j]!) := by
  have hk := he.pos
  have h1 : j / k < l.length := Nat.div_lt_of_lt_mul (by rw [Nat.mul_comm]; exact hj)
  have h2 : j % k < k := Nat.mod_lt _ hk
  have e1 : j = (j / k) * k + j % k := by have := Nat.div_add_mod j k; rw [Nat.mul_comm] at this; exact this.symm
  have e2 := fm_get he (List.getElem?_eq_getElem h1) (j % k) h2
  rw [← e1] at e2
  rw [e2, Sort.get_flatK _ _ _ _ (by simpa using hj)]
  have h3 : (l.toArray)[j / k]! = l[j / k] := by simp [h1]
  rw [h3]
  have h4 : j % k < (enc l[j / k]).length := by rw [he.len]; exact h2
  simp [h4]
omit [Inhabited α] in
theorem own_parts (h : Own enc k e D w (.slice (some ⟨g, off, none⟩) m c) l) : off = 0 ∧ m = l.length ∧ D g ∧ ∃ cur : Array Value, w.heap[g]? = some (.cells cur e (0, 0)) ∧ l.length ≤ c ∧ c ≤ maxLen ∧ cur.size = c * k ∧ cur.toList.take (l.length * k) = l.flatMap enc := by
  rcases h.row.2 with ⟨h1, _⟩ | ⟨g', cap, cur, h1, h2, h3, h4, h5, h6, h7⟩
  · simp at h1
  · simp at h1
    obtain ⟨⟨rfl, rfl⟩, rfl, rfl⟩ := h1
    exact ⟨rfl, rfl, h.loc _ rfl, cur, h3, h4, h5, h6, h7⟩
theorem own_holds (he : EncOk enc k) (h : Own enc k e D w (.slice (some ⟨g, off, none⟩) m c) l) : Sort.HoldsK enc k w g off l.toArray := by
  obtain ⟨rfl, rfl, _, cur, h3, h4, h5, h6, h7⟩ := own_parts h
  intro j hj
  rw [Sort.size_flatK] at hj
  have hj' : j < l.length * k := by simpa using hj
  have hle : l.length * k ≤ cur.size := by rw [h6]; exact Nat.mul_le_mul_right _ h4
  have hg := flat_get he j hj'
  rw [← h7, List.getElem?_take, if_pos hj'] at hg
  constructor
  · simp only [World.cell?, Nat.zero_add, h3]
    simpa using hg
  · simp [World.frozen?, h3]
theorem own_sorted (he : EncOk enc k) {n : Nat} {d' : Array α} {os : Array Obj} (h : Own enc k e D w (.slice (some ⟨g, off, none⟩) m c) l) (hd : d'.size = l.length) :
    Own enc k e D (Go.Proofs.sortWorldK enc k w g off n d' os) (.slice (some ⟨g, off, none⟩) m c) d'.toList ∧ Bel True D w (Go.Proofs.sortWorldK enc k w g off n d' os) := by
  obtain ⟨rfl, rfl, hB, cur, h3, h4, h5, h6, h7⟩ := own_parts h
  have hlt : g < w.heap.size := (Array.getElem?_eq_some_iff.1 h3).1
  have hw : Go.Proofs.sortWorldK enc k w g 0 n d' os = { w with drawn := w.drawn + n, heap := w.heap.modify g (Sort.onCells (Sort.putCells id 0 (Sort.flatK enc k d'))) ++ os } := rfl
  have hle : l.length * k ≤ cur.size := by rw [h6]; exact Nat.mul_le_mul_right _ h4
  have hget : (Go.Proofs.sortWorldK enc k w g 0 n d' os).heap[g]? = some (.cells (Sort.putCells id 0 (Sort.flatK enc k d') cur) e (0, 0)) := by
    rw [hw]
    simp only
    rw [Array.getElem?_append_left (by simpa using hlt), Array.getElem?_modify, if_pos rfl, h3]
    rfl
  constructor
  · refine ⟨⟨by rw [fm_len he], .inr ⟨g, c, _, by rw [← hd]; simp, Nat.zero_le _, hget, by rw [Array.length_toList, hd]; exact h4, h5, by simp [Sort.putCells, h6], ?_⟩⟩, h.loc⟩
    rw [Array.length_toList, hd]
    apply List.ext_getElem?
    intro j
    by_cases hj : j < l.length * k
    · have h1 := flat_get (l := d'.toList) he j (by rw [Array.length_toList, hd]; exact hj)
      rw [h1, List.getElem?_take, if_pos hj]
      simp only [Sort.putCells, Array.getElem?_toList, Array.getElem?_mapIdx]
      rw [Array.getElem?_eq_getElem (by omega)]
      simp [hd, hj]
    · rw [List.getElem?_eq_none (by simp [List.length_take]; omega), List.getElem?_eq_none (by rw [fm_len he, Array.length_toList, hd]; omega)]
  · refine ⟨rfl, rfl, rfl, by rw [hw]; simp, ?_, fun _ => by rw [hw]; simp⟩
    intro j hjl hj
    have hne : g ≠ j := fun e => hj (e ▸ hB)
    rw [hw]
    simp only
    rw [Array.getElem?_append_left (by simpa using hjl), Array.getElem?_modify, if_neg hne]
end
end Go.Lx
