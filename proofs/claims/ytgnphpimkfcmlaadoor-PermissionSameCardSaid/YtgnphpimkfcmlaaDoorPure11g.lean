/- Lists of permissions: the normal list covers the same; two normal lists are equal exactly if they imply the same; what is common, what is beyond. Nothing of a program stands here. -/
import Derived.Test.YtgnphpimkfcmlaaDoorPure11f
namespace Go.Lx
open Go
set_option linter.unusedSimpArgs false
set_option linter.unusedVariables false
set_option linter.unnecessarySimpa false
def impL (l : List Perm) (q : Perm) : Bool := l.any fun p => impliesS p q
theorem impL_iff {l : List Perm} {q : Perm} : impL l q = true ↔ ∃ p ∈ l, impliesS p q = true := List.any_eq_true
theorem impL_app (l m : List Perm) (q : Perm) : impL (l ++ m) q = (impL l q || impL m q) := List.any_append
theorem implies_self {p : Perm} (h : checkS p = 0) : impliesS p p = true := by rw [implies_own, h]; rfl
theorem keepS_iff {l : List Perm} {x : Perm} : keepS l x = true ↔ checkS x = 0 ∧ ∀ q ∈ l, impliesS q x = true → q = x := by
  unfold keepS
  rw [Bool.and_eq_true, beq_iff_eq, Bool.not_eq_true', List.any_eq_false]
  refine and_congr_right fun _ => ⟨fun h q hq hi => ?_, fun h q hq hi => ?_⟩
  · have := h q hq
    rw [hi, Bool.and_true] at this
    simpa using this
  · rw [Bool.and_eq_true] at hi
    rw [h q hq hi.2] at hi
    simp at hi
theorem norm_max {l : List Perm} {x : Perm} : x ∈ normS l ↔ impL l x = true ∧ ∀ q, impL l q = true → impliesS q x = true → q = x := by
  rw [normS_mem, keepS_iff]
  constructor
  · rintro ⟨hx, hc, h⟩
    refine ⟨impL_iff.2 ⟨x, hx, implies_self hc⟩, fun q hq hi => ?_⟩
    obtain ⟨p, hp, hpq⟩ := impL_iff.1 hq
    have := h p hp (implies_trans hpq hi)
    subst this
    exact (implies_anti hi hpq)
  · rintro ⟨h1, h2⟩
    obtain ⟨p, hp, hpx⟩ := impL_iff.1 h1
    have hpc := (implies_parts hpx).1
    have e := h2 p (impL_iff.2 ⟨p, hp, implies_self hpc⟩) hpx
    subst e
    exact ⟨hp, hpc, fun q hq hi => h2 q (impL_iff.2 ⟨q, hq, implies_self (implies_parts hi).1⟩) hi⟩
theorem normV (l : List Perm) (hok : ∀ x ∈ l, x.ok) : ∃ lv : List VP, lv.map (·.1) = normS l ∧ lv.Pairwise (fun x y => cmpM x.1 y.1 < 0) := by
  have hv := keepS_vp hok
  have h1 := vpL_map (l.filter (keepS l)) hv
  generalize vpL (l.filter (keepS l)) hv = a at h1
  refine ⟨insAll (fun x y : VP => cmpM x.1 y.1) a, ?_, insAll_pw cmpV_is a⟩
  have e2 := insFold_map (f := cmpM) (m := fun x : VP => x.1) val_inj a []
  unfold normS insAll
  rw [← h1]
  exact e2.symm
theorem norm_ext {l m : List Perm} (hl : ∀ x ∈ l, x.ok) (hm : ∀ x ∈ m, x.ok) (h : ∀ x, x ∈ normS l ↔ x ∈ normS m) : normS l = normS m := by
  obtain ⟨a, e1, p1⟩ := normV l hl
  obtain ⟨b, e2, p2⟩ := normV m hm
  rw [← e1, ← e2] at h ⊢
  have : a = b := pw_unique cmpV_is p1 p2 fun x => by
    have hmm : ∀ (l : List VP), x ∈ l ↔ x.1 ∈ l.map (fun y => y.1) := fun l => by
      rw [List.mem_map]
      exact ⟨fun h => ⟨x, h, rfl⟩, fun ⟨y, h, e⟩ => val_inj y x e ▸ h⟩
    rw [hmm, hmm]; exact h x.1
  rw [this]
theorem norm_same {l m : List Perm} (hl : ∀ x ∈ l, x.ok) (hm : ∀ x ∈ m, x.ok) (h : ∀ q, impL l q = impL m q) : normS l = normS m :=
  norm_ext hl hm fun x => by
    rw [norm_max, norm_max, h x]
    refine and_congr_right fun _ => ?_
    simp only [h]
def muP (p : Perm) : Nat := 2 * (splitL p.path).length + if p.deep then 0 else 1
theorem mu_lt {p q : Perm} (h : impliesS p q = true) (hne : p ≠ q) : muP p < muP q := by
  have hp := implies_pre h
  have hle := hp.length_le
  obtain ⟨c1, c2, ha, hd, _⟩ := implies_parts h
  unfold muP
  rcases Nat.lt_or_ge (splitL p.path).length (splitL q.path).length with hl | hl
  · split <;> split <;> omega
  · have e := hp.eq_of_length (by omega)
    have hpath := split_inj (check_path c1).1 (check_path c2).1 e
    obtain ⟨a1, s1, d1⟩ := p
    obtain ⟨a2, s2, d2⟩ := q
    simp only at ha hpath hd
    subst ha hpath
    cases d1 <;> cases d2
    · exact absurd rfl hne
    · simp at hd
    · simp
    · exact absurd rfl hne
theorem norm_above {l : List Perm} : ∀ (n : Nat) (p : Perm), muP p ≤ n → p ∈ l → checkS p = 0 → ∃ x ∈ normS l, impliesS x p = true := by
  intro n
  induction n with
  | zero =>
    intro p h hp hc
    refine ⟨p, normS_mem.2 ⟨hp, keepS_iff.2 ⟨hc, fun q hq hi => ?_⟩⟩, implies_self hc⟩
    refine Classical.byContradiction fun hne => ?_
    have := mu_lt hi hne
    omega
  | succ n ih =>
    intro p h hp hc
    by_cases hk : keepS l p = true
    · exact ⟨p, normS_mem.2 ⟨hp, hk⟩, implies_self hc⟩
    · rw [keepS_iff] at hk
      obtain ⟨q, hq, hi, hne⟩ : ∃ q, q ∈ l ∧ impliesS q p = true ∧ q ≠ p := by
        refine Classical.byContradiction fun hno => hk ⟨hc, fun q hq hi => Classical.byContradiction fun hne => hno ⟨q, hq, hi, hne⟩⟩
      obtain ⟨x, hx, hxi⟩ := ih q (by have := mu_lt hi hne; omega) hq (implies_parts hi).1
      exact ⟨x, hx, implies_trans hxi hi⟩
theorem norm_sub {l : List Perm} {x : Perm} (h : x ∈ normS l) : x ∈ l := (normS_mem.1 h).1
theorem norm_chk {l : List Perm} {x : Perm} (h : x ∈ normS l) : checkS x = 0 := (keepS_iff.1 (normS_mem.1 h).2).1
theorem norm_imp (l : List Perm) (q : Perm) : impL (normS l) q = impL l q := by
  rw [Bool.eq_iff_iff, impL_iff, impL_iff]
  constructor
  · rintro ⟨p, hp, h⟩; exact ⟨p, norm_sub hp, h⟩
  · rintro ⟨p, hp, h⟩
    obtain ⟨x, hx, hi⟩ := norm_above _ p (Nat.le_refl _) hp (implies_parts h).1
    exact ⟨x, hx, implies_trans hi h⟩
def covL (l : List Perm) (a s : Str) : Bool := l.any fun x => coversS x a s
theorem covL_iff {l : List Perm} {a s : Str} : covL l a s = true ↔ ∃ p ∈ l, coversS p a s = true := List.any_eq_true
theorem norm_cov (l : List Perm) (a s : Str) : covL (normS l) a s = covL l a s := by
  rw [Bool.eq_iff_iff, covL_iff, covL_iff]
  constructor
  · rintro ⟨p, hp, h⟩; exact ⟨p, norm_sub hp, h⟩
  · rintro ⟨p, hp, h⟩
    obtain ⟨x, hx, hi⟩ := norm_above _ p (Nat.le_refl _) hp (covers_parts h).1
    exact ⟨x, hx, covers_implied hi h⟩
theorem norm_norm {l : List Perm} (hl : ∀ x ∈ l, x.ok) : normS (normS l) = normS l := norm_same (normS_ok hl) hl (norm_imp l)
theorem norm_iff {l m : List Perm} (hl : ∀ x ∈ l, x.ok) (hm : ∀ x ∈ m, x.ok) : normS l = normS m ↔ ∀ q, impL l q = impL m q :=
  ⟨fun h q => by rw [← norm_imp l, ← norm_imp m, h], norm_same hl hm⟩
theorem app_ok {l m : List Perm} (hl : ∀ x ∈ l, x.ok) (hm : ∀ x ∈ m, x.ok) : ∀ x ∈ l ++ m, x.ok := fun x hx => (List.mem_append.1 hx).elim (hl x) (hm x)
theorem impL_trans {l : List Perm} {p q : Perm} (h : impL l p = true) (hi : impliesS p q = true) : impL l q = true := by
  obtain ⟨x, hx, h1⟩ := impL_iff.1 h
  exact impL_iff.2 ⟨x, hx, implies_trans h1 hi⟩
def minS (x y : List Perm) : List Perm := (normS x).filter fun p => !(y.any fun q => impliesS q p)
theorem minS_mem {x y : List Perm} {p : Perm} : p ∈ minS x y ↔ p ∈ normS x ∧ impL y p = false := by
  unfold minS; rw [List.mem_filter, Bool.not_eq_true']; rfl
theorem minS_ok {x y : List Perm} (hx : ∀ p ∈ x, p.ok) : ∀ p ∈ minS x y, p.ok := fun p hp => normS_ok hx p (minS_mem.1 hp).1
theorem minS_len (x y : List Perm) : (minS x y).length ≤ x.length := Nat.le_trans (List.length_filter_le _ _) (normS_len x)
theorem law_same3 {a b : List Perm} (ha : ∀ x ∈ a, x.ok) (hb : ∀ x ∈ b, x.ok) : (normS a == normS (b ++ a)) = (((minS b a).length : Int) == 0) := by
  rw [Bool.eq_iff_iff, beq_iff_eq, beq_iff_eq, norm_iff ha (app_ok hb ha)]
  have e : ((minS b a).length : Int) = 0 ↔ ∀ p ∈ normS b, impL a p = true := by
    constructor
    · intro h p hp
      have h0 : minS b a = [] := List.eq_nil_of_length_eq_zero (by omega)
      cases hi : impL a p with
      | true => rfl
      | false =>
        have := minS_mem.2 ⟨hp, hi⟩
        rw [h0] at this; simp at this
    · intro h
      have : minS b a = [] := by
        rw [List.eq_nil_iff_forall_not_mem]
        intro p hp
        obtain ⟨h1, h2⟩ := minS_mem.1 hp
        rw [h p h1] at h2; cases h2
      rw [this]; rfl
  rw [e]
  constructor
  · intro h p hp
    have h1 := h p
    rw [impL_app] at h1
    rw [h1]
    have : impL b p = true := impL_iff.2 ⟨p, norm_sub hp, implies_self (norm_chk hp)⟩
    rw [this]; rfl
  · intro h q
    rw [impL_app]
    cases hq : impL b q with
    | false => simp
    | true =>
      rw [← norm_imp] at hq
      obtain ⟨x, hx, hi⟩ := impL_iff.1 hq
      rw [impL_trans (h x hx) hi]; rfl
theorem law_min1 {a b : List Perm} : ((minS a (b ++ minS a b)).length : Int) = 0 := by
  have : minS a (b ++ minS a b) = [] := by
    rw [List.eq_nil_iff_forall_not_mem]
    intro p hp
    obtain ⟨h1, h2⟩ := minS_mem.1 hp
    rw [impL_app, Bool.or_eq_false_iff] at h2
    have : impL (minS a b) p = true := impL_iff.2 ⟨p, minS_mem.2 ⟨h1, h2.1⟩, implies_self (norm_chk h1)⟩
    rw [this] at h2; simp at h2
  rw [this]; rfl
theorem law_min2 {a b : List Perm} (ha : ∀ x ∈ a, x.ok) (hb : ∀ x ∈ b, x.ok) : normS (b ++ minS a b) = normS (a ++ b) := by
  refine norm_same (app_ok hb (minS_ok ha)) (app_ok ha hb) fun q => ?_
  rw [impL_app, impL_app, Bool.eq_iff_iff, Bool.or_eq_true, Bool.or_eq_true]
  constructor
  · rintro (h | h)
    · exact .inr h
    · obtain ⟨p, hp, hi⟩ := impL_iff.1 h
      exact .inl (impL_iff.2 ⟨p, norm_sub (minS_mem.1 hp).1, hi⟩)
  · rintro (h | h)
    · rw [← norm_imp] at h
      obtain ⟨x, hx, hi⟩ := impL_iff.1 h
      cases hb' : impL b x with
      | true => exact .inl (impL_trans hb' hi)
      | false => exact .inr (impL_iff.2 ⟨x, minS_mem.2 ⟨hx, hb'⟩, hi⟩)
    · exact .inl h
/-- What lies in the common list: of two that are comparable, the lesser. -/
def ComP (x y : List Perm) (z : Perm) : Prop := ∃ p ∈ x, ∃ q ∈ y, (impliesS p q = true ∧ z = q) ∨ (impliesS q p = true ∧ z = p)
theorem comL_mem {x y : List Perm} {z : Perm} : z ∈ comL x y ↔ ComP x y z := by
  unfold comL ComP
  simp only [List.mem_flatMap]
  constructor
  · rintro ⟨p, hp, q, hq, h⟩
    refine ⟨p, hp, q, hq, ?_⟩
    unfold comStep at h
    split at h
    · rename_i h1; exact .inl ⟨h1, by simpa using h⟩
    · split at h
      · rename_i h1; exact .inr ⟨h1, by simpa using h⟩
      · simp at h
  · rintro ⟨p, hp, q, hq, h⟩
    refine ⟨p, hp, q, hq, ?_⟩
    unfold comStep
    rcases h with ⟨h, rfl⟩ | ⟨h, rfl⟩
    · rw [if_pos h]; simp
    · split
      · rename_i h1
        rw [implies_anti h h1]; simp
      · first | (rw [if_pos h]; simp) | simp
theorem rcomL_mem {x y : List Perm} {z : Perm} : z ∈ rcomL x y ↔ ComP x y z := by
  unfold rcomL ComP
  simp only [List.mem_flatMap]
  constructor
  · rintro ⟨p, hp, q, hq, h⟩
    refine ⟨p, hp, q, hq, ?_⟩
    unfold rcomStep at h
    rcases List.mem_append.1 h with h | h
    · split at h
      · rename_i h1; exact .inl ⟨h1, by simpa using h⟩
      · simp at h
    · split at h
      · rename_i h1; exact .inr ⟨h1, by simpa using h⟩
      · simp at h
  · rintro ⟨p, hp, q, hq, h⟩
    refine ⟨p, hp, q, hq, ?_⟩
    unfold rcomStep
    rcases h with ⟨h, rfl⟩ | ⟨h, rfl⟩
    · rw [if_pos h]; simp
    · rw [if_pos h]; simp
theorem com_len {x y : List Perm} (hx : x.length ≤ 8) (hy : y.length ≤ 8) : (normS (comL x y)).length ≤ 64 := by
  have h1 := normS_len (comL x y)
  have h2 := comL_len y x
  have h3 : x.length * y.length ≤ 8 * 8 := Nat.mul_le_mul hx hy
  omega
theorem ComP_swap {x y : List Perm} {z : Perm} : ComP x y z ↔ ComP y x z :=
  ⟨fun ⟨p, hp, q, hq, h⟩ => ⟨q, hq, p, hp, h.symm⟩, fun ⟨p, hp, q, hq, h⟩ => ⟨q, hq, p, hp, h.symm⟩⟩
theorem impL_mem {l m : List Perm} (h : ∀ z, z ∈ l ↔ z ∈ m) (q : Perm) : impL l q = impL m q := by
  rw [Bool.eq_iff_iff, impL_iff, impL_iff]
  exact ⟨fun ⟨p, hp, hi⟩ => ⟨p, (h p).1 hp, hi⟩, fun ⟨p, hp, hi⟩ => ⟨p, (h p).2 hp, hi⟩⟩
theorem com_r {x y : List Perm} (hx : ∀ p ∈ x, p.ok) (hy : ∀ p ∈ y, p.ok) : normS (comL x y) = normS (rcomL x y) :=
  norm_same (comL_ok hx hy) (rcomL_ok hx hy) (impL_mem fun z => by rw [comL_mem, rcomL_mem])
theorem com_swap {x y : List Perm} (hx : ∀ p ∈ x, p.ok) (hy : ∀ p ∈ y, p.ok) : normS (normS (comL x y)) = normS (normS (comL y x)) := by
  rw [norm_norm (comL_ok hx hy), norm_norm (comL_ok hy hx)]
  exact norm_same (comL_ok hx hy) (comL_ok hy hx) (impL_mem fun z => by rw [comL_mem, comL_mem, ComP_swap])
theorem comparable {p q : Perm} {a s : Str} (h : coversS p a s = true) (k : coversS q a s = true) : impliesS p q = true ∨ impliesS q p = true := by
  obtain ⟨c1, a1, _, h1⟩ := covers_parts h
  obtain ⟨c2, a2, _, h2⟩ := covers_parts k
  have ha : p.act = q.act := a1.trans a2.symm
  rcases h1 with h1 | ⟨d1, h1⟩
  · rcases h2 with h2 | ⟨d2, h2⟩
    · cases hd : p.deep with
      | true => exact .inl (implies_mk c1 c2 ha (.inl hd) (.inl (h1.trans h2.symm)))
      | false => exact .inr (implies_mk c2 c1 ha.symm (.inr hd) (.inl (h2.trans h1.symm)))
    · obtain ⟨_, _, h2⟩ := within_iff.1 h2
      exact .inr (implies_mk c2 c1 ha.symm (.inl d2) (.inr ⟨d2, by rw [h1]; exact h2⟩))
  · obtain ⟨_, _, h1⟩ := within_iff.1 h1
    rcases h2 with h2 | ⟨d2, h2⟩
    · exact .inl (implies_mk c1 c2 ha (.inl d1) (.inr ⟨d1, by rw [h2]; exact h1⟩))
    · obtain ⟨_, _, h2⟩ := within_iff.1 h2
      rcases List.prefix_or_prefix_of_prefix h1 h2 with e | e
      · exact .inl (implies_mk c1 c2 ha (.inl d1) (.inr ⟨d1, e⟩))
      · exact .inr (implies_mk c2 c1 ha.symm (.inl d2) (.inr ⟨d2, e⟩))
theorem com_cov {x y : List Perm} (a s : Str) : covL (comL x y) a s = (covL x a s && covL y a s) := by
  rw [Bool.eq_iff_iff, Bool.and_eq_true, covL_iff, covL_iff, covL_iff]
  constructor
  · rintro ⟨z, hz, h⟩
    obtain ⟨p, hp, q, hq, hh⟩ := comL_mem.1 hz
    rcases hh with ⟨hi, rfl⟩ | ⟨hi, rfl⟩
    · exact ⟨⟨p, hp, covers_implied hi h⟩, ⟨_, hq, h⟩⟩
    · exact ⟨⟨_, hp, h⟩, ⟨q, hq, covers_implied hi h⟩⟩
  · rintro ⟨⟨p, hp, h⟩, ⟨q, hq, k⟩⟩
    rcases comparable h k with hi | hi
    · exact ⟨q, comL_mem.2 ⟨p, hp, q, hq, .inl ⟨hi, rfl⟩⟩, k⟩
    · exact ⟨p, comL_mem.2 ⟨p, hp, q, hq, .inr ⟨hi, rfl⟩⟩, h⟩
theorem eqL_comm (a b : List Perm) : (b == a) = (a == b) := by rw [Bool.eq_iff_iff, beq_iff_eq, beq_iff_eq]; exact eq_comm
theorem takeD_succ {l : List Perm} {k : Nat} (h : k < l.length) : l.take (k + 1) = l.take k ++ [l.getD k pz] := by
  rw [List.take_succ_eq_append_getElem h]; simp [List.getD, h]
end Go.Lx
