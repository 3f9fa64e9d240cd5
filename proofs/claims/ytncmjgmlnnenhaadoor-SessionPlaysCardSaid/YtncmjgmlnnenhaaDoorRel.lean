/- What lies above and below each element of an acyclic relation, element after element in its order. No program in sight. -/
import Derived.Test.YtncmjgmlnnenhaaDoorKahn
import Derived.Test.YtncmjgmlnnenhaaDoorTz
namespace Go.Lx
open Go
set_option linter.unusedSimpArgs false
set_option linter.unusedVariables false
set_option linter.unnecessarySimpa false
inductive Rch (ps : List Pr) : Fin 64 → Fin 64 → Prop
  | one {a b : Fin 64} : (a, b) ∈ ps → Rch ps a b
  | snoc {a c b : Fin 64} : Rch ps a c → (c, b) ∈ ps → Rch ps a b
theorem rch_last {ps : List Pr} {c b : Fin 64} : Rch ps c b ↔ ∃ a, (a, b) ∈ ps ∧ (c = a ∨ Rch ps c a) := by
  constructor
  · intro h
    cases h with
    | one h => exact ⟨c, h, .inl rfl⟩
    | snoc h1 h2 => exact ⟨_, h2, .inr h1⟩
  · rintro ⟨a, h, rfl | h2⟩
    · exact .one h
    · exact .snoc h2 h
theorem rch_trans {ps : List Pr} {a b c : Fin 64} (h : Rch ps a b) (k : Rch ps b c) : Rch ps a c := by
  induction k with
  | one k => exact .snoc h k
  | snoc _ k2 ih => exact .snoc ih k2
theorem rch_rank {ps : List Pr} {ρ : Fin 64 → Nat} (hρ : ∀ x ∈ ps, ρ x.1 < ρ x.2) {a b : Fin 64} (h : Rch ps a b) : ρ a < ρ b := by
  induction h with
  | one h => exact hρ _ h
  | snoc _ h2 ih => exact Nat.lt_trans ih (hρ _ h2)
/-- Directly above b, in the order of the pairs. -/
def dlO (ps : List Pr) (b : Fin 64) : List (Fin 64) := (ps.filter fun x => x.2 == b).map (·.1)
theorem mem_dl {ps : List Pr} {a b : Fin 64} : a ∈ dlO ps b ↔ (a, b) ∈ ps := by
  simp only [dlO, List.mem_map, List.mem_filter, beq_iff_eq]
  constructor
  · rintro ⟨x, ⟨h1, h2⟩, h3⟩
    have : x = (a, b) := Prod.ext h3 h2
    exact this ▸ h1
  · exact fun h => ⟨(a, b), ⟨h, rfl⟩, rfl⟩
theorem dl_nil (b : Fin 64) (ps : List Pr) : dlO (ps.take 0) b = [] := rfl
theorem dl_succ {ps : List Pr} {k : Nat} (h : k < ps.length) (b : Fin 64) : dlO (ps.take (k + 1)) b = if b = (ps.getD k pz0).2 then dlO (ps.take k) b ++ [(ps.getD k pz0).1] else dlO (ps.take k) b := by
  rw [takeS h]
  generalize ps.getD k pz0 = y
  by_cases e : b = y.2
  · rw [if_pos e]; simp [dlO, List.filter_append, e]
  · rw [if_neg e]
    have : (y.2 == b) = false := by simpa using fun h => e h.symm
    simp [dlO, List.filter_append, List.filter_cons, this]
def xsO (la : List SV) (i : Nat) : W64 := (la.getD i sz).x
theorem xs_set {la : List SV} {i : Nat} {s : SV} (h : i < la.length) (t : Nat) : xsO (la.set i s) t = if t = i then s.x else xsO la t := by
  unfold xsO
  simp only [List.getD, List.getElem?_set]
  by_cases e : i = t
  · subst e; simp [h]
  · rw [if_neg e, if_neg (fun h => e h.symm)]
def AbOk (ps : List Pr) (srt : List (Fin 64)) (j : Nat) (f : Nat → W64) : Prop := ∀ b c : Fin 64, (f b.val).getLsbD c.val = true ↔ b ∈ srt.take j ∧ Rch ps c b
def BeOk (ps : List Pr) (srt : List (Fin 64)) (j : Nat) (f : Nat → W64) : Prop := ∀ a c : Fin 64, (f a.val).getLsbD c.val = true ↔ c ∈ srt.take j ∧ Rch ps a c
theorem AbOk.start {ps : List Pr} {srt : List (Fin 64)} {f : Nat → W64} (h : ∀ i, i < 64 → f i = 0) : AbOk ps srt 0 f := fun b c => by
  rw [h _ b.isLt]; simp
theorem BeOk.start {ps : List Pr} {srt : List (Fin 64)} {f : Nat → W64} (h : ∀ i, i < 64 → f i = 0) : BeOk ps srt 0 f := fun b c => by
  rw [h _ b.isLt]; simp
/-- The set above b, once m of those directly above it have been taken in. -/
def upA (ps : List Pr) (f : Nat → W64) (b : Fin 64) (m : Nat) : W64 := ((dlO ps b).take m).foldl (fun x a => (x ||| f a.val) ||| oneW a.val) (f b.val)
theorem upA_zero (ps : List Pr) (f : Nat → W64) (b : Fin 64) : upA ps f b 0 = f b.val := rfl
theorem upA_succ {ps : List Pr} {f : Nat → W64} {b a : Fin 64} {m : Nat} (h : (dlO ps b)[m]? = some a) : upA ps f b (m + 1) = (upA ps f b m ||| f a.val) ||| oneW a.val := by
  have : (dlO ps b).take (m + 1) = (dlO ps b).take m ++ [a] := by rw [List.take_add_one, h]; rfl
  rw [upA, this, List.foldl_append]; rfl
theorem fold_bit (f : Nat → W64) (c : Fin 64) : ∀ (l : List (Fin 64)) (x : W64), (l.foldl (fun x a => (x ||| f a.val) ||| oneW a.val) x).getLsbD c.val = true ↔ x.getLsbD c.val = true ∨ ∃ a ∈ l, c = a ∨ (f a.val).getLsbD c.val = true
  | [], x => by simp
  | a :: l, x => by
    rw [List.foldl_cons, fold_bit f c l]
    have e : (oneW a.val).getLsbD c.val = decide (c = a) := by
      rw [oneW_get _ _ a.isLt]
      by_cases h : c = a
      · subst h; simp
      · have : c.val ≠ a.val := fun e => h (Fin.ext e)
        simp [h, this]
    simp only [BitVec.getLsbD_or, e, Bool.or_eq_true, decide_eq_true_eq, List.mem_cons]
    constructor
    · rintro (((h | h) | h) | ⟨a', h1, h2⟩)
      · exact .inl h
      · exact .inr ⟨a, .inl rfl, .inr h⟩
      · exact .inr ⟨a, .inl rfl, .inl h⟩
      · exact .inr ⟨a', .inr h1, h2⟩
    · rintro (h | ⟨a', rfl | h1, h2⟩)
      · exact .inl (.inl (.inl h))
      · rcases h2 with h2 | h2
        · exact .inl (.inr h2)
        · exact .inl (.inl (.inr h2))
      · exact .inr ⟨a', h1, h2⟩
theorem take_snoc {α : Type} {l : List α} {j : Nat} {b : α} (h : l[j]? = some b) : l.take (j + 1) = l.take j ++ [b] := by rw [List.take_add_one, h]; rfl
theorem not_in_take {l : List (Fin 64)} (hn : l.Nodup) {j : Nat} {b : Fin 64} (h : l[j]? = some b) : b ∉ l.take j := by
  intro hm
  have h2 : (l.take (j + 1)).Nodup := hn.sublist (List.take_sublist _ _)
  rw [take_snoc h, List.nodup_append] at h2
  exact h2.2.2 b hm b (by simp) rfl
theorem AbOk.next {ps : List Pr} {srt : List (Fin 64)} {j : Nat} {b : Fin 64} {f g : Nat → W64} (h : AbOk ps srt j f) (ht : Topo ps srt) (hb : srt[j]? = some b) (hg : ∀ i, i < 64 → g i = if i = b.val then upA ps f b (dlO ps b).length else f i) : AbOk ps srt (j + 1) g := by
  intro b' c
  have hnb := not_in_take ht.nd hb
  rw [hg _ b'.isLt, take_snoc hb]
  by_cases e : b' = b
  · subst e
    rw [if_pos rfl, upA, List.take_length, fold_bit]
    constructor
    · rintro (h1 | ⟨a, ha, h1⟩)
      · exact absurd ((h b' c).1 h1).1 hnb
      · refine ⟨by simp, rch_last.2 ⟨a, mem_dl.1 ha, ?_⟩⟩
        rcases h1 with h1 | h1
        · exact .inl h1
        · exact .inr ((h a c).1 h1).2
    · rintro ⟨_, h1⟩
      obtain ⟨a, ha, h2⟩ := rch_last.1 h1
      refine .inr ⟨a, mem_dl.2 ha, ?_⟩
      rcases h2 with h2 | h2
      · exact .inl h2
      · obtain ⟨i, hi, hs⟩ := ht.up j b' hb (a, b') ha rfl
        exact .inr ((h a c).2 ⟨by rw [List.mem_iff_getElem?]; exact ⟨i, by rw [List.getElem?_take, if_pos hi]; exact hs⟩, h2⟩)
  · have : ¬ b'.val = b.val := fun e' => e (Fin.ext e')
    rw [if_neg this, h b' c]
    simp [e]
theorem mem_val {x : W64} {t : Fin 64} : ((t.val : Int) ∈ memW x 64) ↔ x.getLsbD t.val = true := by
  unfold memW
  simp only [List.mem_map, List.mem_filter, List.mem_range]
  constructor
  · rintro ⟨i, ⟨_, h2⟩, h3⟩
    have : i = t.val := by omega
    exact this ▸ h2
  · exact fun h => ⟨t.val, ⟨t.isLt, h⟩, rfl⟩
theorem BeOk.next {ps : List Pr} {srt : List (Fin 64)} {j : Nat} {b : Fin 64} {f g k : Nat → W64} (h : BeOk ps srt j f) (ht : Topo ps srt) (hb : srt[j]? = some b) (ha : AbOk ps srt (j + 1) k) (hg : ∀ i, i < 64 → g i = if (i : Int) ∈ memW (k b.val) 64 then f i ||| oneW b.val else f i) : BeOk ps srt (j + 1) g := by
  intro a c
  have hin : b ∈ srt.take (j + 1) := by rw [take_snoc hb]; simp
  have hm : ((a.val : Int) ∈ memW (k b.val) 64) ↔ Rch ps a b := by
    rw [mem_val, ha b a]; exact ⟨fun h => h.2, fun h => ⟨hin, h⟩⟩
  have e : (oneW b.val).getLsbD c.val = decide (c = b) := by
    rw [oneW_get _ _ b.isLt]
    by_cases h : c = b
    · subst h; simp
    · have : c.val ≠ b.val := fun e => h (Fin.ext e)
      simp [h, this]
  rw [hg _ a.isLt, take_snoc hb]
  by_cases hr : Rch ps a b
  · rw [if_pos (hm.2 hr)]
    simp only [BitVec.getLsbD_or, e, Bool.or_eq_true, decide_eq_true_eq, h a c, List.mem_append, List.mem_singleton]
    constructor
    · rintro (⟨h1, h2⟩ | rfl)
      · exact ⟨.inl h1, h2⟩
      · exact ⟨.inr rfl, hr⟩
    · rintro ⟨h1 | h1, h2⟩
      · exact .inl ⟨h1, h2⟩
      · exact .inr h1
  · rw [if_neg (fun h => hr (hm.1 h)), h a c]
    simp only [List.mem_append, List.mem_singleton]
    constructor
    · rintro ⟨h1, h2⟩; exact ⟨.inl h1, h2⟩
    · rintro ⟨h1 | rfl, h2⟩
      · exact ⟨h1, h2⟩
      · exact absurd h2 hr
/-- The sets below, when all has been taken in. -/
def BelS (ps : List Pr) (f : Nat → W64) : Prop := ∀ a c : Fin 64, (f a.val).getLsbD c.val = true ↔ Rch ps a c
theorem BeOk.done {ps : List Pr} {srt : List (Fin 64)} {f : Nat → W64} (h : BeOk ps srt 64 f) (ht : Topo ps srt) (hl : srt.length = 64) : BelS ps f := fun a c => by
  rw [h a c, List.take_of_length_le (by omega)]
  exact ⟨fun h => h.2, fun h => ⟨ht.all (by omega) c, h⟩⟩
/-- Below, while the first i members of x have been told of b. -/
theorem be_step {l : List Int} {i : Nat} {y : Int} (hn : l.Nodup) (h : l[i]? = some y) (f : Nat → W64) (b : Nat) (t : Nat) :
    (if (t : Int) ∈ l.take (i + 1) then f t ||| oneW b else f t) = if (t : Int) = y then f t ||| oneW b else if (t : Int) ∈ l.take i then f t ||| oneW b else f t := by
  rw [take_snoc h]
  by_cases e : (t : Int) = y
  · simp [e]
  · simp [e]
end Go.Lx
