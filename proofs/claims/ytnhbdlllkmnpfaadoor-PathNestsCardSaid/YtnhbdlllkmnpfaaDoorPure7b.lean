/- Trees of paths: the set and the reference's list. Nothing of a program stands here. -/
import Derived.Test.YtnhbdlllkmnpfaaDoorSet
namespace Go.Lx
open Go
set_option linter.unusedSimpArgs false
set_option linter.unusedVariables false
set_option linter.unnecessarySimpa false
theorem IsCmp.le_trans {α : Type} {f : α → α → Int} (h : IsCmp f) {a b c : α} (h1 : f a b ≤ 0) (h2 : f b c ≤ 0) : f a c ≤ 0 := by
  by_cases e1 : f a b = 0
  · rw [(h.eq a b).1 e1]; exact h2
  · by_cases e2 : f b c = 0
    · rw [← (h.eq b c).1 e2]; exact h1
    · have := h.tr a b c (by omega) (by omega); omega
theorem cmpP_v {x y : Str} (hx : splitOk x = true) (hy : splitOk y = true) : cmpP x y = cmpL (splitL x) (splitL y) := by unfold cmpP; rw [hx, hy]; rfl
theorem cmpP_tr {x y z : Str} (hx : splitOk x = true) (hy : splitOk y = true) (hz : splitOk z = true) (h1 : cmpP x y ≤ 0) (h2 : cmpP y z ≤ 0) : cmpP x z ≤ 0 := by
  rw [cmpP_v hx hz]; rw [cmpP_v hx hy] at h1; rw [cmpP_v hy hz] at h2
  exact cmpL_is.le_trans h1 h2
theorem cmpP_an {x y : Str} (hx : splitOk x = true) (hy : splitOk y = true) : cmpP y x = - cmpP x y := by
  rw [cmpP_v hx hy, cmpP_v hy hx]; exact cmpL_is.anti _ _
theorem any_iff {l : List Str} {p : Str} : (l.any fun q => p == q) = true ↔ p ∈ l := by
  rw [List.any_eq_true]
  exact ⟨fun ⟨q, h, e⟩ => (by have : p = q := by simpa using e
                              rw [this]; exact h), fun h => ⟨p, h, by simp⟩⟩
theorem any_eq {l m : List Str} (h : ∀ x, x ∈ l ↔ x ∈ m) (p : Str) : (l.any fun q => p == q) = m.any fun q => p == q := by
  rw [Bool.eq_iff_iff, any_iff, any_iff]; exact h p
theorem any_no {l : List Str} {p : Str} : (l.any fun q => p == q) = false ↔ p ∉ l := by
  rw [← any_iff (l := l) (p := p), Bool.not_eq_true]
theorem ixL_tw (l : List Str) (p : Str) : l.take (ixL l p) = l.takeWhile (fun q => lessP q p) ∧ l.drop (ixL l p) = l.dropWhile (fun q => lessP q p) := by
  have h := List.takeWhile_append_dropWhile (p := fun q => lessP q p) (l := l)
  unfold ixL
  generalize l.takeWhile (fun q => lessP q p) = a at h ⊢
  generalize l.dropWhile (fun q => lessP q p) = b at h ⊢
  subst h
  exact ⟨List.take_left, List.drop_left⟩
theorem tw_all (f : Str → Bool) : ∀ (l : List Str) (y : Str), y ∈ l.takeWhile f → f y = true
  | [], y, h => by simp at h
  | c :: r, y, h => by
    rw [List.takeWhile_cons] at h
    split at h
    · rename_i hc
      rcases List.mem_cons.1 h with rfl | h
      · exact hc
      · exact tw_all f r y h
    · simp at h
theorem dw_ge {p : Str} (hp : splitOk p = true) : ∀ (l : List Str), (∀ x ∈ l, splitOk x = true) → l.Pairwise (fun x y => cmpP x y ≤ 0) → ∀ y ∈ l.dropWhile (fun q => lessP q p), cmpP p y ≤ 0
  | [], _, _, y, h => by simp at h
  | c :: r, hv, hs, y, h => by
    rw [List.dropWhile_cons] at h
    split at h
    · exact dw_ge hp r (fun x hx => hv x (by simp [hx])) (List.pairwise_cons.1 hs).2 y h
    · rename_i hc
      have hcp : cmpP p c ≤ 0 := by
        have h1 : ¬ cmpP c p < 0 := by simpa [lessP] using hc
        rw [cmpP_an (hv c (by simp)) hp]; omega
      rcases List.mem_cons.1 h with rfl | h
      · exact hcp
      · exact cmpP_tr hp (hv c (by simp)) (hv y (by simp [h])) hcp ((List.pairwise_cons.1 hs).1 y h)
theorem mem_insP {l : List Str} {p x : Str} : x ∈ insP l p ↔ x = p ∨ x ∈ l := by
  unfold insP
  split
  · rename_i h
    exact ⟨.inr, fun k => k.elim (fun e => e ▸ any_iff.1 h) id⟩
  · rw [List.mem_append, List.mem_append, List.mem_singleton]
    have : x ∈ l ↔ x ∈ l.take (ixL l p) ∨ x ∈ l.drop (ixL l p) := by
      conv => lhs; rw [← List.take_append_drop (ixL l p) l]
      exact List.mem_append
    rw [this]
    constructor
    · rintro ((h | h) | h)
      · exact .inr (.inl h)
      · exact .inl h
      · exact .inr (.inr h)
    · rintro (h | h | h)
      · exact .inl (.inr h)
      · exact .inl (.inl h)
      · exact .inr h
/-- A list of valid paths in order, each once. -/
structure Tl (l : List Str) : Prop where
  ok : ∀ x ∈ l, splitOk x = true
  nd : l.Nodup
  so : l.Pairwise (fun x y => cmpP x y ≤ 0)
theorem Tl.ins {l : List Str} {p : Str} (h : Tl l) (hp : splitOk p = true) : Tl (insP l p) := by
  by_cases ha : (l.any fun q => p == q) = true
  · rw [insP_a ha]; exact h
  · have ha' : p ∉ l := by rwa [any_iff] at ha
    have e : insP l p = l.takeWhile (fun q => lessP q p) ++ ([p] ++ l.dropWhile (fun q => lessP q p)) := by
      rw [insP, if_neg ha, (ixL_tw l p).1, (ixL_tw l p).2, List.append_assoc]
    have hl := List.takeWhile_append_dropWhile (p := fun q => lessP q p) (l := l)
    have hso := h.so
    have hnd := h.nd
    rw [← hl] at hso hnd
    have hso' := List.pairwise_append.1 hso
    have hnd' := List.nodup_append.1 hnd
    have ht : ∀ y ∈ l.takeWhile (fun q => lessP q p), y ∈ l := fun y hy => by rw [← hl]; exact List.mem_append_left _ hy
    have hd : ∀ y ∈ l.dropWhile (fun q => lessP q p), y ∈ l := fun y hy => by rw [← hl]; exact List.mem_append_right _ hy
    refine ⟨fun x hx => (mem_insP.1 hx).elim (fun e => e ▸ hp) (h.ok x), ?_, ?_⟩
    · rw [e, List.nodup_append]
      refine ⟨hnd'.1, ?_, ?_⟩
      · rw [List.singleton_append, List.nodup_cons]
        exact ⟨fun k => ha' (hd _ k), hnd'.2.1⟩
      · intro a h1 b h2
        rcases List.mem_append.1 h2 with h2 | h2
        · have : b = p := by simpa using h2
          subst this
          rintro rfl
          exact ha' (ht _ h1)
        · exact hnd'.2.2 a h1 b h2
    · rw [e, List.pairwise_append]
      refine ⟨hso'.1, ?_, ?_⟩
      · rw [List.singleton_append, List.pairwise_cons]
        exact ⟨fun y hy => dw_ge hp l h.ok h.so y hy, hso'.2.1⟩
      · intro a h1 b h2
        rcases List.mem_append.1 h2 with h2 | h2
        · have : b = p := by simpa using h2
          subst this
          have := tw_all _ l a h1
          have : cmpP a b < 0 := by simpa [lessP] using this
          omega
        · exact hso'.2.2 a h1 b h2
theorem mem_insS {l : List Str} {p x : Str} : x ∈ insS l p ↔ x = p ∨ x ∈ l := by
  unfold insS
  split
  · rename_i h
    exact ⟨.inr, fun k => k.elim (fun e => e ▸ any_iff.1 h) id⟩
  · rw [List.mem_append, List.mem_singleton]; exact or_comm
theorem mem_foldS : ∀ (m l : List Str) (x : Str), x ∈ m.foldl insS l ↔ x ∈ m ∨ x ∈ l
  | [], l, x => by simp
  | c :: r, l, x => by
    rw [List.foldl_cons, mem_foldS r, mem_insS, List.mem_cons]
    constructor
    · rintro (h | h | h) <;> simp [h]
    · rintro ((h | h) | h) <;> simp [h]
theorem mem_foldP : ∀ (m l : List Str) (x : Str), x ∈ m.foldl insP l ↔ x ∈ m ∨ x ∈ l
  | [], l, x => by simp
  | c :: r, l, x => by
    rw [List.foldl_cons, mem_foldP r, mem_insP, List.mem_cons]
    constructor
    · rintro (h | h | h) <;> simp [h]
    · rintro ((h | h) | h) <;> simp [h]
theorem Tl.fold : ∀ {m l : List Str}, Tl l → (∀ x ∈ m, splitOk x = true) → Tl (m.foldl insP l)
  | [], l, h, _ => h
  | c :: r, l, h, hm => by
    rw [List.foldl_cons]
    exact Tl.fold (h.ins (hm c (by simp))) fun x hx => hm x (by simp [hx])
theorem anc_valid {p : Str} : ∀ x ∈ ancS p, splitOk x = true := by
  intro x hx
  obtain ⟨i, _, rfl⟩ := List.mem_map.1 hx
  have := splitL_len p
  exact splitOk_joinP (by rw [List.length_take]; omega) (anc_named i)
theorem mem_addT {t : List Str} {p x : Str} : x ∈ addT t p ↔ x = p ∨ x ∈ ancS p ∨ x ∈ t := by
  unfold addT
  rw [mem_foldS, mem_insS]
  constructor
  · rintro (h | h | h) <;> simp [h]
  · rintro (h | h | h) <;> simp [h]
theorem mem_addR {l : List Str} {p x : Str} (hp : splitOk p = true) : x ∈ (addR l p).1 ↔ x = p ∨ x ∈ ancS p ∨ x ∈ l := by
  rw [addR_b hp]
  show x ∈ insP _ _ ↔ _
  rw [mem_insP, mem_foldP]
/-- The set t (in any order) and the reference's list; above each path its ancestors. -/
structure Tr (t l : List Str) : Prop where
  tl : Tl l
  nd : t.Nodup
  eq : ∀ x, x ∈ t ↔ x ∈ l
  root : [47] ∈ t
  up : ∀ x ∈ t, ∀ a ∈ ancS x, a ∈ t
theorem Tr.ok {t l : List Str} (h : Tr t l) : ∀ x ∈ t, splitOk x = true := fun x hx => h.tl.ok x ((h.eq x).1 hx)
theorem Tr.perm {t l : List Str} (h : Tr t l) : l.Perm t := (List.perm_ext_iff_of_nodup h.tl.nd h.nd).2 fun x => (h.eq x).symm
theorem Tr.srt {t l : List Str} (h : Tr t l) : Srt l t := ⟨h.perm, h.tl.so⟩
theorem Tr.any {t l : List Str} (h : Tr t l) (p : Str) : (t.any fun q => p == q) = l.any fun q => p == q := any_eq h.eq p
theorem Tr.start : Tr [[47]] [[47]] := by
  refine ⟨⟨?_, by decide, by simp⟩, by decide, fun _ => Iff.rfl, by simp, ?_⟩
  · intro x hx; have : x = [47] := by simpa using hx
    subst this; decide
  · intro x hx a ha
    have : x = [47] := by simpa using hx
    subst this
    have e : ancS [47] = [] := by decide
    rw [e] at ha; cases ha
theorem splitL_anc {p : Str} {i : Nat} : splitL (joinP ((splitL p).take i)) = (splitL p).take i := by
  have := splitL_len p
  exact splitL_joinP (by rw [List.length_take]; omega) (anc_named i)
theorem anc_anc {p a b : Str} (ha : a ∈ ancS p) (hb : b ∈ ancS a) : b ∈ ancS p := by
  obtain ⟨i, hi, rfl⟩ := List.mem_map.1 ha
  obtain ⟨j, hj, rfl⟩ := List.mem_map.1 hb
  rw [List.mem_range] at hi hj
  rw [splitL_anc] at hj ⊢
  rw [List.length_take] at hj
  unfold ancS
  rw [List.mem_map]
  refine ⟨j, by rw [List.mem_range]; omega, ?_⟩
  rw [List.take_take]
  congr 2; omega
theorem nd_insS {l : List Str} {p : Str} (h : l.Nodup) : (insS l p).Nodup := by
  unfold insS
  split
  · exact h
  · rename_i hn
    rw [any_iff] at hn
    rw [List.nodup_append]
    exact ⟨h, by simp, fun a ha b hb => by
      have : b = p := by simpa using hb
      subst this; rintro rfl; exact hn ha⟩
theorem nd_foldS : ∀ {m l : List Str}, l.Nodup → (m.foldl insS l).Nodup
  | [], l, h => h
  | c :: r, l, h => nd_foldS (m := r) (nd_insS h)
theorem Tr.add {t l : List Str} {p : Str} (h : Tr t l) (hp : splitOk p = true) : Tr (addT t p) (addR l p).1 := by
  refine ⟨?_, nd_foldS (nd_insS h.nd), ?_, ?_, ?_⟩
  · rw [addR_b hp]
    exact (h.tl.fold anc_valid).ins hp
  · intro x; rw [mem_addT, mem_addR hp, h.eq x]
  · rw [mem_addT]; exact .inr (.inr h.root)
  · intro x hx a ha
    rw [mem_addT] at hx ⊢
    rcases hx with rfl | hx | hx
    · exact .inr (.inl ha)
    · exact .inr (.inl (anc_anc hx ha))
    · exact .inr (.inr (h.up x hx a ha))
theorem below_perm {t l : List Str} (h : Tr t l) (p : Str) : (belowR l p).Perm (belowT t p) := by
  unfold belowR belowT
  rw [h.any]
  by_cases hp : (l.any fun q => p == q) = true
  · rw [if_pos hp]
    have : (fun q => (l.any fun q => p == q) && withinS q p) = fun q => withinS q p := by funext q; rw [hp, Bool.true_and]
    rw [this]; exact h.perm.filter _
  · rw [if_neg hp]
    have e : (l.any fun q => p == q) = false := Bool.not_eq_true _ ▸ hp
    have : (fun q => (l.any fun q => p == q) && withinS q p) = fun q => false := by funext q; rw [e, Bool.false_and]
    rw [this]; simp
theorem below_srt {t l : List Str} (h : Tr t l) (p : Str) : Srt (belowR l p) (belowT t p) := ⟨below_perm h p, h.tl.so.filter _⟩
theorem belowT_sub {t : List Str} {p x : Str} (h : x ∈ belowT t p) : x ∈ t := by
  unfold belowT at h
  split at h
  · exact (List.mem_filter.1 h).1
  · cases h
theorem childT_sub {t : List Str} {p x : Str} (h : x ∈ childT t p) : x ∈ t := by
  unfold childT at h
  split at h
  · exact (List.mem_filter.1 h).1
  · cases h
theorem below_eq {t l r : List Str} {p : Str} (h : Tr t l) (hr : Srt r (belowT t p)) : r = belowR l p :=
  Srt.uniq (fun x hx => h.ok x (belowT_sub hx)) hr (below_srt h p)
theorem rem_eq {t l : List Str} (h : Tr t l) (p : Str) : remE t p = (remR l p).2 := by
  unfold remE remR
  rw [h.any, (below_perm h p).length_eq]
  repeat' split
  all_goals first | rfl | contradiction
theorem remR_list {l : List Str} {p : Str} (h : (remR l p).2 = 0) : (remR l p).1 = l.filter fun q => q != p := by
  unfold remR at h ⊢
  by_cases h1 : (!splitOk p) = true
  · rw [if_pos h1] at h; cases h
  · by_cases h2 : (p == [47]) = true
    · rw [if_neg h1, if_pos h2] at h; cases h
    · by_cases h3 : (!l.any fun q => p == q) = true
      · rw [if_neg h1, if_neg h2, if_pos h3] at h; cases h
      · by_cases h4 : 1 < (belowR l p).length
        · rw [if_neg h1, if_neg h2, if_neg h3, if_pos h4] at h; cases h
        · rw [if_neg h1, if_neg h2, if_neg h3, if_neg h4]
theorem parts_of_rem {t : List Str} {p : Str} (h : remE t p = 0) : splitOk p = true ∧ p ≠ [47] ∧ p ∈ t ∧ (belowT t p).length ≤ 1 := by
  unfold remE at h
  repeat' split at h
  all_goals first | (exact absurd h (by decide)) | skip
  rename_i h1 h2 h3 h4
  refine ⟨by simpa using h1, by simpa using h2, ?_, by omega⟩
  rw [← any_iff]; simpa using h3
theorem within_anc {x p : Str} (hx : splitOk x = true) (hp : p ∈ ancS x) : withinS x p = true ∧ (splitL p).length < (splitL x).length := by
  obtain ⟨i, hi, rfl⟩ := List.mem_map.1 hp
  rw [List.mem_range] at hi
  refine ⟨within_iff.2 ⟨hx, anc_valid _ hp, ?_⟩, ?_⟩
  · rw [splitL_anc]; exact List.take_prefix _ _
  · rw [splitL_anc, List.length_take]; omega
theorem within_self {x : Str} (hx : splitOk x = true) : withinS x x = true := within_iff.2 ⟨hx, hx, List.prefix_refl _⟩
theorem two_len {l : List Str} {a b : Str} (ha : a ∈ l) (hb : b ∈ l) (hne : a ≠ b) : 1 < l.length := by
  match l, ha, hb with
  | [], ha, _ => cases ha
  | [c], ha, hb => exact absurd ((List.mem_singleton.1 ha).trans (List.mem_singleton.1 hb).symm) hne
  | _ :: _ :: _, _, _ => simp
theorem Tr.rem {t l : List Str} {p : Str} (h : Tr t l) (hr : remE t p = 0) : Tr (t.filter fun q => q != p) (remR l p).1 := by
  obtain ⟨hp, hne, hm, hb⟩ := parts_of_rem hr
  rw [rem_eq h] at hr
  rw [remR_list hr]
  refine ⟨⟨fun x hx => h.tl.ok x (List.mem_filter.1 hx).1, h.tl.nd.filter _, h.tl.so.filter _⟩, h.nd.filter _, ?_, ?_, ?_⟩
  · intro x; rw [List.mem_filter, List.mem_filter, h.eq]
  · rw [List.mem_filter]; exact ⟨h.root, by simpa using fun e => hne e.symm⟩
  · intro x hx a ha
    rw [List.mem_filter] at hx ⊢
    refine ⟨h.up x hx.1 a ha, ?_⟩
    have : a ≠ p := by
      rintro rfl
      have hv := h.ok x hx.1
      obtain ⟨h1, h2⟩ := within_anc hv ha
      have hxa : x ≠ a := by rintro rfl; omega
      have hb' := hb
      unfold belowT at hb'
      rw [if_pos (any_iff.2 hm)] at hb'
      have := two_len (List.mem_filter.2 ⟨hx.1, h1⟩ : x ∈ t.filter fun x => withinS x a) (List.mem_filter.2 ⟨hm, within_self hp⟩) hxa
      omega
    simpa using this
theorem parent_iff {x p : Str} (hx : splitOk x = true) (hp : splitOk p = true) : ((parentS x).2 && (parentS x).1 == p) = true ↔ splitL p <+: splitL x ∧ (splitL x).length = (splitL p).length + 1 := by
  unfold parentS
  by_cases h0 : (splitL x).length = 0
  · rw [if_pos (by simp [h0])]
    simp; intro _; omega
  · rw [if_neg (by rw [hx]; simp; intro e; rw [e] at h0; exact h0 rfl)]
    rw [Bool.true_and, beq_iff_eq]
    constructor
    · rintro rfl
      rw [splitL_anc, List.length_take]
      exact ⟨List.take_prefix _ _, by omega⟩
    · rintro ⟨h1, h2⟩
      have h3 := List.prefix_iff_eq_take.1 h1
      have h4 : (splitL p).length = (splitL x).length - 1 := by omega
      rw [← h4, ← h3, joinP_split hp]
theorem child_iff {x p : Str} (hx : splitOk x = true) (hp : splitOk p = true) : ((parentS x).2 && (parentS x).1 == p) = (withinS x p && (((splitL x).length : Int) == (splitL p).length + 1)) := by
  rw [Bool.eq_iff_iff, parent_iff hx hp, Bool.and_eq_true, within_iff]
  constructor
  · rintro ⟨h1, h2⟩; exact ⟨⟨hx, hp, h1⟩, by simp; omega⟩
  · rintro ⟨⟨_, _, h1⟩, h2⟩; exact ⟨h1, by simp at h2; omega⟩
def childR (l : List Str) (p : Str) : List Str := (l.filter fun q => (l.any fun q => p == q) && withinS q p).filter fun q => ((splitL q).length : Int) == (splitL p).length + 1
theorem child_srt {t l : List Str} (h : Tr t l) (p : Str) : Srt (childR l p) (childT t p) := by
  refine ⟨?_, (h.tl.so.filter _).filter _⟩
  unfold childR childT
  rw [h.any, List.filter_filter]
  by_cases hp : (l.any fun q => p == q) = true
  · rw [if_pos hp]
    have hpv := h.tl.ok p (any_iff.1 hp)
    have : l.filter (fun q => (((splitL q).length : Int) == (splitL p).length + 1) && ((l.any fun q => p == q) && withinS q p)) = l.filter fun x => (parentS x).2 && (parentS x).1 == p := by
      refine List.filter_congr fun x hx => ?_
      rw [hp, Bool.true_and, child_iff (h.tl.ok x hx) hpv, Bool.and_comm]
    rw [this]; exact h.perm.filter _
  · rw [if_neg hp]
    have e : (l.any fun q => p == q) = false := Bool.not_eq_true _ ▸ hp
    rw [e]; simp
theorem child_eq {t l r : List Str} {p : Str} (h : Tr t l) (hr : Srt r (childT t p)) : r = childR l p :=
  Srt.uniq (fun x hx => h.ok x (childT_sub hx)) hr (child_srt h p)
theorem Tr.len {t l : List Str} (h : Tr t l) : t.length = l.length := h.perm.length_eq.symm
theorem path_len {p : Str} (h : splitOk p = true) : p.length ≤ 1000000 := by
  have := anc_len (p := p) (splitL p).length
  rw [List.take_length, joinP_split h] at this
  omega
theorem Tr.okl {t l : List Str} (h : Tr t l) : ∀ x ∈ t, splitOk x = true ∧ x.length ≤ 1000000 := fun x hx => ⟨h.ok x hx, path_len (h.ok x hx)⟩
theorem Tr.lokl {t l : List Str} (h : Tr t l) : ∀ x ∈ l, x.length ≤ 1000000 := fun x hx => path_len (h.tl.ok x hx)
theorem addT_len (t : List Str) (p : Str) : (addT t p).length ≤ t.length + 9 := by
  have h : ∀ (m l : List Str), (m.foldl insS l).length ≤ l.length + m.length := by
    intro m
    induction m with
    | nil => intro l; simp
    | cons c r ih =>
      intro l
      have h1 := ih (insS l c)
      have h2 : (insS l c).length ≤ l.length + 1 := by unfold insS; split <;> simp
      simp only [List.foldl_cons, List.length_cons]; omega
  have h1 := h (ancS p) (insS t p)
  have h2 : (insS t p).length ≤ t.length + 1 := by unfold insS; split <;> simp
  have h3 := ancS_len p
  have h4 := splitL_len p
  unfold addT; omega
theorem cS_bd (a b : Str) : -1 ≤ cmpS a b ∧ cmpS a b ≤ 1 := by
  rcases cmpS_cases a b with ⟨h, _⟩ | ⟨h, _⟩ | ⟨h, _⟩ <;> omega
theorem cL_bd : ∀ (a b : List Str), -1 ≤ cmpL a b ∧ cmpL a b ≤ 1
  | [], [] => by simp [cmpL]
  | [], _ :: _ => by simp [cmpL]
  | _ :: _, [] => by simp [cmpL]
  | x :: a, y :: b => by
    rw [cmpL]
    split
    · exact cS_bd x y
    · exact cL_bd a b
theorem cP_bd (p q : Str) : -1 ≤ cmpP p q ∧ cmpP p q ≤ 1 := by
  unfold cmpP
  repeat' split
  all_goals first | exact cL_bd _ _ | exact cS_bd _ _ | omega
theorem cP_anti (p q : Str) : cmpP q p = - cmpP p q := by
  unfold cmpP
  cases splitOk p <;> cases splitOk q <;> simp
  · exact cmpS_is.anti p q
  · exact cmpL_is.anti _ _
/-- PathCompares. -/
theorem law_cmp (p q : Str) : ((cmpP p q == (if lessP p q then (-1 : Int) else if lessP q p then 1 else 0)) && (cmpP q p == - (if lessP p q then (-1 : Int) else if lessP q p then 1 else 0))) = true := by
  have h1 := cP_bd p q
  have h2 := cP_anti p q
  unfold lessP
  rw [h2]
  by_cases h : cmpP p q < 0
  · rw [if_pos (by simpa using h)]; simp; omega
  · rw [if_neg (by simpa using h)]
    by_cases h' : - cmpP p q < 0
    · rw [if_pos (by simpa using h')]; simp; omega
    · rw [if_neg (by simpa using h')]; simp; omega
theorem pre_cmp : ∀ {a b : List Str}, a <+: b → cmpL a b ≤ 0
  | [], [], _ => by simp [cmpL]
  | [], _ :: _, _ => by simp [cmpL]
  | _ :: _, [], h => by simp at h
  | x :: a, y :: b, h => by
    obtain ⟨rfl, h'⟩ := List.cons_prefix_cons.1 h
    have h0 : cmpS x x = 0 := (cmpS_is.eq x x).2 rfl
    simp only [cmpL, h0, bne_self_eq_false, Bool.false_eq_true, if_false]
    exact pre_cmp h'
theorem pre_mid : ∀ {a b c : List Str}, a <+: c → cmpL a b ≤ 0 → cmpL b c ≤ 0 → a <+: b
  | [], _, _, _, _, _ => List.nil_prefix
  | _ :: _, _, [], h, _, _ => by simp at h
  | x :: a, [], z :: c, _, h1, _ => by simp [cmpL] at h1
  | x :: a, y :: b, z :: c, h, h1, h2 => by
    obtain ⟨rfl, h'⟩ := List.cons_prefix_cons.1 h
    have h3 := cmpS_is.anti x y
    by_cases h0 : cmpS x y = 0
    · have h0' : cmpS y x = 0 := by omega
      simp only [cmpL, h0, h0', bne_self_eq_false, Bool.false_eq_true, if_false] at h1 h2
      rw [(cmpS_is.eq x y).1 h0]
      exact List.cons_prefix_cons.2 ⟨rfl, pre_mid h' h1 h2⟩
    · have e1 : (cmpS x y != 0) = true := by simpa using h0
      have e2 : (cmpS y x != 0) = true := by simp; omega
      simp only [cmpL, e1, e2, if_true] at h1 h2
      omega
theorem common_ge : ∀ {c a b : List Str}, c <+: a → c <+: b → c.length ≤ commonS a b
  | [], _, _, _, _ => Nat.zero_le _
  | _ :: _, [], _, h, _ => by simp at h
  | _ :: _, _ :: _, [], _, h => by simp at h
  | z :: c, x :: a, y :: b, h1, h2 => by
    obtain ⟨e1, h1'⟩ := List.cons_prefix_cons.1 h1
    obtain ⟨e2, h2'⟩ := List.cons_prefix_cons.1 h2
    subst e1 e2
    have := common_ge h1' h2'
    rw [commonS, if_pos BEq.rfl, List.length_cons]; omega
theorem common_pre : ∀ (a b : List Str), a.take (commonS a b) <+: b
  | [], _ => by simp
  | _ :: _, [] => by simp [commonS]
  | x :: a, y :: b => by
    by_cases h : x = y
    · subst h
      simp only [commonS, BEq.rfl, if_true, List.take_succ_cons]
      exact List.cons_prefix_cons.2 ⟨rfl, common_pre a b⟩
    · have : (x == y) = false := by simpa using h
      simp [commonS, this]
theorem pre_tr {a b c : List Str} (h : a <+: b) (k : b <+: c) : a <+: c := h.trans k
section
variable {a b c : Str} (ha : splitOk a = true) (hb : splitOk b = true) (hc : splitOk c = true)
include ha hb
theorem law_ord0 (h : cmpP a b = 0) : a = b := by
  rw [cmpP_v ha hb] at h
  exact split_inj ha hb ((cmpL_is.eq _ _).1 h)
theorem law_ord2 (h : withinS b a = true) : cmpP a b ≤ 0 := by
  rw [cmpP_v ha hb]; exact pre_cmp (within_iff.1 h).2.2
theorem common_v : splitOk (commonP a b) = true ∧ splitL (commonP a b) = (splitL a).take (commonS (splitL a) (splitL b)) := by
  rw [commonP_b (by rw [ha, hb]; rfl)]
  have := splitL_len a
  exact ⟨splitOk_joinP (by rw [List.length_take]; omega) (anc_named _), splitL_anc⟩
theorem law_com1 : withinS a (commonP a b) = true := by
  obtain ⟨h1, h2⟩ := common_v ha hb
  exact within_iff.2 ⟨ha, h1, by rw [h2]; exact List.take_prefix _ _⟩
theorem law_com2 : withinS b (commonP a b) = true := by
  obtain ⟨h1, h2⟩ := common_v ha hb
  exact within_iff.2 ⟨hb, h1, by rw [h2]; exact common_pre _ _⟩
include hc
theorem law_ord1 (h1 : cmpP a b ≤ 0) (h2 : cmpP b c ≤ 0) : cmpP a c ≤ 0 := cmpP_tr ha hb hc h1 h2
theorem law_ord3 (h : withinS c a = true) (h1 : cmpP a b ≤ 0) (h2 : cmpP b c ≤ 0) : withinS b a = true := by
  rw [cmpP_v ha hb] at h1
  rw [cmpP_v hb hc] at h2
  exact within_iff.2 ⟨hb, ha, pre_mid (within_iff.1 h).2.2 h1 h2⟩
theorem law_com3 (h1 : withinS a c = true) (h2 : withinS b c = true) : withinS (commonP a b) c = true := by
  obtain ⟨h3, h4⟩ := common_v ha hb
  refine within_iff.2 ⟨h3, hc, ?_⟩
  rw [h4, List.prefix_iff_eq_take]
  have h5 := (within_iff.1 h1).2.2
  have h6 := common_ge h5 (within_iff.1 h2).2.2
  rw [List.take_take, Nat.min_eq_left h6]
  exact List.prefix_iff_eq_take.1 h5
end
/-! What a list of bytes makes. -/
def pieces7 : List Str := [[97], [98], [97, 98], [97, 45, 98], [99, 46, 100]]
def piece7 (b : UInt8) : Str := pieces7.getD (b.toNat % 5) []
def makeL (p : List UInt8) : List Str := ((p.take (1 + (p.getD 0 0).toNat % 5)).drop 1).map piece7
def makeS (p : List UInt8) : Str := joinP (makeL p)
theorem piece_in (b : UInt8) : piece7 b ∈ pieces7 := getD_mem (z := []) (l := pieces7) (Nat.mod_lt _ (by decide))
theorem piece_named (b : UInt8) : namedS (piece7 b) = true := (by decide +kernel : ∀ x ∈ pieces7, namedS x = true) _ (piece_in b)
theorem makeL_len (p : List UInt8) : (makeL p).length ≤ 4 := by
  unfold makeL
  rw [List.length_map, List.length_drop, List.length_take]
  have : (p.getD 0 0).toNat % 5 < 5 := Nat.mod_lt _ (by decide)
  omega
theorem makeL_named (p : List UInt8) : (makeL p).all namedS = true := by
  unfold makeL
  rw [List.all_map, List.all_eq_true]
  exact fun x _ => piece_named x
theorem make_ok7 (p : List UInt8) : splitOk (makeS p) = true := splitOk_joinP (by have := makeL_len p; omega) (makeL_named p)
theorem make_len7 (p : List UInt8) : (makeS p).length ≤ 1000000 := path_len (make_ok7 p)
theorem mk_succ {p : List UInt8} {k : Nat} (h1 : 1 ≤ k) (h : k < p.length) : ((p.take (k + 1)).drop 1).map piece7 = ((p.take k).drop 1).map piece7 ++ [piece7 (p.getD k 0)] := by
  rw [List.take_succ_eq_append_getElem h, List.drop_append_of_le_length (by rw [List.length_take]; omega), List.map_append]
  simp [List.getD, h]
theorem mk_end {p : List UInt8} {k : Nat} (h1 : 1 ≤ k) (hk : k ≤ 1 + (p.getD 0 0).toNat % 5) (h : ¬ (k < p.length ∧ k ≤ (p.getD 0 0).toNat % 5)) : ((p.take k).drop 1).map piece7 = makeL p := by
  unfold makeL
  by_cases e : k = 1 + (p.getD 0 0).toNat % 5
  · rw [e]
  · have : p.length ≤ k := by omega
    rw [List.take_of_length_le this, List.take_of_length_le (by omega)]
theorem mk_zero (p : List UInt8) : [] = ((p.take 1).drop 1).map piece7 := by
  rw [List.drop_of_length_le (by rw [List.length_take]; omega)]; rfl
theorem mk_yes {p : List UInt8} {k : Nat} (h : (decide ((k : Int) < p.length) && decide ((k : Int) ≤ (((p.getD 0 0).toNat % 5 : Nat) : Int))) = true) : k < p.length ∧ k ≤ (p.getD 0 0).toNat % 5 := by
  rw [Bool.and_eq_true] at h
  have h1 := of_decide_eq_true h.1
  have h2 := of_decide_eq_true h.2
  omega
theorem mk_no {p : List UInt8} {k : Nat} (h : (decide ((k : Int) < p.length) && decide ((k : Int) ≤ (((p.getD 0 0).toNat % 5 : Nat) : Int))) = false) : ¬ (k < p.length ∧ k ≤ (p.getD 0 0).toNat % 5) := by
  rw [Bool.and_eq_false_iff] at h
  rcases h with h | h
  · have := of_decide_eq_false h; omega
  · have := of_decide_eq_false h; omega
def cut7 (s : Str) : Str := s.take (min s.length 200)
theorem cut7_len (s : Str) : (cut7 s).length ≤ 1000000 := by unfold cut7; rw [List.length_take]; omega
theorem mk_mem {p : List UInt8} {k : Nat} : ∀ q ∈ ((p.take k).drop 1).map piece7, q.length ≤ 1000000 := by
  intro q hq
  obtain ⟨b, _, rfl⟩ := List.mem_map.1 hq
  have := named_len12 (piece_named b)
  omega
theorem mk_len {p : List UInt8} (k : Nat) (hk : k ≤ 5) : (joinP (((p.take k).drop 1).map piece7)).length ≤ 1000000 := by
  have h1 := joinP_len (((p.take k).drop 1).map piece7) 12 (fun q hq => by
    obtain ⟨b, _, rfl⟩ := List.mem_map.1 hq
    exact named_len12 (piece_named b))
  rw [List.length_map, List.length_drop, List.length_take] at h1
  have h2 : (min k p.length - 1) * (12 + 1) ≤ 4 * (12 + 1) := Nat.mul_le_mul_right _ (by omega)
  omega
theorem law_tell1 {p : Str} (h : splitOk p = true) (h2 : (0 : Int) < ((splitL p).length : Int)) : parentS p = (joinP ((splitL p).take ((splitL p).length - 1)), true) := by
  apply parent_b
  rw [h]
  simp
  intro e; rw [e] at h2; simp at h2
theorem law_tell2 {p : Str} (h : splitOk p = true) (h2 : ¬ (0 : Int) < ((splitL p).length : Int)) : parentS p = ([], false) := by
  apply parent_a
  have : (splitL p).length = 0 := by omega
  rw [h, this]; rfl
theorem law_tell3 {p : Str} (h : splitOk p = false) : parentS p = ([], false) := by
  apply parent_a
  rw [h]; rfl
/-- Three slices of bytes, as they lie in memory. -/
structure Three7 where
  a0 : Option Addr
  c0 : Nat
  l0 : List UInt8
  a1 : Option Addr
  c1 : Nat
  l1 : List UInt8
  a2 : Option Addr
  c2 : Nat
  l2 : List UInt8
def enc37 (x : Three7) : List Value := [.slice x.a0 x.l0.length x.c0, .slice x.a1 x.l1.length x.c1, .slice x.a2 x.l2.length x.c2]
theorem law_com {a b c : Str} (ha : splitOk a = true) (hb : splitOk b = true) (hc : splitOk c = true) : (((splitOk a && splitOk b) && withinS a (commonP a b)) && withinS b (commonP a b) && ((!withinS a c || !withinS b c) || withinS (commonP a b) c)) = true := by
  rw [law_com1 ha hb, law_com2 ha hb, ha, hb]
  cases h1 : withinS a c
  · rfl
  · cases h2 : withinS b c
    · rfl
    · rw [law_com3 ha hb hc h1 h2]; rfl
theorem sl_none {α : Type} {enc : α → List Value} {k c : Nat} {F : Nat → Prop} {w : World} {a : Option Addr} {l : List α} (h : Sl enc k F w a c l) (e : a.isNone = true) : l = [] := by
  have h0 : a = none := by cases a with
    | none => rfl
    | some a => cases e
  have h1 := h.nil h0
  have h2 := h.le
  exact List.eq_nil_of_length_eq_zero (by omega)
theorem commonP_len (p q : Str) : (commonP p q).length ≤ 1000000 := by
  unfold commonP
  split
  · simp
  · have := anc_len (p := p) (commonS (splitL p) (splitL q)); omega
def cut40 (s : Str) : Str := s.take (min s.length 40)
def joinX (l : List Str) : List Str := (l.take 12).map cut40
theorem joinX_len (l : List Str) : (joinX l).length ≤ 12 := by unfold joinX; rw [List.length_map, List.length_take]; omega
theorem joinX_ok (l : List Str) : ∀ p ∈ joinX l, p.length ≤ 40 := by
  intro p hp
  obtain ⟨s, _, rfl⟩ := List.mem_map.1 hp
  unfold cut40; rw [List.length_take]; omega
theorem joinX_jlen (l : List Str) : (joinP (joinX l)).length ≤ 1000 := by
  have h1 := joinP_len (joinX l) 40 (joinX_ok l)
  have h2 : (joinX l).length * (40 + 1) ≤ 12 * (40 + 1) := Nat.mul_le_mul_right _ (joinX_len l)
  omega
theorem joinE_len {l : List Str} (h : (joinP l).length ≤ 1000) : (joinE l).1.length ≤ 1000000 := by
  unfold joinE
  repeat' split
  · simp
  · show (joinP l).length ≤ _; omega
  · simp
theorem joinE_err {l : List Str} (h : (joinE l).2 ≠ 0) : (joinE l).1 = [] := by
  unfold joinE at h ⊢
  repeat' split
  · rfl
  · rename_i h1 h2; rw [if_neg h1, if_pos h2] at h; exact absurd rfl h
  · rfl
theorem joinE_ok {l : List Str} (h : (joinE l).2 = 0) : joinE l = (joinP l, 0) ∧ splitL (joinP l) = l := by
  unfold joinE at h
  by_cases h1 : 8 < l.length
  · rw [if_pos h1] at h; cases h
  · by_cases h2 : l.all namedS = true
    · exact ⟨by rw [joinE, if_neg h1, if_pos h2], splitL_joinP (by omega) h2⟩
    · rw [if_neg h1, if_neg h2] at h; cases h
theorem takeM_succ {l : List Str} {f : Str → Str} {k : Nat} (h : k < l.length) : (l.take (k + 1)).map f = (l.take k).map f ++ [f (l.getD k [])] := by
  rw [List.take_succ_eq_append_getElem h, List.map_append]
  simp [List.getD, h]
/-- An operation on trees, as it lies in memory. -/
structure OpV where
  rem : Bool
  a : Option Addr
  c : Nat
  path : List UInt8
  raw : Str
def encO (x : OpV) : List Value := [.bool x.rem, .slice x.a x.path.length x.c, str x.raw]
theorem encO_ok : EncOk encO 3 := ⟨by decide, fun _ => rfl, fun x u hu => by
  simp [encO] at hu
  rcases hu with rfl | rfl | rfl <;> rfl⟩
def oz : OpV := ⟨false, none, 0, [], []⟩
def OpV.of (x : OpV) : Str := if x.raw == [] then makeS x.path else cut7 x.raw
theorem OpV.of_a {x : OpV} (h : (!(x.raw == [])) = true) : x.of = cut7 x.raw := by unfold OpV.of; rw [if_neg]; simpa using h
theorem OpV.of_b {x : OpV} (h : (!(x.raw == [])) = false) : x.of = makeS x.path := by unfold OpV.of; rw [if_pos]; simpa using h
theorem of_len (x : OpV) : x.of.length ≤ 1000000 := by
  unfold OpV.of
  split
  · exact make_len7 _
  · exact cut7_len _
end Go.Lx
