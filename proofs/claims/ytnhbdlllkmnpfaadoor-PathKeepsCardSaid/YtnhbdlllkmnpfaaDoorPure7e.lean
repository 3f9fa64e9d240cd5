/- The laws of trees, plain. Nothing of a program stands here. -/
import Derived.Test.YtnhbdlllkmnpfaaDoorPure7b
namespace Go.Lx
open Go
set_option linter.unusedSimpArgs false
set_option linter.unusedVariables false
set_option linter.unnecessarySimpa false
theorem within_root {x : Str} (h : splitOk x = true) : withinS x [47] = true := by
  refine within_iff.2 ⟨h, by decide, ?_⟩
  have e : splitL [47] = [] := by decide
  rw [e]; exact List.nil_prefix
theorem below_root {t l : List Str} (h : Tr t l) : belowR l [47] = l := by
  unfold belowR
  rw [List.filter_eq_self]
  intro x hx
  rw [any_iff.2 ((h.eq _).1 h.root), within_root (h.tl.ok x hx)]; rfl
theorem below_all {t l r : List Str} (h : Tr t l) (hr : Srt r (belowT t [47])) : r = l := (below_eq h hr).trans (below_root h)
theorem parent_up {x : Str} (h : (parentS x).2 = true) : splitOk x = true ∧ (splitL x).length ≠ 0 ∧ (parentS x).1 = joinP ((splitL x).take ((splitL x).length - 1)) := by
  unfold parentS at h ⊢
  split at h
  · cases h
  · rename_i hn
    rw [Bool.or_eq_true, not_or] at hn
    refine ⟨by simpa using hn.1, by simpa using hn.2, ?_⟩
    rw [if_neg]
    rw [Bool.or_eq_true, not_or]; exact hn
theorem parent_anc {x : Str} (h : (parentS x).2 = true) : (parentS x).1 ∈ ancS x := by
  obtain ⟨_, h2, h3⟩ := parent_up h
  rw [h3]; unfold ancS
  exact List.mem_map.2 ⟨(splitL x).length - 1, by rw [List.mem_range]; omega, rfl⟩
theorem parent_in {t l : List Str} {x : Str} (h : Tr t l) (hx : x ∈ t) (hu : (parentS x).2 = true) : (parentS x).1 ∈ t := h.up x hx _ (parent_anc hu)
theorem parent_len {x : Str} : (parentS x).1.length ≤ 1000000 := by
  unfold parentS
  split
  · simp
  · have := anc_len (p := x) ((splitL x).length - 1)
    show (joinP _).length ≤ _; omega
theorem child_in {t l : List Str} {x : Str} (h : Tr t l) (hx : x ∈ t) (hu : (parentS x).2 = true) : x ∈ childT t (parentS x).1 := by
  unfold childT
  rw [if_pos (any_iff.2 (parent_in h hx hu)), List.mem_filter]
  exact ⟨hx, by rw [hu]; simp⟩
theorem parent_root {x : Str} (h : splitOk x = true) : (parentS x).2 = false ↔ x = [47] := by
  constructor
  · intro h2
    have h0 : (splitL x).length = 0 := by
      apply Classical.byContradiction
      intro hn
      unfold parentS at h2
      rw [if_neg] at h2
      · cases h2
      · rw [h]; simp
        intro e; rw [e] at hn; exact hn rfl
    have := joinP_split h
    rw [List.eq_nil_of_length_eq_zero h0] at this
    rw [← this]; rfl
  · rintro rfl; decide
/-! The children of all, counted. -/
theorem sum_add {α : Type} (f g : α → Nat) : ∀ l : List α, (l.map fun p => f p + g p).sum = (l.map f).sum + (l.map g).sum
  | [] => rfl
  | a :: r => by simp only [List.map_cons, List.sum_cons, sum_add f g r]; omega
theorem sum_zero {α : Type} : ∀ l : List α, (l.map fun _ => 0).sum = 0
  | [] => rfl
  | a :: r => by simp only [List.map_cons, List.sum_cons, sum_zero r]
theorem sum_ite {α : Type} (f : α → Bool) : ∀ l : List α, (l.map fun p => if f p = true then 1 else 0).sum = (l.filter f).length
  | [] => rfl
  | a :: r => by
    simp only [List.map_cons, List.sum_cons, sum_ite f r, List.filter_cons]
    split <;> simp <;> omega
theorem sum_swap {α β : Type} (f : β → α → Bool) (l : List α) : ∀ t : List β, (l.map fun p => (t.filter fun x => f x p).length).sum = (t.map fun x => (l.filter fun p => f x p).length).sum
  | [] => by simpa using sum_zero l
  | x :: r => by
    have e : (l.map fun p => ((x :: r).filter fun x => f x p).length) = l.map fun p => (if f x p = true then 1 else 0) + (r.filter fun x => f x p).length := by
      refine List.map_congr_left fun p _ => ?_
      rw [List.filter_cons]
      split <;> simp <;> omega
    rw [e, sum_add, sum_ite, sum_swap f l r, List.map_cons, List.sum_cons]
def cntC (t l : List Str) : Nat := 1 + (l.map fun p => (childT t p).length).sum
theorem cnt_succ {t l : List Str} {k : Nat} (h : k < l.length) : cntC t (l.take (k + 1)) = cntC t (l.take k) + (childT t (l.getD k [])).length := by
  unfold cntC
  rw [List.take_succ_eq_append_getElem h, List.map_append, List.sum_append]
  simp [List.getD, h]; omega
theorem cnt_le {t : List Str} : ∀ l : List Str, cntC t l ≤ 1 + l.length * t.length
  | [] => by simp [cntC]
  | p :: r => by
    have h1 := cnt_le (t := t) r
    have h2 : (childT t p).length ≤ t.length := by
      unfold childT
      split
      · exact List.length_filter_le _ _
      · simp
    have h3 : (r.length + 1) * t.length = r.length * t.length + t.length := by rw [Nat.add_mul]; omega
    unfold cntC at h1 ⊢
    simp only [List.map_cons, List.sum_cons, List.length_cons]
    omega
theorem one_of {l : List Str} (h : l.Nodup) (p : Str) : (l.filter fun q => p == q).length = if p ∈ l then 1 else 0 := by
  induction l with
  | nil => rfl
  | cons a r ih =>
    have hn := List.nodup_cons.1 h
    have ih := ih hn.2
    rw [List.filter_cons]
    by_cases e : p = a
    · subst e
      have h0 : (r.filter fun q => p == q).length = 0 := by rw [ih, if_neg hn.1]
      simp [h0]
    · have : (p == a) = false := by simpa using e
      rw [this, if_neg (by decide), ih]
      simp [e]
theorem drop_len {t : List Str} {p : Str} (hn : t.Nodup) (hp : p ∈ t) : (t.filter fun q => q != p).length = t.length - 1 ∧ 1 ≤ t.length := by
  have h1 := one_of hn p
  rw [if_pos hp] at h1
  have h4 : ∀ (m : List Str), (m.filter fun q => p == q).length + (m.filter fun q => q != p).length = m.length := by
    intro m
    induction m with
    | nil => rfl
    | cons a r ih =>
      rw [List.filter_cons, List.filter_cons]
      by_cases e : a = p
      · subst e; simp at ih ⊢; omega
      · have e1 : (p == a) = false := by simpa using fun k => e k.symm
        have e2 : (a != p) = true := by simpa using e
        rw [e1, e2]; simp at ih ⊢; omega
  have := h4 t
  omega
theorem cnt_all {t l : List Str} (h : Tr t l) : cntC t l = l.length := by
  have e1 : (l.map fun p => (childT t p).length) = l.map fun p => (t.filter fun x => (parentS x).2 && (parentS x).1 == p).length := by
    refine List.map_congr_left fun p hp => ?_
    unfold childT
    rw [if_pos (any_iff.2 ((h.eq p).2 hp))]
  have e2 : (t.map fun x => (l.filter fun p => (parentS x).2 && (parentS x).1 == p).length) = t.map fun x => if (x != [47]) = true then 1 else 0 := by
    refine List.map_congr_left fun x hx => ?_
    have hv := h.ok x hx
    cases hu : (parentS x).2 with
    | false =>
      have := (parent_root hv).1 hu
      subst this
      simp
    | true =>
      have hne : x ≠ [47] := fun e => by
        have := (parent_root hv).2 e
        rw [hu] at this; cases this
      have h1 := one_of h.tl.nd (parentS x).1
      rw [if_pos ((h.eq _).1 (parent_in h hx hu))] at h1
      simp only [Bool.true_and]
      rw [h1, if_pos (by simpa using hne)]
  unfold cntC
  rw [e1, sum_swap (fun x p => (parentS x).2 && (parentS x).1 == p) l t, e2, sum_ite]
  have h5 := drop_len h.nd h.root
  have h5a : (t.filter fun x => (x != [47])).length = t.length - 1 := h5.1
  have h5b := h5.2
  have h6 := h.len
  omega
theorem drop_has {t : List Str} {p : Str} : ((t.filter fun q => q != p).any fun q => p == q) = false := by
  rw [any_no]
  intro h
  have := (List.mem_filter.1 h).2
  simp at this
theorem leaf_rem {t l r : List Str} {p : Str} (h : Tr t l) (hp : p ∈ t) (hne : (p == [47]) = false) (hr : Srt r (childT t p)) (h0 : r.length = 0) : remE t p = 0 := by
  have hv := h.ok p hp
  have hb : ¬ 1 < (belowT t p).length := by
    intro hb
    have hall : ∀ x ∈ belowT t p, x = p := by
      intro x hx
      unfold belowT at hx
      rw [if_pos (any_iff.2 hp)] at hx
      obtain ⟨hxt, hw⟩ := List.mem_filter.1 hx
      apply Classical.byContradiction
      intro hxp
      obtain ⟨hxv, _, hpre⟩ := within_iff.1 hw
      have hl : (splitL p).length < (splitL x).length := by
        have h1 := hpre.length_le
        rcases Nat.lt_or_ge (splitL p).length (splitL x).length with h2 | h2
        · exact h2
        · exact absurd (split_inj hv hxv (hpre.eq_of_length (by omega))).symm hxp
      -- the path below p on the way to x is a child of p
      have hy : joinP ((splitL x).take ((splitL p).length + 1)) ∈ t := by
        rcases Nat.lt_or_ge ((splitL p).length + 1) (splitL x).length with h2 | h2
        · exact h.up x hxt _ (by unfold ancS; exact List.mem_map.2 ⟨(splitL p).length + 1, by rw [List.mem_range]; exact h2, rfl⟩)
        · rw [List.take_of_length_le h2, joinP_split hxv]; exact hxt
      have hyv := h.ok _ hy
      have hc : joinP ((splitL x).take ((splitL p).length + 1)) ∈ childT t p := by
        unfold childT
        rw [if_pos (any_iff.2 hp), List.mem_filter]
        refine ⟨hy, (parent_iff hyv hv).2 ?_⟩
        rw [splitL_anc]
        have h3 := List.prefix_iff_eq_take.1 hpre
        refine ⟨?_, by rw [List.length_take]; omega⟩
        rw [List.prefix_iff_eq_take, List.take_take, Nat.min_eq_left (by omega)]
        exact h3
      have := hr.1.mem_iff.2 hc
      rw [List.eq_nil_of_length_eq_zero h0] at this
      cases this
    have hnd : (belowT t p).Nodup := by
      unfold belowT
      rw [if_pos (any_iff.2 hp)]
      exact h.nd.filter _
    match hm : belowT t p, hb with
    | a :: b :: r, _ =>
      rw [hm] at hall hnd
      have h1 := hall a (by simp)
      have h2 := hall b (by simp)
      rw [h1, h2] at hnd
      simp at hnd
  rw [remE_e hv hne (any_iff.2 hp) hb]
theorem leaf_rem2 {t l r : List Str} {p : Str} (h : Tr t l) (hp : p ∈ t) (hr : Srt r (childT t p)) (hc : (((r.length : Int) == 0) && !(p == [47])) = true) : remE t p = 0 := by
  rw [Bool.and_eq_true] at hc
  have h1 : (r.length : Int) = 0 := by simpa using hc.1
  exact leaf_rem h hp (by simpa using hc.2) hr (by omega)
theorem child_le {t : List Str} {p : Str} : (childT t p).length ≤ t.length := by
  unfold childT
  split
  · exact List.length_filter_le _ _
  · simp
theorem cnt_bd {t l : List Str} (ht : t.length ≤ 127) (hl : l.length ≤ 127) : cntC t l ≤ 20000 := by
  have h1 := cnt_le (t := t) l
  have h2 : l.length * t.length ≤ 127 * 127 := Nat.mul_le_mul hl ht
  omega
/-! Two trees with the same paths. -/
def eqT (t u : List Str) : Bool := t.length == u.length && t.all fun p => u.any fun q => p == q
theorem sub_of {t u : List Str} (ht : t.Nodup) (hu : u.Nodup) (hl : t.length = u.length) (hs : ∀ x ∈ t, x ∈ u) : ∀ x ∈ u, x ∈ t := by
  have hp : (u.filter fun x => t.any fun q => x == q).Perm t := (List.perm_ext_iff_of_nodup (hu.filter _) ht).2 fun x => by
    rw [List.mem_filter, any_iff]
    exact ⟨fun h => h.2, fun h => ⟨hs x h, h⟩⟩
  have hlen := hp.length_eq
  rw [hl, List.length_filter_eq_length_iff] at hlen
  exact fun x hx => any_iff.1 (hlen x hx)
theorem eqT_iff {t l u m : List Str} (h : Tr t l) (k : Tr u m) : eqT t u = (l == m) := by
  rw [Bool.eq_iff_iff, beq_iff_eq]
  unfold eqT
  rw [Bool.and_eq_true, beq_iff_eq, List.all_eq_true]
  constructor
  · rintro ⟨h1, h2⟩
    have hs : ∀ x ∈ t, x ∈ u := fun x hx => any_iff.1 (h2 x hx)
    have hs' := sub_of h.nd k.nd h1 hs
    refine Srt.uniq (l := t) h.ok h.srt ⟨k.perm.trans ?_, k.tl.so⟩
    exact (List.perm_ext_iff_of_nodup k.nd h.nd).2 fun x => ⟨hs' x, hs x⟩
  · rintro rfl
    exact ⟨by rw [h.len, k.len], fun x hx => any_iff.2 ((k.eq x).2 ((h.eq x).1 hx))⟩
theorem eqT_comm {t l u m : List Str} (h : Tr t l) (k : Tr u m) : eqT t u = eqT u t := by
  rw [eqT_iff h k, eqT_iff k h, Bool.eq_iff_iff, beq_iff_eq, beq_iff_eq]; exact eq_comm
theorem eqT_self (t : List Str) : eqT t t = true := by
  unfold eqT
  rw [Bool.and_eq_true, List.all_eq_true]
  exact ⟨by simp, fun x hx => any_iff.2 hx⟩
theorem add_same {t l : List Str} {p : Str} (h : Tr t l) (hv : splitOk p = true) : eqT (addT t p) t = t.any fun q => p == q := by
  rw [eqT_iff (h.add hv) h, Bool.eq_iff_iff, beq_iff_eq, any_iff]
  constructor
  · intro e
    rw [h.eq, ← e, mem_addR hv]; exact .inl rfl
  · intro hp
    have hm : ∀ x, x ∈ (addR l p).1 ↔ x ∈ l := fun x => by
      rw [mem_addR hv]
      refine ⟨fun q => ?_, fun q => .inr (.inr q)⟩
      rcases q with rfl | q | q
      · exact (h.eq _).1 hp
      · exact (h.eq _).1 (h.up p hp x q)
      · exact q
    have hb := h.add hv
    exact Srt.uniq (l := l) h.tl.ok ⟨(List.perm_ext_iff_of_nodup hb.tl.nd h.tl.nd).2 hm, hb.tl.so⟩ ⟨List.Perm.refl _, h.tl.so⟩
theorem add_has {t : List Str} {p : Str} : ((addT t p).any fun q => p == q) = true := any_iff.2 (mem_addT.2 (.inl rfl))
/-! The walk through a map, asking another one. -/
def allU (u sn : List Str) : Prop := ∀ x ∈ sn, (u.any fun q => x == q) = true
theorem eqM_len {t u : List Str} (h : ((t.length : Int) != (u.length : Int)) = true) : eqT t u = false := by
  have : (t.length == u.length) = false := by simp at h ⊢; omega
  unfold eqT; rw [this]; rfl
theorem eqM_no {t u : List Str} {x : Str} (hx : x ∈ t) (h : (u.any fun q => x == q) = false) : eqT t u = false := by
  have : (t.all fun p => u.any fun q => p == q) = false := by
    rw [List.all_eq_false]
    exact ⟨x, hx, by rw [h]; simp⟩
  unfold eqT; rw [this, Bool.and_false]
theorem eqM_yes {t u sn : List Str} (hl : ((t.length : Int) != (u.length : Int)) = false) (hp : sn.Perm t) (h : allU u sn) : eqT t u = true := by
  unfold eqT
  rw [Bool.and_eq_true, List.all_eq_true]
  exact ⟨by simp at hl ⊢; omega, fun x hx => h x (hp.mem_iff.2 hx)⟩
theorem allU_succ {u sn : List Str} {x : Str} (h : allU u sn) (hx : (u.any fun q => x == q) = true) : allU u (sn ++ [x]) := by
  intro y hy
  rcases List.mem_append.1 hy with hy | hy
  · exact h y hy
  · have : y = x := by simpa using hy
    rw [this]; exact hx
theorem ext_len {l : List Str} (h : ∀ x ∈ l, x.length ≤ 1000000) (s : Str) {k : Nat} (hk : k < (l ++ [cut7 s, [47, 97], [47, 98, 47, 97]]).length) : ((l ++ [cut7 s, [47, 97], [47, 98, 47, 97]]).getD k []).length ≤ 1000000 := by
  have hm := getD_mem (z := ([] : Str)) hk
  generalize (l ++ [cut7 s, [47, 97], [47, 98, 47, 97]]).getD k [] = p at hm
  rcases List.mem_append.1 hm with h1 | h1
  · exact h _ h1
  · simp at h1
    rcases h1 with rfl | rfl | rfl
    · exact cut7_len s
    · decide
    · decide
end Go.Lx
