/- Permissions, more: the text of a permission is read back. Nothing of a program stands here. -/
import Derived.Test.YtgnphpimkfcmlaaDoorPure11e
namespace Go.Lx
open Go
set_option linter.unusedSimpArgs false
set_option linter.unusedVariables false
set_option linter.unnecessarySimpa false
theorem nm_no32 {l : Str} (h : nmS l = true) : (32 : UInt8) ∉ l := by
  intro hm
  simp only [nmS, Bool.and_eq_true, List.all_eq_true] at h
  have := h.1.2 32 hm
  revert this; decide
theorem ib_app {c : UInt8} : ∀ {a r : Str}, c ∉ a → Lib.indexByte (a ++ c :: r) c = a.length
  | [], r, _ => by simp [Lib.indexByte]
  | x :: a, r, h => by
    have hx : (x == c) = false := by
      rw [beq_eq_false_iff_ne]; rintro rfl; exact h (by simp)
    have ih := ib_app (c := c) (a := a) (r := r) (fun hm => h (by simp [hm]))
    simp only [List.cons_append, Lib.indexByte, hx, ih]
    have : ¬ ((a.length : Int) = -1) := by omega
    simp [this]
theorem cutS_app {c : UInt8} {a r : Str} (h : c ∉ a) : cutS c (a ++ c :: r) = (a, r, true) := by
  unfold cutS
  rw [ib_app h, if_neg (by omega)]
  simp
theorem join_all {q : UInt8 → Bool} (h0 : q 47 = true) : ∀ (l : List Str), (∀ s ∈ l, s.all q = true) → (Lib.join l [47]).all q = true
  | [], _ => by simp [Lib.join]
  | [a], h => by simpa [Lib.join] using h a (by simp)
  | a :: b :: r, h => by
    have ih := join_all h0 (b :: r) (fun s hs => h s (by simp [hs]))
    have ha := h a (by simp)
    have e : Lib.join (a :: b :: r) [47] = a ++ [47] ++ Lib.join (b :: r) [47] := by simp [Lib.join]
    rw [e, List.all_append, List.all_append, ha, ih]
    simp [h0]
theorem path_no42 {p : Str} (h : splitOk p = true) : (42 : UInt8) ∉ p := by
  intro hm
  rw [← joinP_split h] at hm
  unfold joinP at hm
  have hj := join_all (q := fun c => c != 42) (by decide) (splitL p) (fun s hs => by
    have h1 := List.all_eq_true.1 (splitL_named (p := p)) s hs
    simp only [namedS, Bool.and_eq_true, List.all_eq_true] at h1
    rw [List.all_eq_true]
    intro c hc
    have h2 := h1.2 c hc
    by_cases e : c = 42
    · subst e; revert h2; decide
    · simp [e])
  rw [List.all_eq_true] at hj
  rcases List.mem_cons.1 hm with e | e
  · revert e; decide
  · exact absurd (hj 42 e) (by decide)
theorem hasSuf_mem {s p : Str} {c : UInt8} (hc : c ∈ p) (h : hasSuf s p = true) : c ∈ s := by
  simp only [hasSuf, Bool.and_eq_true, beq_iff_eq] at h
  rw [← h.2] at hc
  exact List.mem_of_mem_drop hc
theorem hasSuf_app (x s : Str) : hasSuf (x ++ s) s = true := by
  simp [hasSuf]
  omega
theorem cutSuf_app (x s : Str) : cutSuf (x ++ s) s = x := by
  rw [cutSuf, if_pos (hasSuf_app x s)]; simp
theorem textS_len (x : Perm) : (textS x).length ≤ x.act.length + x.path.length + 3 := by
  unfold textS
  split
  · simp
  · split
    · simp; omega
    · split <;> (simp; try omega)
theorem text_rl {x : RawV} : (textS x.perm).length ≤ 1000000 := by
  have h := textS_len x.perm
  have h1 := actionS_len x.act
  have h2 := pathS_len x.names
  change (textS x.perm).length ≤ (actionS x.act).length + (pathS x.names).length + 3 at h
  omega
theorem path_ne {p : Str} (h : splitOk p = true) : p ≠ [] := by rintro rfl; revert h; decide
theorem text_parse0 {p : Perm} (h : checkS p = 0) : parse0 (textS p) = p := by
  obtain ⟨hp, _, hn⟩ := check_path h
  have h32 := nm_no32 hn
  have h42 := path_no42 hp
  have hne := path_ne hp
  obtain ⟨a, q, d⟩ := p
  simp only at hp hn h32 h42 hne
  have key : ∀ r : Str, cutS 32 (a ++ [32] ++ r) = (a, r, true) := fun r => by
    have := cutS_app (r := r) h32
    simpa using this
  unfold textS
  rw [if_neg (by rw [h]; simp)]
  cases d with
  | false =>
    have hs : hasSuf q [47, 42] = false := by
      cases e : hasSuf q [47, 42] with
      | false => rfl
      | true => exact absurd (hasSuf_mem (c := 42) (by simp) e) h42
    simp only [parse0, Bool.not_false, if_true, key, hs]
    rfl
  | true =>
    rw [if_neg (by simp)]
    by_cases e : q = [47]
    · subst e
      have e1 : a ++ [32] ++ [47] ++ [42] = a ++ [32] ++ [47, 42] := by simp
      simp only [BEq.rfl, if_true, e1, parse0, key]
      rfl
    · rw [if_neg (by simpa using e)]
      have e1 : a ++ [32] ++ q ++ [47, 42] = a ++ [32] ++ (q ++ [47, 42]) := by simp
      simp only [e1, parse0, key, hasSuf_app, cutSuf_app, if_true]
      rw [if_neg (by simpa using hne)]
theorem text_ne {p : Perm} (h : checkS p = 0) : (textS p == []) = false := by
  rw [beq_eq_false_iff_ne]
  intro e
  have := text_parse0 h
  rw [e] at this
  have h2 : checkS (parse0 []) = 0 := by rw [this]; exact h
  revert h2; decide
theorem text_parse {p : Perm} (h : checkS p = 0) : parseS (textS p) = (p, 0) := by
  rw [parseS_good (by rw [text_parse0 h, text_ne h]; simp), text_parse0 h]
theorem text_bad {p : Perm} (h : ¬ checkS p = 0) : textS p = [] := by unfold textS; rw [if_pos (by simpa using h)]
theorem parse_nil : parseS [] = (pz, 6) := by decide +kernel
theorem parseS_ok {s : Str} (h : s.length ≤ 1000000) : (parseS s).1.ok := by
  unfold parseS
  split
  · exact ⟨by decide, by decide⟩
  · exact parse0_ok h
theorem text_law (s : Str) : ((((parseS s).2 != 0) && (((parseS s).2 != 6) || !((parseS s).1 == pz))) || (((parseS s).2 == 0) && !(textS (parseS s).1 == s))) = false := by
  by_cases h : parseBad s = true
  · simp [parseS, if_pos h]
  · have h' : parseBad s = false := by simpa using h
    simp only [parseS, if_neg h]
    unfold parseBad at h'
    simp only [Bool.or_eq_false_iff] at h'
    rw [h'.2]; simp
theorem anc_named {p : Str} (i : Nat) : ((splitL p).take i).all namedS = true := by
  have h := splitL_named (p := p)
  rw [List.all_eq_true] at h ⊢
  exact fun x hx => h x (List.mem_of_mem_take hx)
theorem anc_len {p : Str} (i : Nat) : (joinP ((splitL p).take i)).length ≤ 200 := by
  have h1 := joinP_len ((splitL p).take i) 12 (fun s hs => by
    have := List.all_eq_true.1 (anc_named (p := p) i) s hs
    simp only [namedS, Bool.and_eq_true, Bool.not_eq_true', Bool.or_eq_false_iff, decide_eq_false_iff_not] at this
    omega)
  have h2 := splitL_len p
  rw [List.length_take] at h1
  have h3 : min i (splitL p).length ≤ 8 := by omega
  have h4 : min i (splitL p).length * (12 + 1) ≤ 8 * (12 + 1) := Nat.mul_le_mul_right _ h3
  omega
theorem anc_jlen {p : Str} (i : Nat) : (Lib.join ((splitL p).take i) [47]).length ≤ 200 := by
  have := anc_len (p := p) i
  unfold joinP at this
  simp at this ⊢
  omega
theorem ancS_len (p : Str) : (ancS p).length = (splitL p).length := by simp [ancS]
theorem anc_end {p : Str} {k : Nat} (h : k = (splitL p).length) : (List.range k).map (fun i => joinP ((splitL p).take i)) = ancS p := by subst h; rfl
def treeAt (p : Perm) (place : Str) (k : Nat) : Bool := (place == p.path) || ((ancS place).take k).any fun s => p.deep && s == p.path
theorem tree_succ {p : Perm} {place : Str} {k : Nat} (h : k < (ancS place).length) : treeAt p place (k + 1) = (treeAt p place k || (p.deep && (ancS place).getD k [] == p.path)) := by
  unfold treeAt
  rw [List.take_succ_eq_append_getElem h, List.any_append, Bool.or_assoc]
  simp [List.getD, h]
theorem tree_law {p : Perm} {place : Str} {k : Nat} (hc : checkS p = 0) (hp : splitOk place = true) (hk : (ancS place).length ≤ k) : coversS p p.act place = treeAt p place k := by
  rw [covers_mk hc rfl hp]
  unfold treeAt
  rw [List.take_of_length_le hk]
  obtain ⟨hq, _, _⟩ := check_path hc
  rw [Bool.eq_iff_iff]
  simp only [Bool.or_eq_true, Bool.and_eq_true, beq_iff_eq, within_iff, List.any_eq_true]
  constructor
  · rintro (h | ⟨h1, _, _, h2⟩)
    · exact .inl h.symm
    · obtain ⟨r, hr⟩ := h2
      by_cases e : r = []
      · subst e
        left
        rw [List.append_nil] at hr
        exact split_inj hp hq hr.symm
      · right
        refine ⟨p.path, ?_, h1, rfl⟩
        have hl : (splitL p.path).length < (splitL place).length := by
          rw [← hr, List.length_append]
          have := List.length_pos_iff.2 e
          omega
        unfold ancS
        rw [List.mem_map]
        refine ⟨(splitL p.path).length, List.mem_range.2 hl, ?_⟩
        rw [← hr, List.take_left']
        · exact joinP_split hq
        · rfl
  · rintro (h | ⟨s, hs, h1, rfl⟩)
    · exact .inl h.symm
    · right
      refine ⟨h1, hp, hq, ?_⟩
      unfold ancS at hs
      rw [List.mem_map] at hs
      obtain ⟨i, _, hi⟩ := hs
      have h8 := splitL_len place
      rw [← hi, splitL_joinP (by rw [List.length_take]; omega) (anc_named i)]
      exact List.take_prefix _ _
theorem tree_bad {p : Perm} {place : Str} (h : ((checkS p != 0) || !splitOk place) = true) : coversS p p.act place = false := by
  rw [Bool.or_eq_true] at h
  unfold coversS
  rw [if_pos]
  rcases h with h | h
  · rw [h]; rfl
  · rw [h]; simp
end Go.Lx
