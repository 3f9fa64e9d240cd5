/- Paths, more: parents, what two have in common, the ancestors, the error of a list of names. Nothing of a program stands here. -/
import Derived.Test.YtnhbdlllkmnpfaaDoorPure11d
import Derived.Test.YtnhbdlllkmnpfaaDoorPure11c
import Derived.Test.YtnhbdlllkmnpfaaDoorOrd
namespace Go.Lx
open Go
set_option linter.unusedSimpArgs false
set_option linter.unusedVariables false
set_option linter.unnecessarySimpa false
theorem anc_named {p : Str} (i : Nat) : ((splitL p).take i).all namedS = true := by
  have h := splitL_named (p := p)
  rw [List.all_eq_true] at h ⊢
  exact fun x hx => h x (List.mem_of_mem_take hx)
theorem named_len12 {s : Str} (h : namedS s = true) : s.length ≤ 12 := by
  simp only [namedS, Bool.and_eq_true, Bool.not_eq_true', Bool.or_eq_false_iff, decide_eq_false_iff_not] at h
  omega
theorem anc_len {p : Str} (i : Nat) : (joinP ((splitL p).take i)).length ≤ 200 := by
  have h1 := joinP_len ((splitL p).take i) 12 (fun s hs => named_len12 (List.all_eq_true.1 (anc_named (p := p) i) s hs))
  have h2 := splitL_len p
  rw [List.length_take] at h1
  have h3 : min i (splitL p).length ≤ 8 := by omega
  have h4 : min i (splitL p).length * (12 + 1) ≤ 8 * (12 + 1) := Nat.mul_le_mul_right _ h3
  omega
theorem anc_jlen {p : Str} (i : Nat) : (Lib.join ((splitL p).take i) [47]).length ≤ 200 := by
  have := anc_len (p := p) i
  unfold joinP at this
  simp at this ⊢
  omega
theorem ancS_len (p : Str) : (ancS p).length = (splitL p).length := by simp [ancS]
theorem anc_end {p : Str} {k : Nat} (h : k = (splitL p).length) : (List.range k).map (fun i => joinP ((splitL p).take i)) = ancS p := by subst h; rfl
def parentS (p : Str) : Str × Bool := if !splitOk p || (splitL p).length == 0 then ([], false) else (joinP ((splitL p).take ((splitL p).length - 1)), true)
theorem parent_a {p : Str} (h : (!splitOk p || (((splitL p).length : Int) == 0)) = true) : parentS p = ([], false) := by
  unfold parentS
  rw [if_pos]
  rw [Bool.or_eq_true] at h ⊢
  rcases h with h | h
  · exact .inl h
  · right; simp at h ⊢; exact h
theorem parent_no {p : Str} (h : (!splitOk p || (((splitL p).length : Int) == 0)) = false) : 1 ≤ (splitL p).length := by
  rw [Bool.or_eq_false_iff] at h
  have := h.2
  have h0 : ¬ (((splitL p).length : Int) = 0) := by simpa using this
  omega
theorem parent_b {p : Str} (h : (!splitOk p || (((splitL p).length : Int) == 0)) = false) : parentS p = (joinP ((splitL p).take ((splitL p).length - 1)), true) := by
  have hn := parent_no h
  rw [Bool.or_eq_false_iff] at h
  unfold parentS
  rw [if_neg]
  rw [Bool.or_eq_true]
  rintro (q | q)
  · rw [h.1] at q; cases q
  · simp at q
    rw [q] at hn; simp at hn
def commonP (p q : Str) : Str := if !splitOk p || !splitOk q then [] else joinP ((splitL p).take (commonS (splitL p) (splitL q)))
theorem commonP_a {p q : Str} (h : (!splitOk p || !splitOk q) = true) : commonP p q = [] := by rw [commonP, if_pos h]
theorem commonP_b {p q : Str} (h : (!splitOk p || !splitOk q) = false) : commonP p q = joinP ((splitL p).take (commonS (splitL p) (splitL q))) := by rw [commonP, if_neg (by rw [h]; simp)]
theorem okk_a {p q : Str} (h : (!splitOk p || !splitOk q) = true) : (splitOk p && splitOk q) = false := by revert h; cases splitOk p <;> cases splitOk q <;> simp
theorem okk_b {p q : Str} (h : (!splitOk p || !splitOk q) = false) : (splitOk p && splitOk q) = true := by revert h; cases splitOk p <;> cases splitOk q <;> simp
def joinE (l : List Str) : Str × Int := if 8 < l.length then ([], 3) else if l.all namedS then (joinP l, 0) else ([], 6)
theorem joinE_a {l : List Str} (h : (8 : Int) < l.length) : joinE l = ([], 3) := by rw [joinE, if_pos (by omega)]
theorem joinE_b {l : List Str} (h : ¬ (8 : Int) < l.length) (h2 : l.all namedS = false) : joinE l = ([], 6) := by rw [joinE, if_neg (by omega), if_neg (by rw [h2]; simp)]
theorem joinE_c {l : List Str} (h : ¬ (8 : Int) < l.length) (h2 : l.all namedS = true) : joinE l = (joinP l, 0) := by rw [joinE, if_neg (by omega), if_pos h2]
theorem allD_succ {l : List Str} {k : Nat} (h : k < l.length) (ha : (l.take k).all namedS = true) (hp : namedS (l.getD k []) = true) : (l.take (k + 1)).all namedS = true := allT_succ h ha (by simpa [List.getD, h] using hp)
theorem allD_at {l : List Str} {k : Nat} (h : k < l.length) (hp : namedS (l.getD k []) = false) : l.all namedS = false := allT_at h (by simpa [List.getD, h] using hp)
theorem join_bd {l : List Str} (h : ∀ p ∈ l, p.length ≤ 40) (hl : l.length ≤ 12) : (Lib.join l [47]).length ≤ 600 := by
  have h1 := joinP_len l 40 h
  have h2 : l.length * (40 + 1) ≤ 12 * (40 + 1) := Nat.mul_le_mul_right _ hl
  unfold joinP at h1
  simp at h1 ⊢
  omega
/-! The reference's split: byte by byte. -/
structure S7 (p : Str) (o : List Str) (name : Str) (k : Nat) : Prop where
  le : k ≤ p.length
  nm : name.length ≤ k
  out : o.length ≤ k
  eq : splitS (p.drop 1) = o ++ preH name (splitS (p.drop k))
theorem S7.start {p : Str} (h : 1 ≤ p.length) : S7 p [] [] 1 := ⟨h, by simp, by simp, by rw [preH_nil]; rfl⟩
theorem S7.char {p name : Str} {o : List Str} {k : Nat} (h : S7 p o name k) (hk : k < p.length) (hc : (((p.getD k 0).toNat : Int) == 47) = false) : S7 p o (name ++ [p.getD k 0]) (k + 1) :=
  ⟨hk, by have := h.nm; simp; omega, by have := h.out; omega, by rw [h.eq, sp_char hk (by rw [← b47]; exact hc)]⟩
theorem S7.sep {p name : Str} {o : List Str} {k : Nat} (h : S7 p o name k) (hk : k < p.length) (hc : (((p.getD k 0).toNat : Int) == 47) = true) : S7 p (o ++ [name]) [] (k + 1) :=
  ⟨hk, by simp, by have := h.out; simp; omega, by rw [h.eq, sp_sep hk (by rw [← b47]; exact hc), preH_nil, List.append_assoc]; rfl⟩
theorem S7.fin {p name : Str} {o : List Str} {k : Nat} (h : S7 p o name k) (hk : p.length ≤ k) : o ++ [name] = splitS (p.drop 1) := by rw [h.eq, sp_end hk]
theorem split7 {β : Prop} {p : Str} {w w' : World} {a : Option Addr} {c : Nat} (hX : Ext β w w') (h1 : (p == [47]) = false) (h2 : hasPre p [47] = true) (h3 : (splitS (p.drop 1)).all namedS = true) (hs : Sl encS 1 (Fsh w w') w' a c (splitS (p.drop 1))) :
    ∃ a' c' l, Value.tuple #[.slice a (splitS (p.drop 1)).length c, .bool (decide (((splitS (p.drop 1)).length : Int) ≤ 8))] = .tuple #[.slice a' l.length c', .bool (splitOk p)] ∧ Sl encS 1 (Fsh w w') w' a' c' l ∧ (splitOk p = true → l = splitL p) ∧ Ext β w w' := by
  by_cases h8 : (8 : Int) < (splitS (p.drop 1)).length
  · have e := splitP_none (p := p) (Or.inr ⟨h1, h2, Or.inl h8⟩)
    refine ⟨a, c, _, ?_, hs, fun h => absurd h (by rw [splitOk_none e]; decide), hX⟩
    rw [splitOk_none e, decide_eq_false (by omega)]
  · have e := splitP_some h1 h2 h8 h3
    refine ⟨a, c, _, ?_, hs, fun _ => (splitL_some e).symm, hX⟩
    rw [splitOk_some e, decide_eq_true (by omega)]
theorem r7name (c : UInt8) : ((((!((decide ((97 : Int) ≤ c.toNat) && decide ((c.toNat : Int) ≤ 122)) || (decide ((48 : Int) ≤ c.toNat) && decide ((c.toNat : Int) ≤ 57)))) && ((c.toNat : Int) != 95)) && ((c.toNat : Int) != 46)) && ((c.toNat : Int) != 45)) = !nameB c := by
  rw [← rName]
  simp only [bne, Bool.not_or]
theorem pre7 (p : Str) : (((p.length : Int) == 0) || (((p.getD 0 0).toNat : Int) != 47)) = ((p == []) || !(((p.getD 0 0).toNat : Int) == 47)) := by
  cases p with
  | nil => rfl
  | cons c r =>
    have h1 : ((((c :: r).length : Nat) : Int) == 0) = false := by simp; omega
    have h2 : ((c :: r) == ([] : Str)) = false := rfl
    rw [h1, h2]; rfl
theorem r7_bad {s : Str} (h : s.all nameB = false) : namedS s = false := by rw [namedS, h, Bool.and_false]
theorem r7_end {s : Str} (h : s.all nameB = true) : namedS s = (((decide ((1 : Int) ≤ s.length) && decide ((s.length : Int) ≤ 12)) && (s != [46])) && (s != [46, 46])) := by
  rw [namedS, h, Bool.and_true]
  simp only [Bool.not_or, bne]
  congr 1
  congr 1
  congr 1
  · rw [Bool.eq_iff_iff]; simp; try omega
  · first | rfl | (rw [Bool.eq_iff_iff]; simp)
theorem splitP_bad {p : Str} (h : splitOk p = false) : splitP p = none := by
  unfold splitOk at h
  cases e : splitP p with
  | none => rfl
  | some l => rw [e] at h; cases h
theorem r7within_eq {p q : Str} {lp lq : List Str} (h1 : splitOk p = true → lp = splitL p) (h2 : splitOk q = true → lq = splitL q) : ((splitOk p && splitOk q) && ((commonS lp lq : Int) == lq.length)) = withinS p q := by
  unfold withinS
  by_cases h : (splitOk p && splitOk q) = true
  · obtain ⟨a, b⟩ := Bool.and_eq_true_iff.1 h
    rw [h1 a, h2 b]
  · have : (splitOk p && splitOk q) = false := by simpa using h
    rw [this]; rfl
theorem ok_both {p q : Str} (h : (!splitOk p || !splitOk q) = false) : splitOk p = true ∧ splitOk q = true := by
  revert h; cases splitOk p <;> cases splitOk q <;> simp
/-! The order by the reference. -/
def lessP (p q : Str) : Bool := decide (cmpP p q < 0)
theorem lessS (a b : Str) : decide (cmpS a b < 0) = Op.bytesLess a b := by
  rcases cmpS_cases a b with ⟨h, k⟩ | ⟨h, k⟩ | ⟨h, k⟩
  · rw [h, k]; rfl
  · rw [h, k, bl_irrefl]; rfl
  · rw [h, bl_asymm k]; rfl
theorem lessL : ∀ a b : List Str, decide (cmpL a b < 0) = if commonS a b = a.length ∨ commonS a b = b.length then decide (a.length < b.length) else Op.bytesLess (a.getD (commonS a b) []) (b.getD (commonS a b) [])
  | [], [] => rfl
  | [], b :: y => by simp [cmpL, commonS]
  | a :: x, [] => by simp [cmpL, commonS]
  | a :: x, b :: y => by
    by_cases h : a = b
    · subst h
      have h0 : cmpS a a = 0 := (cmpS_is.eq a a).2 rfl
      have ih := lessL x y
      simp only [cmpL, commonS, h0, BEq.rfl, if_true, bne_self_eq_false, Bool.false_eq_true, if_false, List.length_cons, Nat.add_right_cancel_iff, Nat.add_lt_add_iff_right, List.getD_cons_succ]
      exact ih
    · have h0 : cmpS a b ≠ 0 := fun e => h ((cmpS_is.eq a b).1 e)
      have hb : (a == b) = false := by simpa using h
      have h1 : (cmpS a b != 0) = true := by simpa using h0
      simp only [cmpL, commonS, hb, h1, if_true, Bool.false_eq_true, if_false]
      rw [if_neg (by simp)]
      simpa using lessS a b
theorem less_a {p q : Str} (h : (!splitOk p && !splitOk q) = true) : Op.bytesLess p q = lessP p q := by
  unfold lessP cmpP
  revert h
  cases splitOk p <;> cases splitOk q <;> simp [← lessS]
theorem less_b {p q : Str} (h : (!splitOk p && !splitOk q) = false) (h2 : (!splitOk p || !splitOk q) = true) : splitOk p = lessP p q := by
  unfold lessP cmpP
  revert h h2
  cases splitOk p <;> cases splitOk q <;> simp
theorem less_both {p q : Str} (h2 : (!splitOk p || !splitOk q) = false) : lessP p q = decide (cmpL (splitL p) (splitL q) < 0) := by
  obtain ⟨a, b⟩ := ok_both h2
  unfold lessP cmpP
  rw [a, b]; rfl
theorem less_c {p q : Str} (h2 : (!splitOk p || !splitOk q) = false) (h3 : (((commonS (splitL p) (splitL q) : Nat) : Int) == (splitL p).length || ((commonS (splitL p) (splitL q) : Nat) : Int) == (splitL q).length) = true) : decide (((splitL p).length : Int) < (splitL q).length) = lessP p q := by
  rw [less_both h2, lessL, if_pos]
  · rw [Bool.eq_iff_iff]; simp
  · rw [Bool.or_eq_true] at h3
    rcases h3 with h | h
    · left; have : ((commonS (splitL p) (splitL q) : Nat) : Int) = (splitL p).length := by simpa using h
      omega
    · right; have : ((commonS (splitL p) (splitL q) : Nat) : Int) = (splitL q).length := by simpa using h
      omega
theorem less_ne {x y : List Str} (h3 : (((commonS x y : Nat) : Int) == x.length || ((commonS x y : Nat) : Int) == y.length) = false) : commonS x y < x.length ∧ commonS x y < y.length := by
  have hl := commonS_le x y
  rw [Bool.or_eq_false_iff] at h3
  have a : ¬ ((commonS x y : Nat) : Int) = x.length := by simpa using h3.1
  have b : ¬ ((commonS x y : Nat) : Int) = y.length := by simpa using h3.2
  omega
theorem less_d {p q : Str} (h2 : (!splitOk p || !splitOk q) = false) (h3 : (((commonS (splitL p) (splitL q) : Nat) : Int) == (splitL p).length || ((commonS (splitL p) (splitL q) : Nat) : Int) == (splitL q).length) = false) : Op.bytesLess ((splitL p).getD (commonS (splitL p) (splitL q)) []) ((splitL q).getD (commonS (splitL p) (splitL q)) []) = lessP p q := by
  have := less_ne h3
  rw [less_both h2, lessL, if_neg (by omega)]
theorem bl_step {a b : Str} {k : Nat} (h1 : k < a.length) (h2 : k < b.length) (h : a.getD k 0 = b.getD k 0) : Op.bytesLess (a.drop k) (b.drop k) = Op.bytesLess (a.drop (k + 1)) (b.drop (k + 1)) := by
  rw [drop_c h1, drop_c h2, h, Op.bytesLess]
  simp [UInt8.lt_irrefl]
theorem bl_ne {a b : Str} {k : Nat} (h1 : k < a.length) (h2 : k < b.length) (h : a.getD k 0 ≠ b.getD k 0) : Op.bytesLess (a.drop k) (b.drop k) = decide (((a.getD k 0).toNat : Int) < (b.getD k 0).toNat) := by
  rw [drop_c h1, drop_c h2, Op.bytesLess]
  have : (a.getD k 0 == b.getD k 0) = false := by simpa using h
  rw [this, Bool.false_and, Bool.or_false, Bool.eq_iff_iff]
  simp [UInt8.lt_iff_toNat_lt]
theorem bl_end {a b : Str} {k : Nat} (h1 : k ≤ a.length) (h2 : k ≤ b.length) (h : ¬ (k < a.length ∧ k < b.length)) : Op.bytesLess (a.drop k) (b.drop k) = decide ((a.length : Int) < b.length) := by
  rcases Nat.lt_or_ge k b.length with hb | hb
  · have ha : a.length ≤ k := by omega
    rw [List.drop_of_length_le ha, drop_c hb, Op.bytesLess]
    symm; rw [decide_eq_true_eq]; omega
  · rw [List.drop_of_length_le hb]
    have : Op.bytesLess (a.drop k) [] = false := by cases a.drop k <;> rfl
    rw [this]
    symm; rw [decide_eq_false_iff_not]; omega
theorem u8_eq {c d : UInt8} (h : ((c.toNat : Int) != (d.toNat : Int)) = false) : c = d := by
  simp only [bne, b_u8] at h
  simpa using h
theorem u8_ne {c d : UInt8} (h : ((c.toNat : Int) != (d.toNat : Int)) = true) : c ≠ d := by
  simp only [bne, b_u8] at h
  simpa using h
/-! Trees as lists. -/
def ixL (l : List Str) (p : Str) : Nat := (l.takeWhile fun q => lessP q p).length
def insP (l : List Str) (p : Str) : List Str := if l.any (fun q => p == q) then l else l.take (ixL l p) ++ [p] ++ l.drop (ixL l p)
theorem ixL_at {l : List Str} {p : Str} {k : Nat} (hk : k ≤ l.length) (h : (l.take k).all (fun q => lessP q p) = true) (he : k = l.length ∨ lessP (l.getD k []) p = false) : ixL l p = k := by
  unfold ixL
  have e : l = l.take k ++ l.drop k := (List.take_append_drop k l).symm
  rw [e, List.takeWhile_append_of_pos (by
    intro q hq
    exact List.all_eq_true.1 h q hq)]
  have : (l.drop k).takeWhile (fun q => lessP q p) = [] := by
    rcases he with he | he
    · rw [List.drop_of_length_le (by omega)]; rfl
    · rcases Nat.lt_or_ge k l.length with hl | hl
      · rw [List.drop_eq_getElem_cons hl, List.takeWhile_cons]
        have : l[k] = l.getD k [] := by simp [List.getD, hl]
        rw [this, he]; rfl
      · rw [List.drop_of_length_le hl]; rfl
  rw [this, List.append_nil, List.length_take]
  omega
theorem insP_a {l : List Str} {p : Str} (h : (l.any fun q => p == q) = true) : insP l p = l := by rw [insP, if_pos h]
theorem insP_b {l : List Str} {p : Str} {k : Nat} (h : (l.any fun q => p == q) = false) (hk : k ≤ l.length) (ha : (l.take k).all (fun q => lessP q p) = true) (he : k = l.length ∨ lessP (l.getD k []) p = false) : insP l p = l.take k ++ [p] ++ l.drop k := by
  rw [insP, if_neg (by rw [h]; simp), ixL_at hk ha he]
theorem ins_yes {l : List Str} {p : Str} {k : Nat} (h : (decide ((k : Int) < l.length) && lessP (l.getD k []) p) = true) : k < l.length ∧ lessP (l.getD k []) p = true := by
  rw [Bool.and_eq_true] at h
  exact ⟨by simpa using h.1, h.2⟩
theorem ins_no {l : List Str} {p : Str} {k : Nat} (hk : k ≤ l.length) (h : (decide ((k : Int) < l.length) && lessP (l.getD k []) p) = false) : k = l.length ∨ lessP (l.getD k []) p = false := by
  rw [Bool.and_eq_false_iff] at h
  rcases h with h | h
  · left; have : ¬ (k : Int) < l.length := by simpa using h
    omega
  · exact .inr h
theorem allL_succ {l : List Str} {f : Str → Bool} {k : Nat} (h : k < l.length) (ha : (l.take k).all f = true) (hp : f (l.getD k []) = true) : (l.take (k + 1)).all f = true := allT_succ h ha (by simpa [List.getD, h] using hp)
theorem insP_len (l : List Str) (p : Str) : (insP l p).length ≤ l.length + 1 := by
  unfold insP
  split
  · omega
  · simp; omega
theorem insP_mem {l : List Str} {p q : Str} (h : q ∈ insP l p) : q = p ∨ q ∈ l := by
  unfold insP at h
  split at h
  · exact .inr h
  · simp only [List.mem_append, List.mem_singleton] at h
    rcases h with (h | h) | h
    · exact .inr (List.mem_of_mem_take h)
    · exact .inl h
    · exact .inr (List.mem_of_mem_drop h)
theorem anc_yes {l : List Str} {p : Str} {k : Nat} (h : (decide ((k : Int) < l.length) && splitOk p) = true) : k < l.length ∧ splitOk p = true := by
  rw [Bool.and_eq_true] at h
  exact ⟨by simpa using h.1, h.2⟩
theorem anc_fin {l : List Str} {p : Str} {k : Nat} (hk : k ≤ l.length) (hz : splitOk p = false → k = 0) (h9 : splitOk p = true → l = splitL p) (h : (decide ((k : Int) < l.length) && splitOk p) = false) : (List.range k).map (fun i => joinP ((splitL p).take i)) = ancS p := by
  cases ho : splitOk p with
  | false =>
    have : k = 0 := hz ho
    subst this
    have e : splitL p = [] := splitL_none (splitP_bad ho)
    unfold ancS; rw [e]; rfl
  | true =>
    have e := h9 ho
    subst e
    rw [ho, Bool.and_true] at h
    have : ¬ (k : Int) < (splitL p).length := by simpa using h
    exact anc_end (by omega)
def addR (l : List Str) (p : Str) : List Str × Int := if !splitOk p then (l, 6) else (insP ((ancS p).foldl insP l) p, 0)
theorem addR_a {l : List Str} {p : Str} (h : splitOk p = false) : addR l p = (l, 6) := by rw [addR, if_pos (by rw [h]; rfl)]
theorem addR_b {l : List Str} {p : Str} (h : splitOk p = true) : addR l p = (insP ((ancS p).foldl insP l) p, 0) := by rw [addR, if_neg (by rw [h]; simp)]
theorem anc_ok (p : Str) : ∀ q ∈ ancS p, q.length ≤ 1000000 := by
  intro q hq
  unfold ancS at hq
  obtain ⟨i, _, rfl⟩ := List.mem_map.1 hq
  have := anc_len (p := p) i
  omega
theorem fold_len : ∀ (m l : List Str), (m.foldl insP l).length ≤ l.length + m.length
  | [], l => by simp
  | p :: r, l => by
    have h1 := fold_len r (insP l p)
    have h2 := insP_len l p
    simp only [List.foldl_cons, List.length_cons]
    omega
theorem fold_mem : ∀ {m l : List Str} {q : Str}, q ∈ m.foldl insP l → q ∈ m ∨ q ∈ l
  | [], l, q, h => .inr h
  | p :: r, l, q, h => by
    rw [List.foldl_cons] at h
    rcases fold_mem h with h | h
    · exact .inl (List.mem_cons_of_mem _ h)
    · rcases insP_mem h with rfl | h
      · exact .inl (by simp)
      · exact .inr h
theorem fold_ok {m l : List Str} {k : Nat} (hl : ∀ q ∈ l, q.length ≤ 1000000) (hm : ∀ q ∈ m, q.length ≤ 1000000) : ∀ q ∈ (m.take k).foldl insP l, q.length ≤ 1000000 := by
  intro q hq
  rcases fold_mem hq with h | h
  · exact hm q (List.mem_of_mem_take h)
  · exact hl q h
theorem fold_succ {m l : List Str} {k : Nat} (h : k < m.length) : (m.take (k + 1)).foldl insP l = insP ((m.take k).foldl insP l) (m.getD k []) := by
  rw [List.take_succ_eq_append_getElem h, List.foldl_append]
  simp [List.getD, h]
def belowR (l : List Str) (p : Str) : List Str := l.filter fun q => (l.any fun q => p == q) && withinS q p
def remR (l : List Str) (p : Str) : List Str × Int :=
  if !splitOk p then (l, 6) else if p == [47] then (l, 1) else if !(l.any fun q => p == q) then (l, 4) else if 1 < (belowR l p).length then (l, 7) else (l.filter fun q => q != p, 0)
section
variable {l : List Str} {p : Str}
theorem remR_a (h : splitOk p = false) : remR l p = (l, 6) := by rw [remR, if_pos (by rw [h]; rfl)]
theorem remR_b (h : splitOk p = true) (h2 : (p == [47]) = true) : remR l p = (l, 1) := by rw [remR, if_neg (by rw [h]; simp), if_pos h2]
theorem remR_c (h : splitOk p = true) (h2 : (p == [47]) = false) (h3 : (l.any fun q => p == q) = false) : remR l p = (l, 4) := by rw [remR, if_neg (by rw [h]; simp), if_neg (by rw [h2]; simp), if_pos (by rw [h3]; rfl)]
theorem remR_d (h : splitOk p = true) (h2 : (p == [47]) = false) (h3 : (l.any fun q => p == q) = true) (h4 : (1 : Int) < (l.filter fun q => (l.any fun q => p == q) && withinS q p).length) : remR l p = (l, 7) := by
  rw [remR, if_neg (by rw [h]; simp), if_neg (by rw [h2]; simp), if_neg (by rw [h3]; simp), if_pos]
  unfold belowR; omega
theorem remR_e (h : splitOk p = true) (h2 : (p == [47]) = false) (h3 : (l.any fun q => p == q) = true) (h4 : ¬ (1 : Int) < (l.filter fun q => (l.any fun q => p == q) && withinS q p).length) : remR l p = (l.filter fun q => q != p, 0) := by
  rw [remR, if_neg (by rw [h]; simp), if_neg (by rw [h2]; simp), if_neg (by rw [h3]; simp), if_neg]
  unfold belowR; omega
end
end Go.Lx
