/- The plain laws of permissions. Nothing of a program stands here. -/
import Derived.Test.YtgnphpimkfcmlaaDoorPure11d
namespace Go.Lx
open Go
set_option linter.unusedSimpArgs false
set_option linter.unusedVariables false
set_option linter.unnecessarySimpa false
/-- A raw permission as it lies in memory: where its names lie is told too. -/
structure RawV where
  act : UInt8
  a : Option Addr
  c : Nat
  names : List UInt8
  deep : Bool
def encR (x : RawV) : List Value := [.int .u8 (x.act.toNat : Int), .slice x.a x.names.length x.c, .bool x.deep]
theorem encR_ok : EncOk encR 3 := ⟨by decide, fun _ => rfl, fun x u hu => by
  simp [encR] at hu
  rcases hu with rfl | rfl | rfl <;> rfl⟩
def rz : RawV := ⟨0, none, 0, [], false⟩
def RawV.perm (x : RawV) : Perm := ⟨actionS x.act, pathS x.names, x.deep⟩
theorem RawV.ok (x : RawV) : x.perm.ok := ⟨by have := actionS_len x.act; show (actionS x.act).length ≤ _; omega, by have := pathS_len x.names; show (pathS x.names).length ≤ _; omega⟩
def rawL (l : List RawV) : List Perm := (l.take 8).map RawV.perm
theorem rawL_ok (l : List RawV) : ∀ p ∈ rawL l, p.ok := by
  intro p hp
  obtain ⟨x, _, rfl⟩ := List.mem_map.1 hp
  exact x.ok
theorem rawL_len (l : List RawV) : (rawL l).length ≤ 8 := by unfold rawL; rw [List.length_map, List.length_take]; omega
theorem rawL_succ {l : List RawV} {k : Nat} (h : k < l.length) : (l.take (k + 1)).map RawV.perm = (l.take k).map RawV.perm ++ [(l.getD k rz).perm] := by
  rw [List.take_succ_eq_append_getElem h, List.map_append]
  simp [List.getD, h]
theorem rawL_end {l : List RawV} {k : Nat} (h1 : k ≤ l.length) (h2 : k ≤ 8) (h3 : ¬ (k < l.length ∧ k < 8)) : (l.take k).map RawV.perm = rawL l := by
  unfold rawL
  have : l.take 8 = l.take k := by
    by_cases h : k = 8
    · subst h; rfl
    · have : k = l.length := by omega
      subst this
      rw [List.take_length, List.take_of_length_le (by omega)]
  rw [this]
/-! the chapter's example -/
def aw0 : Perm := ⟨[114, 101, 97, 100], [47, 97], true⟩
def awL : List Perm := [⟨[114, 101, 97, 100], [47, 97, 47, 98], false⟩, aw0, ⟨[119, 114, 105, 116, 101], [47, 99], false⟩, ⟨[114, 101, 97, 100], [47, 97, 47, 98], true⟩]
theorem awL_norm : normS awL = [aw0, ⟨[119, 114, 105, 116, 101], [47, 99], false⟩] := by decide +kernel
theorem aw_c1 : coversS aw0 [114, 101, 97, 100] [47, 97, 47, 98] = true := by decide +kernel
theorem aw_c2 : coversS aw0 [114, 101, 97, 100] [47, 97, 98] = false := by decide +kernel
theorem aw_t : textS aw0 = [114, 101, 97, 100, 32, 47, 97, 47, 42] := by decide +kernel
theorem awL_ok : ∀ p ∈ awL, p.ok := by
  intro p hp
  simp [awL, aw0] at hp
  rcases hp with rfl | rfl | rfl | rfl <;> exact ⟨by decide, by decide⟩
/-! covering -/
theorem covers_own (p : Perm) : coversS p p.act p.path = (checkS p == 0) := by
  by_cases h : checkS p = 0
  · rw [covers_mk h rfl (check_path h).1, h]; simp
  · have : (checkS p == 0) = false := by rw [beq_eq_false_iff_ne]; exact h
    rw [this, Bool.eq_false_iff]
    intro hc
    exact h (covers_parts hc).1
theorem implies_own (p : Perm) : impliesS p p = (checkS p == 0) := by
  unfold impliesS
  rw [covers_own]
  cases p.deep <;> simp
theorem implies_parts {p q : Perm} (h : impliesS p q = true) : checkS p = 0 ∧ checkS q = 0 ∧ p.act = q.act ∧ (p.deep = true ∨ q.deep = false) ∧ (p.path = q.path ∨ (p.deep = true ∧ splitL p.path <+: splitL q.path)) := by
  simp only [impliesS, Bool.and_eq_true, beq_iff_eq, Bool.or_eq_true, Bool.not_eq_true'] at h
  obtain ⟨⟨h1, h2⟩, h3⟩ := h
  obtain ⟨g1, g2, g3, g4⟩ := covers_parts h2
  refine ⟨g1, h1, g2, h3, ?_⟩
  rcases g4 with g | ⟨g, g'⟩
  · exact .inl g
  · exact .inr ⟨g, (within_iff.1 g').2.2⟩
theorem implies_mk {p q : Perm} (h1 : checkS p = 0) (h2 : checkS q = 0) (h3 : p.act = q.act) (h4 : p.deep = true ∨ q.deep = false) (h5 : p.path = q.path ∨ (p.deep = true ∧ splitL p.path <+: splitL q.path)) : impliesS p q = true := by
  simp only [impliesS, Bool.and_eq_true, beq_iff_eq, Bool.or_eq_true, Bool.not_eq_true']
  refine ⟨⟨h2, ?_⟩, h4⟩
  rw [covers_mk h1 h3 (check_path h2).1]
  rcases h5 with h | ⟨h, h'⟩
  · simp [h]
  · have : withinS q.path p.path = true := within_iff.2 ⟨(check_path h2).1, (check_path h1).1, h'⟩
    simp [h, this]
theorem implies_pre {p q : Perm} (h : impliesS p q = true) : splitL p.path <+: splitL q.path := by
  rcases (implies_parts h).2.2.2.2 with h | h
  · rw [h]; exact List.prefix_refl _
  · exact h.2
theorem implies_trans {p q r : Perm} (h : impliesS p q = true) (k : impliesS q r = true) : impliesS p r = true := by
  obtain ⟨h1, h2, h3, h4, h5⟩ := implies_parts h
  obtain ⟨k1, k2, k3, k4, k5⟩ := implies_parts k
  refine implies_mk h1 k2 (h3.trans k3) ?_ ?_
  · rcases h4 with h | h
    · exact .inl h
    · rcases k4 with k | k
      · rw [h] at k; cases k
      · exact .inr k
  · rcases h5 with h | ⟨h, h'⟩
    · rcases k5 with k | ⟨k, k'⟩
      · exact .inl (h.trans k)
      · rcases h4 with g | g
        · exact .inr ⟨g, by rw [h]; exact k'⟩
        · rw [g] at k; cases k
    · exact .inr ⟨h, h'.trans (implies_pre k)⟩
theorem implies_anti {p q : Perm} (h : impliesS p q = true) (k : impliesS q p = true) : p = q := by
  obtain ⟨h1, h2, h3, h4, h5⟩ := implies_parts h
  obtain ⟨k1, k2, k3, k4, k5⟩ := implies_parts k
  have e : splitL p.path = splitL q.path := by
    have g1 := implies_pre h
    have g2 := implies_pre k
    exact g1.eq_of_length_le g2.length_le
  have hp : p.path = q.path := split_inj (check_path h1).1 (check_path h2).1 e
  have hd : p.deep = q.deep := by
    cases hpd : p.deep <;> cases hqd : q.deep <;> simp_all
  obtain ⟨a, b, c⟩ := p
  obtain ⟨a', b', c'⟩ := q
  simp only at h3 hp hd
  subst h3 hp hd
  rfl
/-- What is implied is covered by whatever covers the request. -/
theorem covers_implied {p q : Perm} {a s : Str} (h : impliesS p q = true) (k : coversS q a s = true) : coversS p a s = true := by
  obtain ⟨h1, h2, h3, h4, h5⟩ := implies_parts h
  obtain ⟨k1, k2, k3, k4⟩ := covers_parts k
  rw [covers_mk h1 (h3.trans k2) k3]
  simp only [Bool.or_eq_true, beq_iff_eq, Bool.and_eq_true]
  have hpre := implies_pre h
  have hs : q.path = s ∨ q.deep = true ∧ splitL q.path <+: splitL s := by
    rcases k4 with k | ⟨k, k'⟩
    · exact .inl k
    · exact .inr ⟨k, (within_iff.1 k').2.2⟩
  have hw : splitL q.path <+: splitL s := by
    rcases hs with h | h
    · rw [h]; exact List.prefix_refl _
    · exact h.2
  by_cases hd : p.deep = true
  · exact .inr ⟨hd, within_iff.2 ⟨k3, (check_path h1).1, hpre.trans hw⟩⟩
  · rcases h4 with g | g
    · exact absurd g hd
    · left
      rcases h5 with h | h
      · rcases hs with k | k
        · exact h.trans k
        · rw [g] at k; exact absurd k.1 (by simp)
      · exact absurd h.1 hd
/-! the laws' conditions, as the code puts them -/
theorem law_implies (p q r : Perm) : ((((!impliesS p q) || !impliesS q p) || p == q) && (((!impliesS p q) || !impliesS q r) || impliesS p r)) = true := by
  rw [Bool.and_eq_true]
  constructor
  · cases h : impliesS p q
    · rfl
    · cases k : impliesS q p
      · rfl
      · rw [implies_anti h k]; simp
  · cases h : impliesS p q
    · rfl
    · cases k : impliesS q r
      · rfl
      · rw [implies_trans h k]; rfl
theorem cmpS_bd (a b : Str) : -1 ≤ cmpS a b ∧ cmpS a b ≤ 1 := by
  rcases cmpS_cases a b with ⟨h, _⟩ | ⟨h, _⟩ | ⟨h, _⟩ <;> omega
theorem cmpS_anti (a b : Str) : cmpS b a = - cmpS a b := by
  have h1 := cmpS_bd a b
  have h2 := cmpS_bd b a
  have h3 := cmpS_is.anti a b
  have h4 := cmpS_is.anti b a
  have h5 := cmpS_is.eq a b
  have h6 := cmpS_is.eq b a
  by_cases e : a = b
  · subst e
    have := cmpS_is.irr a; omega
  · have g1 : cmpS a b ≠ 0 := fun h => e (h5.1 h)
    have g2 : cmpS b a ≠ 0 := fun h => e (h6.1 h).symm
    omega
theorem cmpL_bd : ∀ (a b : List Str), -1 ≤ cmpL a b ∧ cmpL a b ≤ 1
  | [], [] => by decide
  | [], _ :: _ => by simp [cmpL]
  | _ :: _, [] => by simp [cmpL]
  | a :: x, b :: y => by
    unfold cmpL
    split
    · exact cmpS_bd a b
    · exact cmpL_bd x y
theorem cmpL_anti : ∀ (a b : List Str), cmpL b a = - cmpL a b
  | [], [] => rfl
  | [], _ :: _ => rfl
  | _ :: _, [] => rfl
  | a :: x, b :: y => by
    unfold cmpL
    have h := cmpS_anti a b
    rw [h, cmpL_anti x y]
    by_cases h0 : cmpS a b = 0
    · simp [h0]
    · have h1 : - cmpS a b ≠ 0 := by omega
      simp [h0]
theorem cmpQ_bd (x y : Perm) : -1 ≤ cmpQ x y ∧ cmpQ x y ≤ 1 := by
  unfold cmpQ
  split
  · exact cmpL_bd _ _
  · exact cmpS_bd _ _
theorem cmpQ_anti (x y : Perm) : cmpQ y x = - cmpQ x y := by
  unfold cmpQ
  rw [Bool.and_comm]
  split
  · exact cmpL_anti _ _
  · exact cmpS_anti _ _
theorem cmpQ_zero {x y : Perm} (h : cmpQ x y = 0) : x.path = y.path := by
  unfold cmpQ at h
  split at h
  · rename_i hp
    obtain ⟨h1, h2⟩ := Bool.and_eq_true_iff.1 hp
    exact split_inj h1 h2 ((cmpL_is.eq _ _).1 h)
  · exact (cmpS_is.eq _ _).1 h
theorem cmpM_bd (x y : Perm) : -1 ≤ cmpM x y ∧ cmpM x y ≤ 1 := by
  by_cases h : (cmpS x.act y.act != 0) = true
  · rw [cmpM_r1 h]; exact cmpS_bd _ _
  · rw [cmpM_q (by simpa using h)]
    split
    · exact cmpQ_bd _ _
    · split
      · omega
      · split <;> omega
theorem cmpM_anti (x y : Perm) : cmpM y x = - cmpM x y := by
  have ha := cmpS_anti x.act y.act
  by_cases h : cmpS x.act y.act = 0
  · have h1 : (cmpS x.act y.act != 0) = false := by simp [h]
    have h2 : (cmpS y.act x.act != 0) = false := by rw [ha]; simp [h]
    rw [cmpM_q h1, cmpM_q h2, cmpQ_anti x y]
    by_cases h3 : cmpQ x y = 0
    · simp only [h3, Int.neg_zero, bne_self_eq_false, Bool.false_eq_true, if_false]
      cases x.deep <;> cases y.deep <;> rfl
    · have h4 : (cmpQ x y != 0) = true := by simp [h3]
      have h5 : (-cmpQ x y != 0) = true := by simp [h3]
      rw [if_pos h4, if_pos h5]
  · have h1 : (cmpS x.act y.act != 0) = true := by simp [h]
    have h2 : (cmpS y.act x.act != 0) = true := by rw [ha]; simp [h]
    rw [cmpM_r1 h1, cmpM_r1 h2, ha]
theorem cmpM_zero {x y : Perm} : cmpM x y = 0 ↔ x = y := by
  constructor
  · intro h
    by_cases h1 : (cmpS x.act y.act != 0) = true
    · rw [cmpM_r1 h1] at h; rw [h] at h1; cases h1
    · have ha : x.act = y.act := (cmpS_is.eq _ _).1 (by simpa using h1)
      rw [cmpM_q (by simpa using h1)] at h
      split at h
      · rename_i h2; rw [h] at h2; cases h2
      · rename_i h2
        have hp := cmpQ_zero (by simpa using h2 : cmpQ x y = 0)
        split at h
        · rename_i h3
          obtain ⟨a, b, c⟩ := x
          obtain ⟨a', b', c'⟩ := y
          simp only [beq_iff_eq] at h3 ha hp
          subst h3 ha hp; rfl
        · split at h <;> cases h
  · rintro rfl
    have h1 : (cmpS x.act x.act != 0) = false := by rw [cmpS_is.irr]; rfl
    have h2 : cmpQ x x = 0 := by
      unfold cmpQ
      split
      · exact cmpL_is.irr _
      · exact cmpS_is.irr _
    rw [cmpM_q h1, h2]; simp
theorem law_order1 (p q : Perm) : (((cmpM p q != cmpM p q) || cmpM q p != - cmpM p q) || !((cmpM p q == 0) == (p == q))) = false := by
  rw [cmpM_anti p q]
  have : (cmpM p q == 0) = (p == q) := by
    rw [Bool.eq_iff_iff, beq_iff_eq, beq_iff_eq, cmpM_zero]
  simp [this]
theorem law_order2 {p q r : Perm} (hp : p.ok) (hq : q.ok) (hr : r.ok) (h : (((checkS p != 0) || checkS q != 0) || checkS r != 0) = false) : ((decide (0 < cmpM p q) || decide (0 < cmpM q r)) || decide (cmpM p r ≤ 0)) = true := by
  simp only [Bool.or_eq_false_iff, bne_eq_false_iff_eq] at h
  obtain ⟨⟨h1, h2⟩, h3⟩ := h
  by_cases a : 0 < cmpM p q
  · simp [a]
  · by_cases b : 0 < cmpM q r
    · simp [b]
    · have h4 := cmpV_is
      have : cmpM p r ≤ 0 := by
        let P : VP := ⟨p, hp, h1⟩
        let Q : VP := ⟨q, hq, h2⟩
        let R : VP := ⟨r, hr, h3⟩
        have g1 : cmpM P.1 Q.1 ≤ 0 := by show cmpM p q ≤ 0; omega
        have g2 : cmpM Q.1 R.1 ≤ 0 := by show cmpM q r ≤ 0; omega
        show cmpM P.1 R.1 ≤ 0
        by_cases e1 : cmpM P.1 Q.1 = 0
        · have := (h4.eq P Q).1 e1; rw [this]; exact g2
        · by_cases e2 : cmpM Q.1 R.1 = 0
          · have := (h4.eq Q R).1 e2; rw [← this]; exact g1
          · have := h4.tr P Q R (by omega) (by omega); omega
      simp [this]
end Go.Lx
