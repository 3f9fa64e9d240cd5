/- Sets of places of paths: who lies within whom. Nothing of a program stands here. -/
import Derived.Test.YtnhbdlllkmnpfaaDoorPure7b
import Derived.Test.YtnhbdlllkmnpfaaDoorSv
namespace Go.Lx
open Go
set_option linter.unusedSimpArgs false
set_option linter.unusedVariables false
set_option linter.unnecessarySimpa false
/-- A slice of bytes as it lies in memory. -/
structure BV where
  a : Option Addr
  c : Nat
  l : List UInt8
def encBV (x : BV) : List Value := [.slice x.a x.l.length x.c]
theorem encBV_ok : EncOk encBV 1 := ⟨by decide, fun _ => rfl, fun x u hu => by simp [encBV] at hu; subst hu; rfl⟩
def bz : BV := ⟨none, 0, []⟩
def mkV (z : BV) : Str := makeS z.l
def setN (al : List Str) (q : Str) : Nat → W64
  | 0 => 0
  | k + 1 => if withinS (al.getD k []) q then setN al q k ||| oneW k else setN al q k
theorem setN_yes {al : List Str} {q : Str} {k : Nat} (h : withinS (al.getD k []) q = true) : setN al q (k + 1) = setN al q k ||| oneW k := by rw [setN, if_pos h]
theorem setN_no {al : List Str} {q : Str} {k : Nat} (h : withinS (al.getD k []) q = false) : setN al q (k + 1) = setN al q k := by rw [setN, if_neg (by rw [h]; simp)]
theorem setN_get (al : List Str) (q : Str) : ∀ (k : Nat), k ≤ 64 → ∀ i, (setN al q k).getLsbD i = (decide (i < k) && withinS (al.getD i []) q)
  | 0, _, i => by simp [setN]
  | k + 1, hk, i => by
    have ih := setN_get al q k (by omega) i
    rw [setN]
    split
    · rename_i h
      rw [BitVec.getLsbD_or, ih, oneW_get k i (by omega)]
      by_cases e : i = k
      · subst e; rw [h]; simp
      · by_cases h2 : i < k
        · simp [h2, e, Nat.lt_succ_of_lt h2]
        · have : ¬ i < k + 1 := by omega
          simp [h2, e, this]
    · rename_i h
      rw [ih]
      by_cases e : i = k
      · subst e
        have : withinS (al.getD i []) q = false := by simpa using h
        rw [this]; simp
      · have : (i < k) = (i < k + 1) := by rw [eq_iff_iff]; omega
        simp only [this]
theorem within_tr {a b c : Str} (h : withinS a b = true) (k : withinS b c = true) : withinS a c = true := by
  obtain ⟨h1, h2, h3⟩ := within_iff.1 h
  obtain ⟨_, h5, h6⟩ := within_iff.1 k
  exact within_iff.2 ⟨h1, h5, h6.trans h3⟩
section
variable {al : List Str} (h10 : al.length ≤ 10) (hv : ∀ p ∈ al, splitOk p = true)
include h10 hv
theorem nest_own {i : Nat} (hi : i < al.length) : (setN al (al.getD i []) al.length).getLsbD i = true := by
  rw [setN_get _ _ _ (by omega), within_self (hv _ (gm hi))]; simp [hi]
theorem nest_sub {i j : Nat} (hi : i < al.length) (hj : j < al.length) : subW (setN al (al.getD i []) al.length) (setN al (al.getD j []) al.length) = withinS (al.getD i []) (al.getD j []) := by
  rw [Bool.eq_iff_iff, sub_iff]
  constructor
  · intro h
    have := h i (nest_own h10 hv hi)
    rw [setN_get _ _ _ (by omega), Bool.and_eq_true] at this
    exact this.2
  · intro h k hk
    rw [setN_get _ _ _ (by omega), Bool.and_eq_true] at hk ⊢
    exact ⟨hk.1, within_tr hk.2 h⟩
theorem nest_law {i j : Nat} (hi : i < al.length) (hj : j < al.length) :
    (((((setN al (al.getD i []) al.length &&& setN al (al.getD j []) al.length) != 0) && !subW (setN al (al.getD i []) al.length) (setN al (al.getD j []) al.length)) && !subW (setN al (al.getD j []) al.length) (setN al (al.getD i []) al.length)) || !(subW (setN al (al.getD i []) al.length) (setN al (al.getD j []) al.length) == withinS (al.getD i []) (al.getD j []))) = false := by
  rw [nest_sub h10 hv hi hj, nest_sub h10 hv hj hi]
  have e : (withinS (al.getD i []) (al.getD j []) == withinS (al.getD i []) (al.getD j [])) = true := by simp
  rw [e, Bool.not_true, Bool.or_false]
  cases hm : ((setN al (al.getD i []) al.length &&& setN al (al.getD j []) al.length) != 0) with
  | false => rfl
  | true =>
    obtain ⟨k, h1, h2⟩ := meet_iff.1 hm
    rw [setN_get _ _ _ (by omega), Bool.and_eq_true] at h1 h2
    have p1 := (within_iff.1 h1.2).2.2
    have p2 := (within_iff.1 h2.2).2.2
    have v1 := hv _ (gm (z := ([] : Str)) hi)
    have v2 := hv _ (gm (z := ([] : Str)) hj)
    rcases List.prefix_or_prefix_of_prefix p1 p2 with h | h
    · rw [within_iff.2 ⟨v2, v1, h⟩]; simp
    · rw [within_iff.2 ⟨v1, v2, h⟩]; simp
end
theorem mapM_succ {α β : Type} {f : α → β} {l : List α} {k : Nat} (z : α) (h : k < l.length) : (l.take (k + 1)).map f = (l.take k).map f ++ [f (l.getD k z)] := by
  rw [List.take_succ_eq_append_getElem h, List.map_append]
  simp [List.getD, h]
theorem svx_get {sv : List SV} {m : List W64} (h : sv.map (·.x) = m) {i : Nat} (hi : i < sv.length) : (sv.getD i sz).x = m.getD i 0 := by
  subst h
  simp [List.getD, hi]
theorem map_get {α β : Type} {f : α → β} {l : List α} {i : Nat} (z : α) (z' : β) (hi : i < l.length) : (l.map f).getD i z' = f (l.getD i z) := by
  simp [List.getD, hi]
end Go.Lx
