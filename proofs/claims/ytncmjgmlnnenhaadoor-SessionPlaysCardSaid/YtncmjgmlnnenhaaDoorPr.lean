/- Pairs of numbers below 64. Nothing of a program stands here. -/
import Derived.Test.YtncmjgmlnnenhaaDoorOrd
import Derived.Test.YtncmjgmlnnenhaaDoorSv
namespace Go.Lx
open Go
set_option linter.unusedSimpArgs false
set_option linter.unusedVariables false
set_option linter.unnecessarySimpa false
abbrev Pr := Fin 64 × Fin 64
def iv (x : Fin 64) : Int := (x.val : Int)
def encPr (p : Pr) : List Value := [.int .i64 (iv p.1), .int .i64 (iv p.2)]
theorem encPr_ok : EncOk encPr 2 := ⟨by decide, fun _ => rfl, fun x u hu => by
  simp [encPr] at hu
  rcases hu with rfl | rfl <;> rfl⟩
def pz0 : Pr := (0, 0)
theorem iv_ge (x : Fin 64) : 0 ≤ iv x ∧ iv x < 64 := by unfold iv; have := x.isLt; omega
theorem iv_inj {x y : Fin 64} : iv x = iv y ↔ x = y := by
  unfold iv
  constructor
  · intro h; exact Fin.ext (by omega)
  · rintro rfl; rfl
theorem iv_beq (x y : Fin 64) : (iv x == iv y) = (x == y) := by
  rw [Bool.eq_iff_iff, beq_iff_eq, beq_iff_eq, iv_inj]
def cmpPr (p q : Pr) : Int := if (iv p.1 != iv q.1) = true then iv p.1 - iv q.1 else iv p.2 - iv q.2
theorem cmpPr_is : IsCmp cmpPr where
  eq p q := by
    unfold cmpPr
    split
    · rename_i h
      have h1 : iv p.1 ≠ iv q.1 := by simpa using h
      constructor
      · intro e; omega
      · rintro rfl; exact absurd rfl h1
    · rename_i h
      have h1 : iv p.1 = iv q.1 := by simpa using h
      constructor
      · intro e
        have h2 : iv p.2 = iv q.2 := by omega
        exact Prod.ext (iv_inj.1 h1) (iv_inj.1 h2)
      · rintro rfl; omega
  anti p q := by
    unfold cmpPr
    by_cases h : iv p.1 = iv q.1
    · rw [if_neg (by simpa using h.symm), if_neg (by simpa using h)]; omega
    · rw [if_pos (by simpa using fun e => h e.symm), if_pos (by simpa using h)]; omega
  tr p q r := by
    unfold cmpPr
    by_cases h : iv p.1 = iv q.1 <;> by_cases h' : iv q.1 = iv r.1 <;> by_cases h'' : iv p.1 = iv r.1 <;>
      (try rw [if_neg (by simpa using h)]) <;> (try rw [if_pos (by simpa using h)]) <;> (try rw [if_neg (by simpa using h')]) <;> (try rw [if_pos (by simpa using h')]) <;> (try rw [if_neg (by simpa using h'')]) <;> (try rw [if_pos (by simpa using h'')]) <;> omega
end Go.Lx
