/- Loops: the slots that a round writes are told by a list; all others are as they were ahead of the loop. Nothing of a program stands here. -/
import Derived.Test.YtncmjgmlnnenhaaDoorCall
namespace Go.Lx
open Go Go.RowKit
set_option linter.unusedSimpArgs false
set_option linter.unusedVariables false
set_option linter.unnecessarySimpa false
def inR (R : List (Nat × Nat)) (j : Nat) : Bool := R.any fun p => Nat.ble p.1 j && Nat.ble j p.2
def mix (R : List (Nat × Nat)) (fr base : Fr) : Fr := ⟨fun j => bif inR R j then base j else fr j, fr.ds⟩
def setL (fr : Fr) : List (Nat × Value) → Fr
  | [] => fr
  | p :: r => (setL fr r).set p.1 p.2
def slotsOk (fr : Fr) : List (Nat × Value) → Prop
  | [] => True
  | p :: r => fr p.1 = p.2 ∧ slotsOk fr r
def Off (R : List (Nat × Nat)) (fr g : Fr) : Prop := g.ds = fr.ds ∧ ∀ j, inR R j = false → g j = fr j
theorem set_ne {fr : Fr} {d j : Nat} {v : Value} (h : j ≠ d) : fr.set d v j = fr j := by
  have : Nat.beq j d = false := by
    cases hx : Nat.beq j d with
    | false => rfl
    | true => exact absurd (Nat.eq_of_beq_eq_true hx) h
  simp only [Fr.set, this, cond_false]
theorem set_eq {fr : Fr} {d : Nat} {v : Value} : fr.set d v d = v := by
  have : Nat.beq d d = true := Nat.beq_refl d
  simp only [Fr.set, this, cond_true]
theorem set_same {fr : Fr} {d : Nat} {v : Value} (h : fr d = v) : fr.set d v = fr := by
  refine Fr.ext' (fun j => ?_) rfl
  by_cases hj : j = d
  · subst hj; rw [set_eq, h]
  · rw [set_ne hj]
theorem setL_same {fr : Fr} : ∀ {L : List (Nat × Value)}, slotsOk fr L → setL fr L = fr
  | [], _ => rfl
  | p :: r, h => by rw [setL, setL_same h.2, set_same h.1]
theorem mix_same {R : List (Nat × Nat)} {fr g : Fr} (h : Off R fr g) : mix R fr g = g := by
  refine Fr.ext' (fun j => ?_) h.1.symm
  simp only [mix]
  cases hj : inR R j with
  | true => rfl
  | false => rw [cond_false, h.2 j hj]
theorem off_refl (R : List (Nat × Nat)) (fr : Fr) : Off R fr fr := ⟨rfl, fun _ _ => rfl⟩
theorem off_set {R : List (Nat × Nat)} {fr g : Fr} {d : Nat} {v : Value} (hd : inR R d = true) (h : Off R fr g) : Off R fr (g.set d v) := by
  refine ⟨h.1, fun j hj => ?_⟩
  rw [set_ne (by intro e; subst e; rw [hd] at hj; cases hj)]
  exact h.2 j hj
theorem off_put {R : List (Nat × Nat)} {fr g : Fr} {d : Nat} {v : Value} (hd : inR R d = true) (h : Off R fr g) : Off R fr (g.put (some d) v) := off_set hd h
theorem off_putN {R : List (Nat × Nat)} {fr g : Fr} {v : Value} (h : Off R fr g) : Off R fr (g.put none v) := h
theorem off_setL {R : List (Nat × Nat)} {fr g : Fr} : ∀ {L : List (Nat × Value)}, (L.all fun p => inR R p.1) = true → Off R fr g → Off R fr (setL g L)
  | [], _, h => h
  | p :: r, hL, h => by
    rw [List.all_cons, Bool.and_eq_true] at hL
    exact off_set hL.1 (off_setL hL.2 h)
theorem off_mix {R : List (Nat × Nat)} {fr base : Fr} : Off R fr (mix R fr base) := by
  refine ⟨rfl, fun j hj => ?_⟩
  simp only [mix, hj, cond_false]
def subR (R' R : List (Nat × Nat)) : Bool := R'.all fun p => R.any fun q => Nat.ble q.1 p.1 && Nat.ble p.2 q.2
theorem inR_sub {R' R : List (Nat × Nat)} {j : Nat} (h : subR R' R = true) (hj : inR R' j = true) : inR R j = true := by
  simp only [inR, List.any_eq_true, Bool.and_eq_true, Nat.ble_eq] at hj ⊢
  obtain ⟨p, hp, h1, h2⟩ := hj
  simp only [subR, List.all_eq_true, List.any_eq_true, Bool.and_eq_true, Nat.ble_eq] at h
  obtain ⟨q, hq, h3, h4⟩ := h p hp
  exact ⟨q, hq, by omega, by omega⟩
theorem off_mix' {R R' : List (Nat × Nat)} {fr fr' base : Fr} (hs : subR R' R = true) (h : Off R fr fr') : Off R fr (mix R' fr' base) := by
  refine ⟨h.1, fun j hj => ?_⟩
  have : inR R' j = false := by
    cases hx : inR R' j with
    | false => rfl
    | true => rw [inR_sub hs hx] at hj; cases hj
  simp only [mix, this, cond_false]
  exact h.2 j hj
/-- A loop: x: the ghost; S x: the slots at the round's head that count; R: the slots that a round may write. -/
theorem W_for {rd : Option Nat} {P : Program} {n : Nat} {c : Code} {K : Fr → World → Prop} {E : Nat → Fr → World → Prop} {Rt : Fr → World → Prop} {fr : Fr} {w : World} {α : Type}
    (R : List (Nat × Nat)) (S : α → List (Nat × Value)) (I : α → World → Prop) (mu : α → Nat) (x0 : α) (hS : slotsOk fr (S x0)) (h0 : I x0 w)
    (hr : ∀ x base w, I x w → W rd P n c (fun fr' w' => ∃ y, slotsOk fr' (S y) ∧ Off R fr fr' ∧ I y w' ∧ mu y < mu x) E Rt (setL (mix R fr base) (S x)) w) :
    W rd P n (.loop c) K E Rt fr w := by
  refine W_loop (fun x fr' w' => slotsOk fr' (S x) ∧ Off R fr fr' ∧ I x w') mu x0 ⟨hS, off_refl _ _, h0⟩ ?_
  rintro x fr' w' ⟨h1, h2, h3⟩
  have := hr x fr' w' h3
  rw [mix_same h2, setL_same h1] at this
  refine this.mono ?_ (fun _ _ _ h => h) (fun _ _ h => h)
  rintro fr2 w2 ⟨y, h1, h2, h3, h4⟩
  exact ⟨y, ⟨h1, h2, h3⟩, h4⟩
end Go.Lx
