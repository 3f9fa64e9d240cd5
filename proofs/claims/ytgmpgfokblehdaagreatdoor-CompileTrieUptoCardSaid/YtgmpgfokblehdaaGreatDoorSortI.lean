/- slices.SortFunc over pairs, by the library's contract, laid at this translation. -/
import Derived.Test.YtgmpgfokblehdaaGreatDoorWpr
set_option linter.unusedSimpArgs false
set_option linter.unusedVariables false
set_option linter.unnecessarySimpa false
namespace Go.Proofs.YtgmpgfokblehdaaGreatDoor
open Go Go.Lx Go.RowKit Go.Shelf Go.Lib Go.Sort
set_option maxRecDepth 100000
theorem swoPr : Sort.SWO (ltOf cmpPr) where
 irrefl x := by simp [ltOf, (cmpPr_is.eq x x).2 rfl]
 trans x y z h1 h2 := by
  simp only [ltOf, decide_eq_true_eq] at *
  exact cmpPr_is.tr _ _ _ h1 h2
 ntrans x y z h1 h2 := by
  simp only [ltOf, decide_eq_false_iff_not] at *
  intro h
  have a1 := cmpPr_is.anti x y
  have a2 := cmpPr_is.anti y z
  have a3 := cmpPr_is.anti x z
  by_cases e : cmpPr x y = 0
  ·have := (cmpPr_is.eq x y).1 e; subst this; omega
  ·by_cases e2 : cmpPr y z = 0
   ·have := (cmpPr_is.eq y z).1 e2; subst this; omega
   ·have := cmpPr_is.tr z y x (by omega) (by omega); omega
theorem cmpLaysPr (blk off size : Nat) (w : World) : CmpLays Tryz.prog 146 #[] encPr 2 cmpPr blk off size w :=
 fun m os dk _ x y => Calls.mono (ocmp_ok True (sortWorldK encPr 2 w blk off m dk os) x y) fun _ _ ⟨_, h1, h2, h3⟩ => ⟨by rw [h1, h2], ext_grow h3⟩
theorem sortpr_ok (D : Nat → Prop) (v : Value) (l : List Pr) (w : World) (ho : Own encPr 2 208 D w v l) (hl : l.length ≤ 1100000) :
  Ok Tryz.prog 145 #[v, .func (.func 146) #[] #[]] w fun v' w' => v' = .tuple #[] ∧ Bel False D w w' ∧ ∃ l' : List Pr, l'.Perm l ∧ l'.Pairwise (fun x y => cmpPr x y ≤ 0) ∧ Own encPr 2 208 D w' v l' := by
 rcases ho.row.2 with ⟨h1, h2⟩ | ⟨g, cap, cur, h1, h2, h3, _⟩
 ·have : l = [] := List.eq_nil_of_length_eq_zero h2
  subst this h1
  have hcon := AnyF.slices_SortFunc_none Tryz.sortI0 none 0 (.func (.func 146) #[] #[]) w
  change Calls Tryz.prog 145 _ _ _ at hcon
  exact Calls.mono hcon fun e w' ⟨h1, h2⟩ => ⟨_, h1, rfl, by rw [h2]; exact Bel.refl _ _, [], List.Perm.refl _, List.Pairwise.nil, by rw [h2]; exact Own.nil _ _⟩
 ·subst h1
  have hlt : g < w.heap.size := (Array.getElem?_eq_some_iff.1 h3).1
  have hcon := AnyQ.slices_SortFunc Tryz.sortI0 2 Tryz.isAgg208 Tryz.sizeOf208 encPr encPr_ok.len encPr_ok.one cmpPr swoPr 146 #[] g 0 cap l.toArray w Tryz.call146 (cmpLaysPr _ _ _ _) (own_holds encPr_ok ho) hlt (by simp; omega)
  change Calls Tryz.prog 145 _ _ _ at hcon
  simp only [List.size_toArray] at hcon
  refine Calls.mono hcon ?_
  rintro e w' ⟨he, d', n, os, hp, hs, rfl⟩
  obtain ⟨hsz, _, hperm⟩ := hp
  have hsz' : d'.size = l.length := by simpa using hsz
  obtain ⟨ho', hb⟩ := own_sorted encPr_ok (n := n) (os := os) ho hsz'
  refine ⟨_, he, rfl, hb.weak, d'.toList, ?_, ?_, ho'⟩
  ·have e1 : d'.extract 0 l.length = d' := by rw [← hsz']; exact Array.extract_size
   have e2 : l.toArray.extract 0 l.length = l.toArray := by simp
   rw [e1, e2] at hperm
   exact hperm
  ·rw [List.pairwise_iff_getElem]
   intro i j hi hj hij
   have := hs i j (Nat.zero_le _) hij (by simpa [hsz'] using hj)
   simp only [ltOf, decide_eq_false_iff_not] at this
   have hi' : i < d'.size := by simpa using hi
   have hj' : j < d'.size := by simpa using hj
   rw [getElem!_pos d' i hi', getElem!_pos d' j hj'] at this
   have h2 := cmpPr_is.anti d'[j] d'[i]
   simp only [Array.getElem_toList]
   omega
