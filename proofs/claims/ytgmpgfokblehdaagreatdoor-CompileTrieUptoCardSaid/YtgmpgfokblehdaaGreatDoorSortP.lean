/- slices.SortFunc over permissions that pass the check, by the library's contract, laid at this translation. -/
import Derived.Test.YtgmpgfokblehdaaGreatDoorSort
import Derived.Test.YtgmpgfokblehdaaGreatDoorWperm
set_option linter.unusedSimpArgs false
set_option linter.unusedVariables false
set_option linter.unnecessarySimpa false
namespace Go.Proofs.YtgmpgfokblehdaaGreatDoor
open Go Go.Lx Go.RowKit Go.Shelf Go.Lib Go.Sort
set_option maxRecDepth 100000
def encV (x : VP) : List Value := encP x.1
theorem encV_ok : EncOk encV 3 := ⟨by decide, fun x => encP_ok.len x.1, fun x => encP_ok.one x.1⟩
theorem swoV : Sort.SWO (ltOf fun a b : VP => cmpM a.1 b.1) where
 irrefl x := by simp [ltOf, (cmpV_is.eq x x).2 rfl]
 trans x y z h1 h2 := by
  simp only [ltOf, decide_eq_true_eq] at *
  exact cmpV_is.tr _ _ _ h1 h2
 ntrans x y z h1 h2 := by
  simp only [ltOf, decide_eq_false_iff_not] at *
  intro h
  have a1 := cmpV_is.anti x y
  have a2 := cmpV_is.anti y z
  have a3 := cmpV_is.anti x z
  by_cases e : cmpM x.1 y.1 = 0
  ·have := (cmpV_is.eq x y).1 e; subst this; omega
  ·by_cases e2 : cmpM y.1 z.1 = 0
   ·have := (cmpV_is.eq y z).1 e2; subst this; omega
   ·have := cmpV_is.tr z y x (by omega) (by omega); omega
theorem cmpLaysV (blk off size : Nat) (w : World) : CmpLays Tryz.prog 96 #[] encV 3 (fun a b : VP => cmpM a.1 b.1) blk off size w :=
 fun m os dk _ x y => Calls.mono (Vf True x.1 x.2.1 y.1 y.2.1 (sortWorldK encV 3 w blk off m dk os)) fun _ _ ⟨_, h1, h2, h3⟩ => ⟨by rw [h1, h2], ext_grow h3⟩
theorem fm_val (l : List VP) : l.flatMap encV = (l.map (·.1)).flatMap encP := by
 rw [List.flatMap_map]; rfl
theorem own_val {D : Nat → Prop} {e : TypeId} {w : World} {v : Value} {l : List VP} : Own encV 3 e D w v l ↔ Own encP 3 e D w v (l.map (·.1)) :=
 ⟨fun h => ⟨by rw [← fm_val, List.length_map]; exact h.row, h.loc⟩, fun h => ⟨by rw [fm_val, ← List.length_map (f := (·.1))]; exact h.row, h.loc⟩⟩
theorem sortp_ok (D : Nat → Prop) (v : Value) (l : List Perm) (w : World) (ho : Own encP 3 50 D w v l) (hl : l.length ≤ 1100000) (hv : ∀ x ∈ l, Vp x) :
  Ok Tryz.prog 177 #[v, .func (.func 96) #[] #[]] w fun v' w' => v' = .tuple #[] ∧ Bel False D w w' ∧ ∃ l' : List Perm, l'.Perm l ∧ l'.Pairwise (fun x y => cmpM x y ≤ 0) ∧ Own encP 3 50 D w' v l' := by
 have hlv := vpL_map l hv
 generalize vpL l hv = lv at hlv
 subst hlv
 rw [List.length_map] at hl
 rw [← own_val] at ho
 rcases ho.row.2 with ⟨h1, h2⟩ | ⟨g, cap, cur, h1, h2, h3, _⟩
 ·have : lv = [] := List.eq_nil_of_length_eq_zero h2
  subst this h1
  have hcon := AnyF.slices_SortFunc_none Tryz.sortP none 0 (.func (.func 96) #[] #[]) w
  change Calls Tryz.prog 177 _ _ _ at hcon
  exact Calls.mono hcon fun e w' ⟨h1, h2⟩ => ⟨_, h1, rfl, by rw [h2]; exact Bel.refl _ _, [], List.Perm.refl _, List.Pairwise.nil, by rw [h2]; exact Own.nil _ _⟩
 ·subst h1
  have hlt : g < w.heap.size := (Array.getElem?_eq_some_iff.1 h3).1
  have hcon := AnyQ.slices_SortFunc Tryz.sortP 3 Tryz.isAgg50 Tryz.sizeOf50 encV encV_ok.len encV_ok.one (fun a b : VP => cmpM a.1 b.1) swoV 96 #[] g 0 cap lv.toArray w Tryz.call96 (cmpLaysV _ _ _ _) (own_holds encV_ok ho) hlt (by simp; omega)
  change Calls Tryz.prog 177 _ _ _ at hcon
  simp only [List.size_toArray] at hcon
  refine Calls.mono hcon ?_
  rintro e w' ⟨he, d', n, os, hp, hs, rfl⟩
  obtain ⟨hsz, _, hperm⟩ := hp
  have hsz' : d'.size = lv.length := by simpa using hsz
  obtain ⟨ho', hb⟩ := own_sorted encV_ok (n := n) (os := os) ho hsz'
  refine ⟨_, he, rfl, hb.weak, d'.toList.map (·.1), ?_, ?_, own_val.1 ho'⟩
  ·have e1 : d'.extract 0 lv.length = d' := by rw [← hsz']; exact Array.extract_size
   have e2 : lv.toArray.extract 0 lv.length = lv.toArray := by simp
   rw [e1, e2] at hperm
   exact hperm.map _
  ·rw [List.pairwise_map, List.pairwise_iff_getElem]
   intro i j hi hj hij
   have := hs i j (Nat.zero_le _) hij (by simpa [hsz'] using hj)
   simp only [ltOf, decide_eq_false_iff_not] at this
   have hi' : i < d'.size := by simpa using hi
   have hj' : j < d'.size := by simpa using hj
   rw [getElem!_pos d' i hi', getElem!_pos d' j hj'] at this
   have h2 := cmpV_is.anti d'[j] d'[i]
   simp only [Array.getElem_toList]
   omega
