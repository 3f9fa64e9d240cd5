/- slices.SortFunc over ops that pass the check, and over their keys, by the library's contract, laid at this translation. -/
import Derived.Test.YtjnjalalkbamkaaGreatDoorPure11f
import Derived.Test.YtjnjalalkbamkaaGreatDoorRg
import Derived.Test.YtjnjalalkbamkaaGreatDoorWcs
import Derived.Test.YtjnjalalkbamkaaGreatDoorShelf
set_option linter.unusedSimpArgs false
set_option linter.unusedVariables false
set_option linter.unnecessarySimpa false
namespace Go.Proofs.YtjnjalalkbamkaaGreatDoor
open Go Go.Lx Go.RowKit Go.Shelf Go.Lib Go.Sort
set_option maxRecDepth 100000
abbrev VOp := { o : COp // Vo o }
def encVo (x : VOp) : List Value := encCo x.1
theorem encVo_ok : EncOk encVo 8 := ⟨by decide, fun x => encCo_ok.len x.1, fun x => encCo_ok.one x.1⟩
instance : Inhabited VOp := ⟨⟨⟨true, 1, 1, 1, 0, pz⟩, pz_ok, by decide +kernel⟩⟩
theorem cmpO_congr {x y z : COp} (h : x.key = y.key ∧ x.add = y.add) : cmpO z x = cmpO z y := by unfold cmpO; rw [h.1, h.2]
theorem swoO : Sort.SWO (ltOf fun a b : VOp => cmpO a.1 b.1) where
 irrefl x := by simp [ltOf, cmpO_self x.2.wo]
 trans x y z h1 h2 := by
  simp only [ltOf, decide_eq_true_eq] at *
  exact cmpO_tr x.2.wo y.2.wo z.2.wo h1 h2
 ntrans x y z h1 h2 := by
  simp only [ltOf, decide_eq_false_iff_not] at *
  intro h
  have a1 := cmpO_anti x.2.wo y.2.wo
  have a2 := cmpO_anti y.2.wo z.2.wo
  have a3 := cmpO_anti x.2.wo z.2.wo
  by_cases e : cmpO x.1 y.1 = 0
  ·have e1 := (cmpO_eq x.2.wo y.2.wo).1 e
   have := cmpO_congr (z := z.1) e1
   omega
  ·by_cases e2 : cmpO y.1 z.1 = 0
   ·have e1 := (cmpO_eq y.2.wo z.2.wo).1 e2
    have := cmpO_congr (z := x.1) e1
    omega
   ·have := cmpO_tr z.2.wo y.2.wo x.2.wo (by omega) (by omega); omega
theorem cmpLaysO (blk off size : Nat) (w : World) : CmpLays Tryz.prog 94 #[] encVo 8 (fun a b : VOp => cmpO a.1 b.1) blk off size w :=
 fun m os dk _ x y => Calls.mono (ccmp_ok True x.1 y.1 x.2.kr y.2.kr (sortWorldK encVo 8 w blk off m dk os)) fun _ _ ⟨_, h1, h2, h3⟩ => ⟨by rw [h1, h2], ext_grow h3⟩
theorem fm_vo (l : List VOp) : l.flatMap encVo = (l.map (·.1)).flatMap encCo := by
 rw [List.flatMap_map]; rfl
theorem own_vo {D : Nat → Prop} {e : TypeId} {w : World} {v : Value} {l : List VOp} : Own encVo 8 e D w v l ↔ Own encCo 8 e D w v (l.map (·.1)) :=
 ⟨fun h => ⟨by rw [← fm_vo, List.length_map]; exact h.row, h.loc⟩, fun h => ⟨by rw [fm_vo, ← List.length_map (f := (·.1))]; exact h.row, h.loc⟩⟩
def voL : (l : List COp) → (∀ x ∈ l, Vo x) → List VOp
 | [], _ => []
 | x :: r, h => ⟨x, h x (by simp)⟩ :: voL r (fun y hy => h y (by simp [hy]))
theorem voL_map : ∀ (l : List COp) (h : ∀ x ∈ l, Vo x), (voL l h).map (·.1) = l
 | [], _ => rfl
 | x :: r, h => by simp [voL, voL_map r]
theorem sortco_ok (D : Nat → Prop) (v : Value) (l : List COp) (w : World) (ho : Own encCo 8 121 D w v l) (hl : l.length ≤ 1000000) (hv : ∀ x ∈ l, Vo x) :
  Ok Tryz.prog 93 #[v, .func (.func 94) #[] #[]] w fun v' w' => v' = .tuple #[] ∧ Bel False D w w' ∧ ∃ l' : List COp, l'.Perm l ∧ l'.Pairwise (fun x y => cmpO x y ≤ 0) ∧ Own encCo 8 121 D w' v l' := by
 have hlv := voL_map l hv
 generalize voL l hv = lv at hlv
 subst hlv
 rw [List.length_map] at hl
 rw [← own_vo] at ho
 rcases ho.row.2 with ⟨h1, h2⟩ | ⟨g, cap, cur, h1, h2, h3, _⟩
 ·have : lv = [] := List.eq_nil_of_length_eq_zero h2
  subst this h1
  have hcon := AnyF.slices_SortFunc_none Tryz.sortCo none 0 (.func (.func 94) #[] #[]) w
  change Calls Tryz.prog 93 _ _ _ at hcon
  exact Calls.mono hcon fun e w' ⟨h1, h2⟩ => ⟨_, h1, rfl, by rw [h2]; exact Bel.refl _ _, [], List.Perm.refl _, List.Pairwise.nil, by rw [h2]; exact Own.nil _ _⟩
 ·subst h1
  have hlt : g < w.heap.size := (Array.getElem?_eq_some_iff.1 h3).1
  have hcon := AnyQ.slices_SortFunc Tryz.sortCo 8 Tryz.isAgg121 Tryz.sizeOf121 encVo encVo_ok.len encVo_ok.one (fun a b : VOp => cmpO a.1 b.1) swoO 94 #[] g 0 cap lv.toArray w Tryz.call94 (cmpLaysO _ _ _ _) (own_holds encVo_ok ho) hlt (by simp; omega)
  change Calls Tryz.prog 93 _ _ _ at hcon
  simp only [List.size_toArray] at hcon
  refine Calls.mono hcon ?_
  rintro e w' ⟨he, d', n, os, hp, hs, rfl⟩
  obtain ⟨hsz, _, hperm⟩ := hp
  have hsz' : d'.size = lv.length := by simpa using hsz
  obtain ⟨ho', hb⟩ := own_sorted encVo_ok (n := n) (os := os) ho hsz'
  refine ⟨_, he, rfl, hb.weak, d'.toList.map (·.1), ?_, ?_, own_vo.1 ho'⟩
  ·have e1 : d'.extract 0 lv.length = d' := by rw [← hsz']; exact Array.extract_size
   have e2 : lv.toArray.extract 0 lv.length = lv.toArray := by simp
   rw [e1, e2] at hperm
   exact hperm.map _
  ·rw [List.pairwise_map, List.pairwise_iff_getElem]
   intro i j hi hj hij
   have := hs i j (Nat.zero_le _) hij (by simpa [hsz'] using hj)
   simp only [ltOf, decide_eq_false_iff_not] at this
   have hi' : i < d'.size := by simpa using hi
   have hj' : j < d'.size := by simpa using hj
   rw [getElem!_pos d' i hi', getElem!_pos d' j hj'] at this
   have h2 := cmpO_anti d'[j].2.wo d'[i].2.wo
   simp only [Array.getElem_toList]
   omega
