/- slices.SortFunc over keys, by the library's contract, laid at this translation. -/
import Derived.Test.YtdnkjdmfnmdpdaaGreatDoorPure11g
import Derived.Test.YtdnkjdmfnmdpdaaGreatDoorCs
import Derived.Test.YtdnkjdmfnmdpdaaGreatDoorWcs
import Derived.Test.YtdnkjdmfnmdpdaaGreatDoorShelf
set_option linter.unusedSimpArgs false
set_option linter.unusedVariables false
set_option linter.unnecessarySimpa false
namespace Go.Proofs.YtdnkjdmfnmdpdaaGreatDoor
open Go Go.Lx Go.RowKit Go.Shelf Go.Lib Go.Sort
set_option maxRecDepth 100000
abbrev VKy := { x : OKey // Wk x ∧ Kr x }
def encVk (x : VKy) : List Value := encCk x.1
theorem encVk_ok : EncOk encVk 6 := ⟨by decide, fun x => encCk_ok.len x.1, fun x => encCk_ok.one x.1⟩
instance : Inhabited VKy := ⟨⟨⟨1, 1, 1, pz⟩, .inl rfl, ⟨by decide, by decide, by decide, pz_ok⟩⟩⟩
theorem cmpK_an {x y : OKey} (hx : Wk x) (hy : Wk y) : cmpK y x = - cmpK x y := cmpK_is.anti ⟨x, hx⟩ ⟨y, hy⟩
theorem swoK : Sort.SWO (ltOf fun a b : VKy => cmpK a.1 b.1) where
 irrefl x := by
  have h2 := cmpK_self x.2.1
  simp only [ltOf, decide_eq_false_iff_not]; omega
 trans x y z h1 h2 := by
  simp only [ltOf, decide_eq_true_eq] at *
  exact cmpK_is.tr ⟨x.1, x.2.1⟩ ⟨y.1, y.2.1⟩ ⟨z.1, z.2.1⟩ h1 h2
 ntrans x y z h1 h2 := by
  simp only [ltOf, decide_eq_false_iff_not] at *
  intro h
  have a1 : cmpK y.1 x.1 = - cmpK x.1 y.1 := cmpK_an x.2.1 y.2.1
  have a2 : cmpK z.1 y.1 = - cmpK y.1 z.1 := cmpK_an y.2.1 z.2.1
  have a3 : cmpK z.1 x.1 = - cmpK x.1 z.1 := cmpK_an x.2.1 z.2.1
  by_cases e : cmpK x.1 y.1 = 0
  ·have e1 : x.1 = y.1 := Subtype.mk.inj ((cmpK_is.eq ⟨x.1, x.2.1⟩ ⟨y.1, y.2.1⟩).1 e)
   rw [← e1] at h2
   exact h2 h
  ·by_cases e2 : cmpK y.1 z.1 = 0
   ·have e1 : y.1 = z.1 := Subtype.mk.inj ((cmpK_is.eq ⟨y.1, y.2.1⟩ ⟨z.1, z.2.1⟩).1 e2)
    rw [e1] at h1
    exact h1 h
   ·have : cmpK z.1 x.1 < 0 := cmpK_is.tr ⟨z.1, z.2.1⟩ ⟨y.1, y.2.1⟩ ⟨x.1, x.2.1⟩ (by show cmpK z.1 y.1 < 0; omega) (by show cmpK y.1 x.1 < 0; omega)
    omega
theorem cmpLaysK (blk off size : Nat) (w : World) : CmpLays Tryz.prog 66 #[] encVk 6 (fun a b : VKy => cmpK a.1 b.1) blk off size w :=
 fun m os dk _ x y => Calls.mono (ccmpk_ok True x.1 y.1 x.2.2 y.2.2 (sortWorldK encVk 6 w blk off m dk os)) fun _ _ ⟨_, h1, h2, h3⟩ => ⟨by rw [h1, h2], ext_grow h3⟩
theorem fm_vk (l : List VKy) : l.flatMap encVk = (l.map (·.1)).flatMap encCk := by
 rw [List.flatMap_map]; rfl
theorem own_vk {D : Nat → Prop} {e : TypeId} {w : World} {v : Value} {l : List VKy} : Own encVk 6 e D w v l ↔ Own encCk 6 e D w v (l.map (·.1)) :=
 ⟨fun h => ⟨by rw [← fm_vk, List.length_map]; exact h.row, h.loc⟩, fun h => ⟨by rw [fm_vk, ← List.length_map (f := (·.1))]; exact h.row, h.loc⟩⟩
def vkL : (l : List OKey) → (∀ x ∈ l, Wk x ∧ Kr x) → List VKy
 | [], _ => []
 | x :: r, h => ⟨x, h x (by simp)⟩ :: vkL r (fun y hy => h y (by simp [hy]))
theorem vkL_map : ∀ (l : List OKey) (h : ∀ x ∈ l, Wk x ∧ Kr x), (vkL l h).map (·.1) = l
 | [], _ => rfl
 | x :: r, h => by simp [vkL, vkL_map r]
theorem sortcl_ok (D : Nat → Prop) (v : Value) (l : List OKey) (w : World) (ho : Own encCk 6 55 D w v l) (hl : l.length ≤ 1000000) (hv : ∀ x ∈ l, Wk x ∧ Kr x) :
  Ok Tryz.prog 65 #[v, .func (.func 66) #[] #[]] w fun v' w' => v' = .tuple #[] ∧ Bel False D w w' ∧ ∃ l' : List OKey, l'.Perm l ∧ l'.Pairwise (fun x y => cmpK x y ≤ 0) ∧ Own encCk 6 55 D w' v l' := by
 have hlv := vkL_map l hv
 generalize vkL l hv = lv at hlv
 subst hlv
 rw [List.length_map] at hl
 rw [← own_vk] at ho
 rcases ho.row.2 with ⟨h1, h2⟩ | ⟨g, cap, cur, h1, h2, h3, _⟩
 ·have : lv = [] := List.eq_nil_of_length_eq_zero h2
  subst this h1
  have hcon := AnyF.slices_SortFunc_none Tryz.sortCk none 0 (.func (.func 66) #[] #[]) w
  change Calls Tryz.prog 65 _ _ _ at hcon
  exact Calls.mono hcon fun e w' ⟨h1, h2⟩ => ⟨_, h1, rfl, by rw [h2]; exact Bel.refl _ _, [], List.Perm.refl _, List.Pairwise.nil, by rw [h2]; exact Own.nil _ _⟩
 ·subst h1
  have hlt : g < w.heap.size := (Array.getElem?_eq_some_iff.1 h3).1
  have hcon := AnyQ.slices_SortFunc Tryz.sortCk 6 Tryz.isAgg55 Tryz.sizeOf55 encVk encVk_ok.len encVk_ok.one (fun a b : VKy => cmpK a.1 b.1) swoK 66 #[] g 0 cap lv.toArray w Tryz.call66 (cmpLaysK _ _ _ _) (own_holds encVk_ok ho) hlt (by simp; omega)
  change Calls Tryz.prog 65 _ _ _ at hcon
  simp only [List.size_toArray] at hcon
  refine Calls.mono hcon ?_
  rintro e w' ⟨he, d', n, os, hp, hs, rfl⟩
  obtain ⟨hsz, _, hperm⟩ := hp
  have hsz' : d'.size = lv.length := by simpa using hsz
  obtain ⟨ho', hb⟩ := own_sorted encVk_ok (n := n) (os := os) ho hsz'
  refine ⟨_, he, rfl, hb.weak, d'.toList.map (·.1), ?_, ?_, own_vk.1 ho'⟩
  ·have e1 : d'.extract 0 lv.length = d' := by rw [← hsz']; exact Array.extract_size
   have e2 : lv.toArray.extract 0 lv.length = lv.toArray := by simp
   rw [e1, e2] at hperm
   exact hperm.map _
  ·rw [List.pairwise_map, List.pairwise_iff_getElem]
   intro i j hi hj hij
   have := hs i j (Nat.zero_le _) hij (by simpa [hsz'] using hj)
   simp only [ltOf, decide_eq_false_iff_not] at this
   have hi' : i < d'.size := by simpa using hi
   have hj' : j < d'.size := by simpa using hj
   rw [getElem!_pos d' i hi', getElem!_pos d' j hj'] at this
   have h3 := cmpK_an d'[i].2.1 d'[j].2.1
   simp only [Array.getElem_toList]
   omega
