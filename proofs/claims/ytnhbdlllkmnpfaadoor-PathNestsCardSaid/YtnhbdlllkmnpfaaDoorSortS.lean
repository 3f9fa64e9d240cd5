/- slices.SortFunc over paths, by the library's contract, laid at this translation. -/
import Derived.Test.YtnhbdlllkmnpfaaDoorSort
import Derived.Test.YtnhbdlllkmnpfaaDoorNorm
import Derived.Test.YtnhbdlllkmnpfaaDoorWpath2
import Derived.Test.YtnhbdlllkmnpfaaDoorPure7
import Derived.Test.YtnhbdlllkmnpfaaDoorShelf
namespace Go.Proofs.YtnhbdlllkmnpfaaDoor
open Go Go.Lx Go.RowKit Go.Shelf Go.Lib Go.Sort
set_option linter.unusedSimpArgs false
set_option linter.unusedVariables false
set_option linter.unnecessarySimpa false
set_option maxRecDepth 100000
section
variable {α : Type} [Inhabited α] {enc : α → Value} {w : World} {blk off n : Nat} {d : Array α} {os : Array Obj}
theorem flat1 (j : Nat) (hj : j < d.size) : (flatK (fun x => [enc x]) 1 d)[j]! = enc d[j]! := by
  rw [get_flatK _ _ _ _ (by omega)]
  simp [Nat.mod_one]
theorem holds1 (h : HoldsK (fun x => [enc x]) 1 w blk off d) : Holds enc w blk off d := by
  intro j hj
  have := h j (by rw [size_flatK]; omega)
  rw [flat1 j hj] at this
  exact this
theorem world1 : sortWorld enc w blk off n d os = sortWorldK (fun x => [enc x]) 1 w blk off n d os := by
  unfold sortWorld sortWorldK putRowK putRow
  congr 2
  funext c
  unfold putCells
  congr 1
  funext k x
  simp only [size_flatK, Nat.mul_one]
  split
  · rename_i h; rw [flat1 _ (by omega)]; rfl
  · rfl
end
abbrev VS : Type := { p : Str // splitOk p = true ∧ p.length ≤ 1000000 }
instance : Inhabited VS := ⟨⟨[47], by decide, by decide⟩⟩
def encW (x : VS) : Value := str x.1
theorem encW_ok : EncOk (fun x : VS => [encW x]) 1 := ⟨by decide, fun _ => rfl, fun x u hu => by simp [encW] at hu; subst hu; rfl⟩
theorem cmpP_lex (x y : VS) : cmpP x.1 y.1 = cmpL (splitL x.1) (splitL y.1) := by
  unfold cmpP
  rw [x.2.1, y.2.1]; rfl
theorem cmpW_is : IsCmp fun a b : VS => cmpP a.1 b.1 := by
  have h := IsCmp.map cmpL_is (fun x : VS => splitL x.1) (fun a b e => Subtype.ext (split_inj a.2.1 b.2.1 e))
  have e : (fun a b : VS => cmpP a.1 b.1) = fun a b : VS => cmpL (splitL a.1) (splitL b.1) := by funext a b; exact cmpP_lex a b
  rw [e]; exact h
theorem swoW : Sort.SWO (ltOf fun a b : VS => cmpP a.1 b.1) where
  irrefl x := by simp [ltOf, (cmpW_is.eq x x).2 rfl]
  trans x y z h1 h2 := by
    simp only [ltOf, decide_eq_true_eq] at *
    exact cmpW_is.tr _ _ _ h1 h2
  ntrans x y z h1 h2 := by
    simp only [ltOf, decide_eq_false_iff_not] at *
    intro h
    have a1 := cmpW_is.anti x y
    have a2 := cmpW_is.anti y z
    have a3 := cmpW_is.anti x z
    by_cases e : cmpP x.1 y.1 = 0
    · have := (cmpW_is.eq x y).1 e; subst this; omega
    · by_cases e2 : cmpP y.1 z.1 = 0
      · have := (cmpW_is.eq y z).1 e2; subst this; omega
      · have := cmpW_is.tr z y x (by omega) (by omega); omega
theorem cmpLaysW (blk off size : Nat) (w : World) : CmpLays1 Tryd.prog 21 #[] encW (fun a b : VS => cmpP a.1 b.1) blk off size w :=
  fun m os dk _ x y => Calls.mono (pcompare_ok True x.1 y.1 x.2.2 y.2.2 (sortWorld encW w blk off m dk os)) fun _ _ ⟨_, h1, h2, h3⟩ => ⟨by rw [h1, h2], ext_grow h3⟩
def vsL : (l : List Str) → (∀ x ∈ l, splitOk x = true ∧ x.length ≤ 1000000) → List VS
  | [], _ => []
  | x :: r, h => ⟨x, h x (by simp)⟩ :: vsL r fun y hy => h y (by simp [hy])
theorem vsL_map : ∀ (l : List Str) (h : ∀ x ∈ l, splitOk x = true ∧ x.length ≤ 1000000), (vsL l h).map (·.1) = l
  | [], _ => rfl
  | x :: r, h => by rw [vsL, List.map_cons, vsL_map r]
theorem fm_W (l : List VS) : l.flatMap (fun x => [encW x]) = (l.map (·.1)).flatMap encS := by
  rw [List.flatMap_map]; rfl
theorem own_W {D : Nat → Prop} {e : TypeId} {w : World} {v : Value} {l : List VS} : Own (fun x => [encW x]) 1 e D w v l ↔ Own encS 1 e D w v (l.map (·.1)) :=
  ⟨fun h => ⟨by rw [← fm_W, List.length_map]; exact h.row, h.loc⟩, fun h => ⟨by rw [fm_W, ← List.length_map (f := (·.1))]; exact h.row, h.loc⟩⟩
theorem sorts_ok (D : Nat → Prop) (v : Value) (l : List Str) (w : World) (ho : Own encS 1 9 D w v l) (hl : l.length ≤ 1000000) (hv : ∀ x ∈ l, splitOk x = true ∧ x.length ≤ 1000000) :
    Ok Tryd.prog 79 #[v, .func (.func 21) #[] #[]] w fun v' w' => v' = .tuple #[] ∧ Bel False D w w' ∧ ∃ l' : List Str, l'.Perm l ∧ l'.Pairwise (fun x y => cmpP x y ≤ 0) ∧ Own encS 1 9 D w' v l' := by
  have hlv := vsL_map l hv
  generalize vsL l hv = lv at hlv
  subst hlv
  rw [List.length_map] at hl
  rw [← own_W] at ho
  rcases ho.row.2 with ⟨h1, h2⟩ | ⟨g, cap, cur, h1, h2, h3, _⟩
  · have : lv = [] := List.eq_nil_of_length_eq_zero h2
    subst this h1
    have hcon := AnyF.slices_SortFunc_none Tryd.sortS0 none 0 (.func (.func 21) #[] #[]) w
    change Calls Tryd.prog 79 _ _ _ at hcon
    exact Calls.mono hcon fun e w' ⟨h1, h2⟩ => ⟨_, h1, rfl, by rw [h2]; exact Bel.refl _ _, [], List.Perm.refl _, List.Pairwise.nil, by rw [h2]; exact Own.nil _ _⟩
  · subst h1
    have hlt : g < w.heap.size := (Array.getElem?_eq_some_iff.1 h3).1
    have hcon := Any.slices_SortFunc Tryd.sortS encW (fun _ => rfl) (fun a b : VS => cmpP a.1 b.1) swoW 21 #[] g 0 cap lv.toArray w Tryd.call21 (cmpLaysW _ _ _ _) (holds1 (own_holds encW_ok ho)) hlt (by simp; omega)
    change Calls Tryd.prog 79 _ _ _ at hcon
    simp only [List.size_toArray] at hcon
    refine Calls.mono hcon ?_
    rintro e w' ⟨he, d', n, os, hp, hs, rfl⟩
    rw [world1]
    obtain ⟨hsz, _, hperm⟩ := hp
    have hsz' : d'.size = lv.length := by simpa using hsz
    obtain ⟨ho', hb⟩ := own_sorted encW_ok (n := n) (os := os) ho hsz'
    refine ⟨_, he, rfl, hb.weak, d'.toList.map (·.1), ?_, ?_, own_W.1 ho'⟩
    · have e1 : d'.extract 0 lv.length = d' := by rw [← hsz']; exact Array.extract_size
      have e2 : lv.toArray.extract 0 lv.length = lv.toArray := by simp
      rw [e1, e2] at hperm
      exact hperm.map _
    · rw [List.pairwise_map, List.pairwise_iff_getElem]
      intro i j hi hj hij
      have := hs i j (Nat.zero_le _) hij (by simpa [hsz'] using hj)
      simp only [ltOf, decide_eq_false_iff_not] at this
      have hi' : i < d'.size := by simpa using hi
      have hj' : j < d'.size := by simpa using hj
      rw [getElem!_pos d' i hi', getElem!_pos d' j hj'] at this
      have h2 := cmpW_is.anti d'[j] d'[i]
      simp only [Array.getElem_toList]
      omega
end Go.Proofs.YtnhbdlllkmnpfaaDoor
