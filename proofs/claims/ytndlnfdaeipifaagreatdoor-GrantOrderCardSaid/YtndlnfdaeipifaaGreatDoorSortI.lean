/- Several texts in one file. -/
import Derived.Test.YtndlnfdaeipifaaGreatDoorPure11g
import Derived.Test.YtndlnfdaeipifaaGreatDoorPr
import Derived.Test.YtndlnfdaeipifaaGreatDoorWpr
import Derived.Test.YtndlnfdaeipifaaGreatDoorShelf
import Derived.Test.YtndlnfdaeipifaaGreatDoorSv
import Derived.Test.YtndlnfdaeipifaaGreatDoorSlx
import Derived.Test.YtndlnfdaeipifaaGreatDoorPure11d
import Derived.Test.YtndlnfdaeipifaaGreatDoorDir
/- slices.SortFunc over pairs, by the library's contract, laid at this translation. -/
namespace Go.Proofs.YtndlnfdaeipifaaGreatDoor
open Go Go.Lx Go.RowKit Go.Shelf Go.Lib Go.Sort
set_option linter.unusedSimpArgs false
set_option linter.unusedVariables false
set_option linter.unnecessarySimpa false
set_option maxRecDepth 100000
theorem swoPr : Sort.SWO (ltOf cmpPr) where
  irrefl x := by simp [ltOf, (cmpPr_is.eq x x).2 rfl]
  trans x y z h1 h2 := by
    simp only [ltOf, decide_eq_true_eq] at *
    exact cmpPr_is.tr _ _ _ h1 h2
  ntrans x y z h1 h2 := by
    simp only [ltOf, decide_eq_false_iff_not] at *
    intro h
    have a1 := cmpPr_is.anti x y
    have a2 := cmpPr_is.anti y z
    have a3 := cmpPr_is.anti x z
    by_cases e : cmpPr x y = 0
    · have := (cmpPr_is.eq x y).1 e; subst this; omega
    · by_cases e2 : cmpPr y z = 0
      · have := (cmpPr_is.eq y z).1 e2; subst this; omega
      · have := cmpPr_is.tr z y x (by omega) (by omega); omega
theorem cmpLaysPr (blk off size : Nat) (w : World) : CmpLays Tryz.prog 138 #[] encPr 2 cmpPr blk off size w :=
  fun m os dk _ x y => Calls.mono (ocmp_ok True (sortWorldK encPr 2 w blk off m dk os) x y) fun _ _ ⟨_, h1, h2, h3⟩ => ⟨by rw [h1, h2], ext_grow h3⟩
theorem sortpr_ok (D : Nat → Prop) (v : Value) (l : List Pr) (w : World) (ho : Own encPr 2 99 D w v l) (hl : l.length ≤ 1000000) :
    Ok Tryz.prog 137 #[v, .func (.func 138) #[] #[]] w fun v' w' => v' = .tuple #[] ∧ Bel False D w w' ∧ ∃ l' : List Pr, l'.Perm l ∧ l'.Pairwise (fun x y => cmpPr x y ≤ 0) ∧ Own encPr 2 99 D w' v l' := by
  rcases ho.row.2 with ⟨h1, h2⟩ | ⟨g, cap, cur, h1, h2, h3, _⟩
  · have : l = [] := List.eq_nil_of_length_eq_zero h2
    subst this h1
    have hcon := AnyF.slices_SortFunc_none Tryz.sortI0 none 0 (.func (.func 138) #[] #[]) w
    change Calls Tryz.prog 137 _ _ _ at hcon
    exact Calls.mono hcon fun e w' ⟨h1, h2⟩ => ⟨_, h1, rfl, by rw [h2]; exact Bel.refl _ _, [], List.Perm.refl _, List.Pairwise.nil, by rw [h2]; exact Own.nil _ _⟩
  · subst h1
    have hlt : g < w.heap.size := (Array.getElem?_eq_some_iff.1 h3).1
    have hcon := AnyQ.slices_SortFunc Tryz.sortI0 2 Tryz.isAgg99 Tryz.sizeOf99 encPr encPr_ok.len encPr_ok.one cmpPr swoPr 138 #[] g 0 cap l.toArray w Tryz.call138 (cmpLaysPr _ _ _ _) (own_holds encPr_ok ho) hlt (by simp; omega)
    change Calls Tryz.prog 137 _ _ _ at hcon
    simp only [List.size_toArray] at hcon
    refine Calls.mono hcon ?_
    rintro e w' ⟨he, d', n, os, hp, hs, rfl⟩
    obtain ⟨hsz, _, hperm⟩ := hp
    have hsz' : d'.size = l.length := by simpa using hsz
    obtain ⟨ho', hb⟩ := own_sorted encPr_ok (n := n) (os := os) ho hsz'
    refine ⟨_, he, rfl, hb.weak, d'.toList, ?_, ?_, ho'⟩
    · have e1 : d'.extract 0 l.length = d' := by rw [← hsz']; exact Array.extract_size
      have e2 : l.toArray.extract 0 l.length = l.toArray := by simp
      rw [e1, e2] at hperm
      exact hperm
    · rw [List.pairwise_iff_getElem]
      intro i j hi hj hij
      have := hs i j (Nat.zero_le _) hij (by simpa [hsz'] using hj)
      simp only [ltOf, decide_eq_false_iff_not] at this
      have hi' : i < d'.size := by simpa using hi
      have hj' : j < d'.size := by simpa using hj
      rw [getElem!_pos d' i hi', getElem!_pos d' j hj'] at this
      have h2 := cmpPr_is.anti d'[j] d'[i]
      simp only [Array.getElem_toList]
      omega
end Go.Proofs.YtndlnfdaeipifaaGreatDoor
/- Books of grants: what the program and the reference make of them. Nothing of a program stands here. -/
namespace Go.Lx
open Go
set_option linter.unusedSimpArgs false
set_option linter.unusedVariables false
set_option linter.unnecessarySimpa false
structure Ent where
  r : Int
  p : Perm
  deriving DecidableEq
def encE (e : Ent) : List Value := .int .i64 e.r :: encP e.p
theorem encE_ok : EncOk encE 4 := ⟨by decide, fun _ => rfl, fun x u hu => by
  simp [encE, encP] at hu
  rcases hu with rfl | rfl | rfl | rfl <;> rfl⟩
def ez : Ent := ⟨0, pz⟩
def cmpI (a b : Int) : Int := if a < b then -1 else if b < a then 1 else 0
def cmpE (a b : Ent) : Int := if a.r != b.r then cmpI a.r b.r else cmpM a.p b.p
theorem cmpI_is : IsCmp cmpI := by
  refine ⟨fun a b => ?_, fun a b => ?_, fun a b c => ?_⟩ <;> unfold cmpI <;> (repeat' split) <;> omega
def Ve (e : Ent) : Prop := 1 ≤ e.r ∧ e.r ≤ 63 ∧ Vp e.p
abbrev VE := { e : Ent // Ve e }
def keyE (e : VE) : Int × VP := (e.1.r, ⟨e.1.p, e.2.2.2⟩)
theorem cmpE_lex (x y : VE) : cmpE x.1 y.1 = lex cmpI (fun a b : VP => cmpM a.1 b.1) (keyE x) (keyE y) := by
  show (if x.1.r != y.1.r then cmpI x.1.r y.1.r else cmpM x.1.p y.1.p) = if cmpI x.1.r y.1.r != 0 then cmpI x.1.r y.1.r else cmpM x.1.p y.1.p
  have e := cmpI_is.eq x.1.r y.1.r
  by_cases h : x.1.r = y.1.r
  · rw [if_neg (by simpa using h), if_neg (by simpa using e.2 h)]
  · rw [if_pos (by simpa using h), if_pos (by simpa using fun q => h (e.1 q))]
theorem cmpE_is : IsCmp fun a b : VE => cmpE a.1 b.1 := by
  have h := (lex_is cmpI_is cmpV_is).map keyE (fun a b h => by
    have h1 := congrArg Prod.fst h
    have h2 := congrArg Prod.snd h
    apply Subtype.ext
    obtain ⟨⟨r, p⟩, ha⟩ := a
    obtain ⟨⟨s, q⟩, hb⟩ := b
    simp only [keyE, Subtype.mk.injEq] at h1 h2
    show (⟨r, p⟩ : Ent) = ⟨s, q⟩
    rw [h1, h2])
  have e : (fun a b : VE => cmpE a.1 b.1) = fun a b => lex cmpI (fun a b : VP => cmpM a.1 b.1) (keyE a) (keyE b) := by
    funext a b; exact cmpE_lex a b
  rw [e]; exact h
theorem cmpE_eq {a b : Ent} (ha : Ve a) (hb : Ve b) : cmpE a b = 0 ↔ a = b := by
  rw [cmpE_is.eq ⟨a, ha⟩ ⟨b, hb⟩]; simp
theorem cmpE_anti {a b : Ent} (ha : Ve a) (hb : Ve b) : cmpE b a = - cmpE a b := cmpE_is.anti ⟨a, ha⟩ ⟨b, hb⟩
theorem cmpE_tr {a b c : Ent} (ha : Ve a) (hb : Ve b) (hc : Ve c) (h : cmpE a b < 0) (k : cmpE b c < 0) : cmpE a c < 0 := cmpE_is.tr ⟨a, ha⟩ ⟨b, hb⟩ ⟨c, hc⟩ h k
structure OkG (m : List Ent) : Prop where
  asc : m.Pairwise (fun x y => cmpE x y < 0)
  ve : ∀ e ∈ m, Ve e
  len : m.length ≤ 1000
theorem OkG.nil : OkG [] := ⟨List.Pairwise.nil, by simp, by simp⟩
theorem asc_get {m : List Ent} (h : m.Pairwise (fun x y => cmpE x y < 0)) {i j : Nat} (hij : i < j) (hj : j < m.length) : cmpE (m.getD i ez) (m.getD j ez) < 0 := by
  have := List.pairwise_iff_getElem.1 h i j (by omega) hj hij
  simpa [List.getD, show i < m.length by omega, hj] using this
structure BsG (m : List Ent) (x : Ent) (i j : Nat) : Prop where
  le : i ≤ j
  len : j ≤ m.length
  low : ∀ t, t < i → cmpE (m.getD t ez) x < 0
  up : ∀ t, j ≤ t → t < m.length → 0 ≤ cmpE (m.getD t ez) x
theorem BsG.start (m : List Ent) (x : Ent) : BsG m x 0 m.length := ⟨Nat.zero_le _, Nat.le_refl _, fun t h => by omega, fun t h h2 => by omega⟩
section
variable {m : List Ent} {x : Ent} {i j : Nat} (h : BsG m x i j) (hm : OkG m) (hx : Ve x)
include h hm hx
theorem BsG.lo {k : Nat} (h1 : i ≤ k) (h2 : k < j) (hk : cmpE (m.getD k ez) x < 0) : BsG m x (k + 1) j := by
  have hl := h.len
  refine ⟨by omega, h.len, fun t ht => ?_, h.up⟩
  rcases Nat.lt_or_ge t k with h3 | h3
  · exact cmpE_tr (hm.ve _ (gm (by omega))) (hm.ve _ (gm (by omega))) hx (asc_get hm.asc h3 (by omega)) hk
  · obtain rfl : t = k := by omega
    exact hk
theorem BsG.hi {k : Nat} (h1 : i ≤ k) (h2 : k < j) (hk : ¬ cmpE (m.getD k ez) x < 0) : BsG m x i k := by
  have hl := h.len
  refine ⟨h1, by omega, h.low, fun t ht hl2 => ?_⟩
  rcases Nat.lt_or_ge k t with h3 | h3
  · rcases Int.lt_or_le (cmpE (m.getD t ez) x) 0 with h4 | h4
    · exact absurd (cmpE_tr (hm.ve _ (gm (by omega))) (hm.ve _ (gm (by omega))) hx (asc_get hm.asc h3 (by omega)) h4) hk
    · exact h4
  · obtain rfl : t = k := by omega
    omega
end
theorem BsG.uniq {m : List Ent} {x : Ent} {i j : Nat} (h : BsG m x i i) (k : BsG m x j j) : i = j := by
  have h1 := h.len
  have h2 := k.len
  rcases Nat.lt_trichotomy i j with q | q | q
  · have a := k.low i q
    have b := h.up i (Nat.le_refl _) (by omega)
    omega
  · exact q
  · have a := h.low j q
    have b := k.up j (Nat.le_refl _) (by omega)
    omega
def cntG (m : List Ent) (x : Ent) : Nat := m.findIdx fun y => decide (0 ≤ cmpE y x)
theorem cnt_bs {m : List Ent} {x : Ent} (hm : OkG m) (hx : Ve x) : BsG m x (cntG m x) (cntG m x) := by
  have hl : cntG m x ≤ m.length := List.findIdx_le_length
  refine ⟨Nat.le_refl _, hl, fun t ht => ?_, fun t ht hlt => ?_⟩
  · have h := List.not_of_lt_findIdx ht
    have hlt : t < m.length := by omega
    have e : m.getD t ez = m[t] := by simp [List.getD, hlt]
    rw [e]
    simpa using h
  · have hc : cntG m x < m.length := by omega
    have h0 : 0 ≤ cmpE (m.getD (cntG m x) ez) x := by
      have h := List.findIdx_getElem (w := hc)
      have e : m.getD (cntG m x) ez = m[cntG m x] := by simp [List.getD, hc]
      rw [e]
      exact of_decide_eq_true h
    rcases Nat.lt_or_ge (cntG m x) t with h1 | h1
    · rcases Int.lt_or_le (cmpE (m.getD t ez) x) 0 with h2 | h2
      · have := cmpE_tr (hm.ve _ (gm hc)) (hm.ve _ (gm hlt)) hx (asc_get hm.asc h1 hlt) h2
        omega
      · exact h2
    · obtain rfl : t = cntG m x := by omega
      exact h0
theorem getD_ex {m : List Ent} {e : Ent} (h : e ∈ m) : ∃ t, t < m.length ∧ m.getD t ez = e := by
  obtain ⟨t, ht, rfl⟩ := List.getElem_of_mem h
  exact ⟨t, ht, by simp [List.getD, ht]⟩
theorem BsG.fin {m : List Ent} {x : Ent} {i : Nat} (h : BsG m x i i) (hm : OkG m) (hx : Ve x) : (decide ((i : Int) < (m.length : Int)) && (cmpE (m.getD i ez) x == 0)) = decide (x ∈ m) := by
  rw [Bool.eq_iff_iff, Bool.and_eq_true, decide_eq_true_iff, decide_eq_true_iff, beq_iff_eq]
  constructor
  · rintro ⟨h1, h2⟩
    have h1' : i < m.length := by omega
    have := (cmpE_eq (hm.ve _ (gm (z := ez) h1')) hx).1 h2
    rw [← this]; exact gm h1'
  · intro hin
    obtain ⟨t, ht, e⟩ := getD_ex hin
    have h0 : cmpE (m.getD t ez) x = 0 := by rw [e]; exact (cmpE_eq hx hx).2 rfl
    rcases Nat.lt_trichotomy t i with h2 | h2 | h2
    · have := h.low t h2; omega
    · subst h2; exact ⟨by omega, h0⟩
    · have h3 := h.up i (Nat.le_refl _) (by omega)
      have h4 := asc_get hm.asc h2 ht
      rw [e] at h4
      omega
theorem insGo_at {f : Ent → Ent → Int} {p : Ent} : ∀ {m : List Ent} {i : Nat}, i ≤ m.length → (∀ t, t < i → ¬ f p (m.getD t ez) < 0) → (i < m.length → f p (m.getD i ez) < 0) → insGo f p m = m.take i ++ [p] ++ m.drop i
  | [], i, h, _, _ => by
    obtain rfl : i = 0 := by simpa using h
    rfl
  | x :: r, 0, _, _, h2 => by
    have := h2 (by simp)
    rw [insGo, if_pos (by simpa using this)]; rfl
  | x :: r, i + 1, h, h1, h2 => by
    have h0 := h1 0 (by omega)
    rw [insGo, if_neg (by simpa using h0)]
    rw [insGo_at (i := i) (by simpa using h) (fun t ht => by simpa using h1 (t + 1) (by omega)) (fun hl => by simpa using h2 (by simp; omega))]
    rfl
theorem BsG.ins {m : List Ent} {x : Ent} {i : Nat} (h : BsG m x i i) (hm : OkG m) (hx : Ve x) (hn : x ∉ m) : m.take i ++ [x] ++ m.drop i = insGo cmpE x m := by
  refine (insGo_at h.len (fun t ht => ?_) (fun hl => ?_)).symm
  · have h1 := h.low t ht
    have hl := h.len
    have h2 := cmpE_anti (hm.ve _ (gm (z := ez) (show t < m.length by omega))) hx
    omega
  · have h1 := h.up i (Nat.le_refl _) hl
    have h2 := cmpE_anti (hm.ve _ (gm (z := ez) hl)) hx
    have h3 : cmpE (m.getD i ez) x ≠ 0 := fun e => hn (by rw [← (cmpE_eq (hm.ve _ (gm (z := ez) hl)) hx).1 e]; exact gm hl)
    omega
theorem insGo_lenG {α : Type} {f : α → α → Int} {p : α} : ∀ (m : List α), (insGo f p m).length = m.length + 1
  | [] => rfl
  | x :: r => by
    rw [insGo]; split
    · rfl
    · simp [insGo_lenG r]
theorem insGo_pwE {x : Ent} {m : List Ent} (hm : OkG m) (hx : Ve x) (hn : x ∉ m) : (insGo cmpE x m).Pairwise (fun x y => cmpE x y < 0) := by
  have ha := hm.asc
  have hv := hm.ve
  clear hm
  induction m with
  | nil => simp [insGo]
  | cons y r ih =>
    have hy := hv y (by simp)
    rw [insGo]
    rw [List.pairwise_cons] at ha
    split
    · rename_i hlt
      rw [List.pairwise_cons, List.pairwise_cons]
      refine ⟨fun z hz => ?_, ha⟩
      rcases List.mem_cons.1 hz with rfl | hz
      · exact hlt
      · exact cmpE_tr hx hy (hv z (by simp [hz])) hlt (ha.1 z hz)
    · rename_i hge
      rw [List.pairwise_cons]
      refine ⟨fun z hz => ?_, ih (fun h => hn (by simp [h])) ha.2 (fun e he => hv e (by simp [he]))⟩
      rcases insGo_mem.1 hz with rfl | hz
      · have h1 := cmpE_anti hy hx
        have h2 : cmpE y z ≠ 0 := fun e => hn (by rw [← (cmpE_eq hy hx).1 e]; simp)
        omega
      · exact ha.1 z hz
def grantR (m : List Ent) (e : Ent) : List Ent × Int := if e.r < 1 ∨ 63 < e.r then (m, 1) else if checkS e.p ≠ 0 then (m, checkS e.p) else if e ∈ m then (m, 5) else if 1000 ≤ m.length then (m, 14) else (insGo cmpE e m, 0)
def dropR (m : List Ent) (e : Ent) : List Ent × Int := if e.r < 1 ∨ 63 < e.r then (m, 1) else if e ∉ m then (m, 4) else (m.filter (· != e), 0)
theorem OkG.grant {m : List Ent} (h : OkG m) {e : Ent} (he : e.p.ok) : OkG (grantR m e).1 := by
  unfold grantR
  split
  · exact h
  split
  · exact h
  split
  · exact h
  split
  · exact h
  · rename_i h1 h2 h3 h4
    have hv : Ve e := ⟨by omega, by omega, he, by omega⟩
    exact ⟨insGo_pwE h hv h3, fun x hx => (insGo_mem.1 hx).elim (fun q => q ▸ hv) (h.ve x), by rw [insGo_lenG]; omega⟩
theorem OkG.drop {m : List Ent} (h : OkG m) (e : Ent) : OkG (dropR m e).1 := by
  unfold dropR
  split
  · exact h
  split
  · exact h
  · exact ⟨h.asc.filter _, fun x hx => h.ve x (List.mem_filter.1 hx).1, Nat.le_trans (List.length_filter_le _ _) h.len⟩
theorem takeE {m : List Ent} {k : Nat} (h : k < m.length) : m.take (k + 1) = m.take k ++ [m.getD k ez] := by
  rw [List.take_succ_eq_append_getElem h]; simp [List.getD, h]
def covW (m : List Ent) (a s : Str) : W64 := m.foldl (fun w e => if coversS e.p a s then w ||| oneW e.r.toNat else w) 0
theorem covW_yes {m : List Ent} {a s : Str} {k : Nat} (h : k < m.length) (hc : coversS (m.getD k ez).p a s = true) : covW (m.take (k + 1)) a s = covW (m.take k) a s ||| oneW (m.getD k ez).r.toNat := by
  unfold covW; rw [takeE h, List.foldl_append]
  generalize m.getD k ez = y at hc ⊢
  simp [hc]
theorem covW_no {m : List Ent} {a s : Str} {k : Nat} (h : k < m.length) (hc : coversS (m.getD k ez).p a s = false) : covW (m.take (k + 1)) a s = covW (m.take k) a s := by
  unfold covW; rw [takeE h, List.foldl_append]
  generalize m.getD k ez = y at hc ⊢
  simp [hc]
section
variable {m : List Ent} {k : Nat} {s : W64} {r : Int}
end
def needB (imp : Int → Int → Bool) (x y : Ent) : Bool := !(x == y) && (x.r == y.r || imp x.r y.r) && impliesS y.p x.p
def redL (imp : Int → Int → Bool) (m l : List Ent) : List Ent := l.filter fun x => m.any (needB imp x)
section
variable {imp : Int → Int → Bool} {m l : List Ent} {k : Nat}
theorem red_yes (h : k < l.length) (hc : m.any (needB imp (l.getD k ez)) = true) : redL imp m (l.take (k + 1)) = redL imp m (l.take k) ++ [l.getD k ez] := by
  unfold redL; rw [takeE h, List.filter_append]; simp only [List.filter_cons, hc]; simp
theorem red_no (h : k < l.length) (hc : m.any (needB imp (l.getD k ez)) = false) : redL imp m (l.take (k + 1)) = redL imp m (l.take k) := by
  unfold redL; rw [takeE h, List.filter_append]; simp only [List.filter_cons, hc]; simp
theorem red_len (imp : Int → Int → Bool) (m l : List Ent) : (redL imp m l).length ≤ l.length := List.length_filter_le _ _
end
theorem anyE_succ {f : Ent → Bool} {m : List Ent} {j : Nat} (h : j < m.length) : (m.take (j + 1)).any f = ((m.take j).any f || f (m.getD j ez)) := by
  rw [takeE h, List.any_append]; simp
end Go.Lx
/- Books of grants without what is needless. Nothing of a program stands here. -/
namespace Go.Lx
open Go
set_option linter.unusedSimpArgs false
set_option linter.unusedVariables false
set_option linter.unnecessarySimpa false
structure ImpOk (imp : Int → Int → Bool) : Prop where
  tr : ∀ a b c : Int, imp a b = true → imp b c = true → imp a c = true
  rk : ∃ (ρ : Int → Nat) (N : Nat), (∀ a, ρ a ≤ N) ∧ ∀ a b, imp a b = true → a = b ∨ ρ a < ρ b
end Go.Lx
/- Books of grants in memory; the law's operations. Nothing of a program stands here. -/
namespace Go.Lx
open Go Go.RowKit
set_option linter.unusedSimpArgs false
set_option linter.unusedVariables false
set_option linter.unnecessarySimpa false
def GbIs (w : World) (v : Value) (m : List Ent) : Prop := ∃ p a c, v = .pointer (some ⟨p, 0, none⟩) ∧ At w p 0 [.slice a m.length c] ∧ Sl encE 4 (Lt w.heap.size) w a c m
theorem GbIs.ext {γ : Prop} {w w' : World} {v : Value} {m : List Ent} (h : GbIs w v m) (x : Ext γ w w') : GbIs w' v m :=
  let ⟨p, a, c, h1, h2, h3⟩ := h
  ⟨p, a, c, h1, h2.keep x id, (h3.ext x).top⟩
def GbF (F : Nat → Prop) (w : World) (v : Value) (m : List Ent) : Prop := ∃ p a c, v = .pointer (some ⟨p, 0, none⟩) ∧ F p ∧ At w p 0 [.slice a m.length c] ∧ Sl encE 4 F w a c m
section
variable {F F' D : Nat → Prop} {γ : Prop} {w w' : World} {v : Value} {m : List Ent}
theorem GbF.keep (h : GbF F w v m) (x : Bel γ D w w') (hd : ∀ b, b < w.heap.size → F b → ¬ D b) : GbF F w' v m :=
  let ⟨p, a, c, h1, h2, h3, h4⟩ := h
  ⟨p, a, c, h1, h2, h3.keep x (hd p h3.lt h2), h4.keep x hd⟩
theorem GbF.ext (h : GbF F w v m) (x : Ext γ w w') : GbF F w' v m := h.keep x fun _ _ _ => id
theorem GbF.mono (h : GbF F w v m) (hd : ∀ b, b < w.heap.size → F b → F' b) : GbF F' w v m :=
  let ⟨p, a, c, h1, h2, h3, h4⟩ := h
  ⟨p, a, c, h1, hd p h3.lt h2, h3, h4.mono hd⟩
theorem GbF.is (h : GbF F w v m) : GbIs w v m :=
  let ⟨p, a, c, h1, _, h3, h4⟩ := h
  ⟨p, a, c, h1, h3, h4.top⟩
theorem GbIs.f (h : GbIs w v m) : GbF (Lt w.heap.size) w v m :=
  let ⟨p, a, c, h1, h3, h4⟩ := h
  ⟨p, a, c, h1, h3.lt, h3, h4⟩
end
def GbP (w : World) (p : Value) (e : Int) (m : List Ent) : Prop := (e = 0 → GbIs w p m) ∧ (e ≠ 0 → p = .pointer none)
theorem GbP.ext {γ : Prop} {w w' : World} {p : Value} {e : Int} {m : List Ent} (h : GbP w p e m) (x : Ext γ w w') : GbP w' p e m := ⟨fun he => (h.1 he).ext x, h.2⟩
def GbO (w : World) (p : Value) (m : List Ent) : Prop := GbIs w p m ∨ p = .pointer none ∧ m = []
theorem GbO.ext {γ : Prop} {w w' : World} {p : Value} {m : List Ent} (h : GbO w p m) (x : Ext γ w w') : GbO w' p m := h.imp (·.ext x) id
theorem gb_new {w : World} {p : Nat} {T : TypeId} {a : Option Addr} {c k : Nat} {m : List Ent} {D : Nat → Prop} {e : TypeId} (hb : Box w p T [.slice a k c]) (hk : k = m.length) (ho : Own encE 4 e D w (.slice a k c) m) : GbIs w (.pointer (some ⟨p, 0, none⟩)) m := by
  subst hk
  exact ⟨p, a, c, rfl, hb.at, (ho.slA encE_ok).top⟩
theorem gb_nil {w : World} {p : Nat} {T : TypeId} (hb : Box w p T [.slice none 0 0]) : GbIs w (.pointer (some ⟨p, 0, none⟩)) [] := ⟨p, none, 0, rfl, hb.at, Sl.none⟩
structure GOp where
  wd : Bool
  rl : UInt8
  p : RawV
def encGo (o : GOp) : List Value := .bool o.wd :: .int .u8 (o.rl.toNat : Int) :: encR o.p
def goz : GOp := ⟨false, 0, rz⟩
def roleL : List Int := [0, 63, 64, -1, 65, 62]
def roleN (n : UInt8) : Int := if 250 ≤ n.toNat then roleL.getD (n.toNat - 250) 0 else 1 + ((n.toNat % 6 : Nat) : Int)
def GOp.ent (o : GOp) : Ent := ⟨roleN o.rl, o.p.perm⟩
theorem GOp.okp (o : GOp) : o.ent.p.ok := o.p.ok
def stepGr (m : List Ent) (o : GOp) : List Ent × Int := if o.wd then dropR m o.ent else grantR m o.ent
theorem OkG.step {m : List Ent} (h : OkG m) (o : GOp) : OkG (stepGr m o).1 := by
  unfold stepGr
  split
  · exact h.drop _
  · exact h.grant o.okp
theorem half_natE {n : Nat} (h : n < 18446744073709551616) : (BitVec.ofNat 64 n >>> 1).toNat = n / 2 := by
  rw [BitVec.toNat_ushiftRight, BitVec.toNat_ofNat, Nat.mod_eq_of_lt (by omega), Nat.shiftRight_eq_div_pow]
end Go.Lx
/- Which role implies which. Nothing of a program stands here. -/
namespace Go.Lx
open Go
set_option linter.unusedSimpArgs false
set_option linter.unusedVariables false
set_option linter.unnecessarySimpa false
def ImpP (L : List Pr) (r s : Int) : Prop := ∃ a b : Fin 64, r = iv a ∧ s = iv b ∧ 1 ≤ a.val ∧ 1 ≤ b.val ∧ (b = a ∨ Rch L a b)
noncomputable def impLk (L : List Pr) (r s : Int) : Bool := @decide (ImpP L r s) (Classical.propDecidable _)
theorem impLk_iff {L : List Pr} {r s : Int} : impLk L r s = true ↔ ImpP L r s := by
  unfold impLk
  exact @decide_eq_true_iff _ (Classical.propDecidable _)
@[irreducible] def aboO (o : OV) (a : Int) : W64 := if 0 ≤ a ∧ a < (o.n : Int) then (o.above.getD a.toNat sz).x else 0
theorem imp_prog {o : OV} {L : List Pr} (h : HOk o L) (r s : Int) : (decide (1 ≤ r) && decide (r ≤ 63) && (decide (1 ≤ s) && decide (s ≤ 63)) && (r == s || hasW (aboO o s) r)) = impLk L r s := by
  rw [Bool.eq_iff_iff, impLk_iff]
  simp only [Bool.and_eq_true, Bool.or_eq_true, decide_eq_true_iff, beq_iff_eq]
  constructor
  · rintro ⟨⟨⟨h1, h2⟩, h3, h4⟩, h5⟩
    obtain ⟨a, ha⟩ : ∃ a : Fin 64, r = iv a := ⟨⟨r.toNat, by omega⟩, by unfold iv; simp; omega⟩
    obtain ⟨b, hb⟩ : ∃ a : Fin 64, s = iv a := ⟨⟨s.toNat, by omega⟩, by unfold iv; simp; omega⟩
    refine ⟨a, b, ha, hb, by unfold iv at ha; omega, by unfold iv at hb; omega, ?_⟩
    rcases h5 with h5 | h5
    · exact .inl (iv_inj.1 (by rw [← ha, ← hb, h5]))
    · refine .inr ((h.ab b a).1 ?_)
      rw [ha, hb] at h5
      unfold iv at h5
      rw [hasW_nat] at h5
      unfold aboO at h5
      rw [if_pos ⟨by omega, by have := b.isLt; rw [h.n]; omega⟩, Int.toNat_natCast] at h5
      exact h5
  · rintro ⟨a, b, rfl, rfl, h1, h2, h3⟩
    have h4 := iv_ge a
    have h5 := iv_ge b
    refine ⟨⟨⟨by unfold iv; omega, by omega⟩, by unfold iv; omega, by omega⟩, ?_⟩
    rcases h3 with rfl | h3
    · exact .inl rfl
    · refine .inr ?_
      have h6 := (h.ab b a).2 h3
      unfold iv
      rw [hasW_nat]
      unfold aboO
      rw [if_pos ⟨by omega, by have := b.isLt; rw [h.n]; omega⟩, Int.toNat_natCast]
      exact h6
def HyO (F : Nat → Prop) (w : World) (v : Value) (imp : Int → Int → Bool) : Prop := (∃ L ph po o, v = .pointer (some ⟨ph, 0, none⟩) ∧ F ph ∧ At w ph 0 [.pointer (some ⟨po, 0, none⟩)] ∧ OdAt F w po o ∧ HOk o L ∧ imp = impLk L) ∨ v = .pointer none ∧ imp = fun _ _ => false
section
variable {F F' D : Nat → Prop} {γ : Prop} {w w' : World} {v : Value} {imp : Int → Int → Bool}
theorem HyO.keep (h : HyO F w v imp) (x : Bel γ D w w') (hd : ∀ b, b < w.heap.size → F b → ¬ D b) : HyO F w' v imp :=
  h.imp (fun ⟨L, ph, po, o, h1, h2, h3, h4, h5⟩ => ⟨L, ph, po, o, h1, h2, h3.keep x (hd ph h3.lt h2), h4.keep x hd, h5⟩) id
theorem HyO.ext (h : HyO F w v imp) (x : Ext γ w w') : HyO F w' v imp := h.keep x fun _ _ _ => id
theorem HyO.mono (h : HyO F w v imp) (hd : ∀ b, b < w.heap.size → F b → F' b) : HyO F' w v imp :=
  h.imp (fun ⟨L, ph, po, o, h1, h2, h3, h4, h5⟩ => ⟨L, ph, po, o, h1, hd ph h3.lt h2, h3, h4.mono hd, h5⟩) id
theorem HyIs.hyO {L : List Pr} (h : HyIs w v L) : HyO (Lt w.heap.size) w v (impLk L) :=
  let ⟨ph, po, o, h1, h2, h3, h4⟩ := h
  .inl ⟨L, ph, po, o, h1, h2.lt, h2, h3, h4, rfl⟩
theorem HyO.none : HyO (fun _ => False) w (.pointer none) (fun _ _ => false) := .inr ⟨rfl, rfl⟩
end
end Go.Lx
