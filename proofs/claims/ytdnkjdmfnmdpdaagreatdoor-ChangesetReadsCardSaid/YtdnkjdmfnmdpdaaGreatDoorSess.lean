/- Several texts in one file. -/
import Derived.Test.YtdnkjdmfnmdpdaaGreatDoorWit
import Derived.Test.YtdnkjdmfnmdpdaaGreatDoorPure11
import Derived.Test.YtdnkjdmfnmdpdaaGreatDoorDraw
import Derived.Test.YtdnkjdmfnmdpdaaGreatDoorTz
set_option linter.unusedSimpArgs false
set_option linter.unusedVariables false
set_option linter.unnecessarySimpa false
/- Sessions: what the operations on a book answer. Nothing of a program stands here. -/
namespace Go.Lx
open Go
structure RS where
 n : Int
 u : Int
 x : W64
 deriving DecidableEq
def rz : RS := ⟨0, 0, 0⟩
structure OkM (m : List RS) : Prop where
 asc : m.Pairwise fun a b => a.n < b.n
 rng : ∀ s ∈ m, 1 ≤ s.n ∧ s.n ≤ 64
 usr : ∀ s ∈ m, 1 ≤ s.u ∧ s.u ≤ 256
 rol : ∀ s ∈ m, s.x.getLsbD 0 = false
theorem OkM.nil : OkM [] := ⟨List.Pairwise.nil, by simp, by simp, by simp⟩
theorem asc_lt {m : List RS} (h : m.Pairwise fun a b => a.n < b.n) {i j : Nat} (hij : i < j) (hj : j < m.length) : (m.getD i rz).n < (m.getD j rz).n := by
 have := List.pairwise_iff_getElem.1 h i j (by omega) hj hij
 simpa [List.getD, show i < m.length by omega, hj] using this
theorem OkM.ge {m : List RS} (h : OkM m) : ∀ {i : Nat}, i < m.length → (i : Int) + 1 ≤ (m.getD i rz).n := by
 intro i
 induction i with
 | zero => intro hi; have := (h.rng _ (gm (z := rz) hi)).1; omega
 | succ i ih =>
  intro hi
  have h1 := ih (by omega)
  have h2 := asc_lt h.asc (i := i) (j := i + 1) (by omega) hi
  omega
theorem OkM.len {m : List RS} (h : OkM m) : m.length ≤ 64 := by
 rcases Nat.lt_or_ge m.length 65 with h1 | h1
 ·omega
 ·have h2 := h.ge (i := m.length - 1) (by omega)
  have h3 := (h.rng _ (gm (z := rz) (show m.length - 1 < m.length by omega))).2
  omega
def gapF : List RS → Int → Nat
 | [], _ => 0
 | s :: r, k => if s.n = k then gapF r (k + 1) + 1 else 0
def gap (m : List RS) : Nat := gapF m 1
theorem gapF_uniq : ∀ (m : List RS) (k : Int) (i : Nat), i ≤ m.length → (∀ j, j < i → (m.getD j rz).n = k + j) → (i < m.length → (m.getD i rz).n ≠ k + i) → i = gapF m k
 | [], k, i, h, _, _ => by simp at h; subst h; rfl
 | s :: r, k, 0, h, h1, h2 => by
  have := h2 (by simp)
  simp at this
  simp [gapF, this]
 | s :: r, k, i + 1, h, h1, h2 => by
  have h3 := h1 0 (by omega)
  simp at h3
  rw [gapF, if_pos h3, gapF_uniq r (k + 1) i (by simpa using h) (fun j hj => by
   have := h1 (j + 1) (by omega)
   simp only [List.getD_cons_succ] at this
   rw [this]; push_cast; omega) (fun hi => by
   have := h2 (by simpa using hi)
   simp only [List.getD_cons_succ] at this
   intro e; apply this; rw [e]; push_cast; omega)]
theorem gapF_ok : ∀ (m : List RS) (k : Int), gapF m k ≤ m.length ∧ (∀ j, j < gapF m k → (m.getD j rz).n = k + j) ∧ (gapF m k < m.length → (m.getD (gapF m k) rz).n ≠ k + gapF m k)
 | [], k => by simp [gapF]
 | s :: r, k => by
  obtain ⟨h1, h2, h3⟩ := gapF_ok r (k + 1)
  by_cases e : s.n = k
  ·rw [gapF, if_pos e]
   refine ⟨by simpa using h1, ?_, ?_⟩
   ·intro j hj
    cases j with
    | zero => simp [e]
    | succ j =>
     rw [List.getD_cons_succ, h2 j (by omega)]; push_cast; omega
   ·intro hl
    rw [List.getD_cons_succ]
    have := h3 (by simpa using hl)
    intro e2; apply this; rw [e2]; push_cast; omega
  ·rw [gapF, if_neg e]
   refine ⟨by simp, by simp, ?_⟩
   intro _; simpa using e
theorem gap_uniq {m : List RS} {i : Nat} (h : i ≤ m.length) (h1 : ∀ j, j < i → (m.getD j rz).n = (j : Int) + 1) (h2 : i < m.length → (m.getD i rz).n ≠ (i : Int) + 1) : i = gap m :=
 gapF_uniq m 1 i h (fun j hj => by rw [h1 j hj]; omega) (fun hi e => h2 hi (by rw [e]; omega))
theorem gap_le (m : List RS) : gap m ≤ m.length := (gapF_ok m 1).1
theorem gap_lt {m : List RS} {j : Nat} (h : j < gap m) : (m.getD j rz).n = (j : Int) + 1 := by rw [(gapF_ok m 1).2.1 j h]; omega
theorem gap_at {m : List RS} (h : gap m < m.length) : (m.getD (gap m) rz).n ≠ (gap m : Int) + 1 := by
 have := (gapF_ok m 1).2.2 h
 intro e; exact this (by show (m.getD (gap m) rz).n = 1 + (gap m : Int); omega)
def newS (m : List RS) (u : Int) : RS := ⟨(gap m : Int) + 1, u, 0⟩
def openM (m : List RS) (u : Int) : List RS := m.take (gap m) ++ newS m u :: m.drop (gap m)
theorem mem_open {m : List RS} {u : Int} {s : RS} : s ∈ openM m u ↔ s = newS m u ∨ s ∈ m := by
 unfold openM
 rw [List.mem_append, List.mem_cons]
 have e : s ∈ m ↔ s ∈ m.take (gap m) ∨ s ∈ m.drop (gap m) := by rw [← List.mem_append, List.take_append_drop]
 rw [e]
 constructor
 ·rintro (h | h | h)
  ·exact .inr (.inl h)
  ·exact .inl h
  ·exact .inr (.inr h)
 ·rintro (h | h | h)
  ·exact .inr (.inl h)
  ·exact .inl h
  ·exact .inr (.inr h)
theorem open_len (m : List RS) (u : Int) : (openM m u).length = m.length + 1 := by
 have := gap_le m
 simp [openM]; omega
theorem gtake_n {m : List RS} {s : RS} (h : s ∈ m.take (gap m)) : s.n < (gap m : Int) + 1 := by
 obtain ⟨i, hi, rfl⟩ := List.getElem_of_mem h
 rw [List.length_take] at hi
 have := gap_lt (m := m) (j := i) (by omega)
 simp [List.getD, show i < m.length by omega] at this
 rw [List.getElem_take, this]; omega
theorem drop_n {m : List RS} (hm : OkM m) {s : RS} (h : s ∈ m.drop (gap m)) : (gap m : Int) + 1 < s.n := by
 obtain ⟨i, hi, rfl⟩ := List.getElem_of_mem h
 rw [List.length_drop] at hi
 have hg : gap m < m.length := by omega
 have h1 := gap_at hg
 have h2 := hm.ge hg
 rw [List.getElem_drop]
 have e : m[gap m + i]'(by omega) = m.getD (gap m + i) rz := by simp [List.getD, show gap m + i < m.length by omega]
 rw [e]
 cases i with
 | zero => simp only [Nat.add_zero]; omega
 | succ i =>
  have := asc_lt hm.asc (i := gap m) (j := gap m + (i + 1)) (by omega) (by omega)
  omega
theorem OkM.open {m : List RS} (h : OkM m) {u : Int} (hu : 1 ≤ u ∧ u ≤ 256) (hl : m.length < 64) : OkM (openM m u) where
 asc := by
  unfold openM
  rw [List.pairwise_append, List.pairwise_cons]
  refine ⟨h.asc.sublist (List.take_sublist _ _), ⟨fun s hs => drop_n h hs, h.asc.sublist (List.drop_sublist _ _)⟩, fun a ha b hb => ?_⟩
  have h1 := gtake_n ha
  rcases List.mem_cons.1 hb with rfl | hb
  ·exact h1
  ·have := drop_n h hb; omega
 rng s hs := by
  rcases mem_open.1 hs with rfl | hs
  ·have := gap_le m
   simp only [newS]; omega
  ·exact h.rng s hs
 usr s hs := by
  rcases mem_open.1 hs with rfl | hs
  ·exact hu
  ·exact h.usr s hs
 rol s hs := by
  rcases mem_open.1 hs with rfl | hs
  ·simp [newS]
  ·exact h.rol s hs
def fnd (m : List RS) (n : Int) : Int := ixOf (fun s => s.n == n) m
theorem fnd_no {m : List RS} {n : Int} (h : ∀ s ∈ m, s.n ≠ n) : fnd m n = -1 :=
 ixOf_none (Nat.le_refl _) (by rw [List.take_length, List.any_eq_false]; intro s hs; simpa using h s hs)
theorem no_fnd {m : List RS} {n : Int} (h : fnd m n < 0) : ∀ s ∈ m, s.n ≠ n := by
 have h1 := ixOf_ge (fun s : RS => s.n == n) m
 have h2 : decide ((0 : Int) ≤ fnd m n) = false := decide_eq_false (by omega)
 unfold fnd at h2
 rw [h2] at h1
 have := List.any_eq_false.1 h1.symm
 intro s hs; simpa using this s hs
theorem fnd_some {m : List RS} {n : Int} (h : 0 ≤ fnd m n) : ∃ i : Nat, fnd m n = i ∧ i < m.length ∧ (m.getD i rz).n = n := by
 have h3 : (fnd m n == -1) = false := by simp; omega
 obtain ⟨i, h1, h2, _, h4⟩ := ix_some rz h3
 exact ⟨i, h1, h2, by simpa using h4⟩
theorem n_inj {m : List RS} (h : OkM m) {i j : Nat} (hi : i < m.length) (hj : j < m.length) (e : (m.getD i rz).n = (m.getD j rz).n) : i = j := by
 rcases Nat.lt_trichotomy i j with h1 | h1 | h1
 ·have := asc_lt h.asc h1 hj; omega
 ·exact h1
 ·have := asc_lt h.asc h1 hi; omega
theorem fnd_at {m : List RS} (h : OkM m) {n : Int} {i : Nat} (hi : i < m.length) (hn : (m.getD i rz).n = n) : fnd m n = i := by
 rcases Int.lt_or_le (fnd m n) 0 with h1 | h1
 ·exact absurd hn (no_fnd h1 _ (gm hi))
 ·obtain ⟨j, h2, h3, h4⟩ := fnd_some h1
  rw [h2, n_inj h h3 hi (h4.trans hn.symm)]
def flt (m : List RS) (k : Int) : List RS := m.filter fun s => decide (s.n < k)
theorem flt_succ : ∀ {m : List RS} (h : m.Pairwise fun a b => a.n < b.n) (k : Int), flt m (k + 1) = flt m k ++ m.filter fun s => decide (s.n = k)
 | [], _, k => rfl
 | s :: r, h, k => by
  obtain ⟨h1, h2⟩ := List.pairwise_cons.1 h
  have ih := flt_succ h2 k
  unfold flt at ih ⊢
  rcases Int.lt_trichotomy s.n k with e | e | e
  ·rw [List.filter_cons_of_pos (by simp; omega), List.filter_cons_of_pos (by simpa using e), List.filter_cons_of_neg (by simp; omega), ih]; rfl
  ·have h3 : r.filter (fun s => decide (s.n < k)) = [] := List.filter_eq_nil_iff.2 fun t ht => by have := h1 t ht; simp; omega
   rw [List.filter_cons_of_pos (by simp; omega), List.filter_cons_of_neg (by simp; omega), List.filter_cons_of_pos (by simpa using e), ih, h3]; rfl
  ·have h3 : r.filter (fun s => decide (s.n < k)) = [] := List.filter_eq_nil_iff.2 fun t ht => by have := h1 t ht; simp; omega
   have h4 : r.filter (fun s => decide (s.n = k)) = [] := List.filter_eq_nil_iff.2 fun t ht => by have := h1 t ht; simp; omega
   rw [List.filter_cons_of_neg (by simp; omega), List.filter_cons_of_neg (by simp; omega), List.filter_cons_of_neg (by simp; omega), ih, h3, h4]
theorem flt_one : ∀ {m : List RS} (h : m.Pairwise fun a b => a.n < b.n) {s : RS} (hs : s ∈ m), m.filter (fun t => decide (t.n = s.n)) = [s]
 | [], _, s, hs => by cases hs
 | t :: r, h, s, hs => by
  obtain ⟨h1, h2⟩ := List.pairwise_cons.1 h
  rcases List.mem_cons.1 hs with rfl | hs
  ·rw [List.filter_cons_of_pos (by simp), List.filter_eq_nil_iff.2 fun t ht => by have := h1 t ht; simp; omega]
  ·rw [List.filter_cons_of_neg (by have := h1 s hs; simp; omega), flt_one h2 hs]
theorem flt_none {m : List RS} {k : Int} (h : ∀ s ∈ m, s.n ≠ k) : m.filter (fun t => decide (t.n = k)) = [] := List.filter_eq_nil_iff.2 fun t ht => by simpa using h t ht
theorem flt_all {m : List RS} (h : OkM m) : flt m 65 = m := List.filter_eq_self.2 fun s hs => by have := (h.rng s hs).2; simp; omega
theorem flt_start {m : List RS} (h : OkM m) : flt m 1 = [] := List.filter_eq_nil_iff.2 fun s hs => by have := (h.rng s hs).1; simp; omega
section
variable {m : List RS} (hm : OkM m) {u : Int} (hu : 1 ≤ u ∧ u ≤ 256) (hl : m.length < 64) {k : Int}
include hm hu hl
theorem open_hit (e : k = (gap m : Int) + 1) : flt (openM m u) (k + 1) = flt (openM m u) k ++ [newS m u] := by
 subst e
 have ho := hm.open hu hl
 rw [flt_succ ho.asc]
 congr 1
 exact flt_one ho.asc (s := newS m u) (mem_open.2 (.inl rfl))
theorem open_old {i : Nat} (hi : i < m.length) (e : (m.getD i rz).n = k) : flt (openM m u) (k + 1) = flt (openM m u) k ++ [m.getD i rz] := by
 subst e
 have ho := hm.open hu hl
 rw [flt_succ ho.asc]
 congr 1
 exact flt_one ho.asc (mem_open.2 (.inr (gm hi)))
theorem open_no (e : k ≠ (gap m : Int) + 1) (hf : fnd m k < 0) : flt (openM m u) (k + 1) = flt (openM m u) k := by
 have ho := hm.open hu hl
 rw [flt_succ ho.asc, flt_none, List.append_nil]
 intro s hs
 rcases mem_open.1 hs with rfl | hs
 ·exact fun h => e h.symm
 ·exact no_fnd hf s hs
end
theorem fnd_gap_lt {m : List RS} {k : Int} (h1 : 1 ≤ k) (h2 : k ≤ gap m) : 0 ≤ fnd m k := by
 rcases Int.lt_or_le (fnd m k) 0 with h | h
 ·obtain ⟨j, rfl⟩ : ∃ j : Nat, k = (j : Int) + 1 := ⟨(k - 1).toNat, by omega⟩
  have hj : j < gap m := by omega
  exact absurd (gap_lt hj) (no_fnd h _ (gm (by have := gap_le m; omega)))
 ·exact h
theorem fnd_gap {m : List RS} (hm : OkM m) : fnd m ((gap m : Int) + 1) < 0 := by
 rw [fnd_no]
 ·decide
 intro s hs
 rw [← List.take_append_drop (gap m) m, List.mem_append] at hs
 rcases hs with hs | hs
 ·have := gtake_n hs; omega
 ·have := drop_n hm hs; omega
theorem gap_full {m : List RS} (hm : OkM m) (h : m.length = 64) : gap m = 64 := by
 rcases Nat.lt_or_ge (gap m) 64 with h1 | h1
 ·exfalso
  have h2 : ∀ j, j < 64 → gap m ≤ j → (j : Int) + 2 ≤ (m.getD j rz).n := by
   intro j
   induction j with
   | zero =>
    intro hj hg
    have e : gap m = 0 := by omega
    have h3 := gap_at (m := m) (by omega)
    have h4 := hm.ge (i := 0) (by omega)
    rw [e] at h3; omega
   | succ j ih =>
    intro hj hg
    rcases Nat.lt_or_ge j (gap m) with h5 | h5
    ·have e : gap m = j + 1 := by omega
     have h3 := gap_at (m := m) (by omega)
     have h4 := hm.ge (i := j + 1) (by omega)
     rw [e] at h3; omega
    ·have h6 := ih (by omega) h5
     have := asc_lt hm.asc (i := j) (j := j + 1) (by omega) (by omega)
     push_cast; omega
  have h3 := h2 63 (by omega) (by omega)
  have h4 := (hm.rng _ (gm (z := rz) (show 63 < m.length by omega))).2
  omega
 ·have := gap_le m; omega
def closeM (m : List RS) (n : Int) : List RS := m.filter fun s => s.n != n
theorem close_eq {m : List RS} (hm : OkM m) {i : Nat} (hi : i < m.length) : m.take i ++ m.drop (i + 1) = closeM m (m.getD i rz).n := by
 have e : m = m.take i ++ m.getD i rz :: m.drop (i + 1) := by
  have : m.getD i rz = m[i] := by simp [List.getD, hi]
  rw [this, ← List.drop_eq_getElem_cons hi, List.take_append_drop]
 have h1 := hm.asc
 rw [e, List.pairwise_append, List.pairwise_cons] at h1
 obtain ⟨_, ⟨h3, _⟩, h4⟩ := h1
 have hr : closeM m (m.getD i rz).n = closeM (m.take i ++ m.getD i rz :: m.drop (i + 1)) (m.getD i rz).n := congrArg (fun l => closeM l (m.getD i rz).n) e
 rw [hr]
 unfold closeM
 rw [List.filter_append, List.filter_cons_of_neg (by simp), List.filter_eq_self.2, List.filter_eq_self.2]
 ·intro s hs; have := h3 s hs; rw [bne_iff_ne]; omega
 ·intro s hs; have := h4 s hs _ (List.mem_cons_self ..); rw [bne_iff_ne]; omega
theorem OkM.sub {m m' : List RS} (h : OkM m) (hs : m'.Sublist m) : OkM m' :=
 ⟨h.asc.sublist hs, fun s h1 => h.rng s (hs.subset h1), fun s h1 => h.usr s (hs.subset h1), fun s h1 => h.rol s (hs.subset h1)⟩
theorem OkM.close {m : List RS} (h : OkM m) (n : Int) : OkM (closeM m n) := h.sub List.filter_sublist
def setM (m : List RS) (i : Nat) (x : W64) : List RS := m.set i ⟨(m.getD i rz).n, (m.getD i rz).u, x⟩
theorem OkM.set {m : List RS} (h : OkM m) {i : Nat} (hi : i < m.length) {x : W64} (hx : x.getLsbD 0 = false) : OkM (setM m i x) := by
 have hs : ∀ s ∈ setM m i x, s = ⟨(m.getD i rz).n, (m.getD i rz).u, x⟩ ∨ s ∈ m := fun s hs => (List.mem_or_eq_of_mem_set hs).symm
 have hg := gm (z := rz) hi
 refine ⟨?_, ?_, ?_, ?_⟩
 ·rw [List.pairwise_iff_getElem]
  intro a b ha hb hab
  have hn : ∀ j (hj : j < (setM m i x).length), (setM m i x)[j].n = (m.getD j rz).n := by
   intro j hj
   have hj' : j < m.length := by simpa [setM] using hj
   simp only [setM, List.getElem_set]
   split
   ·rename_i e; subst e; rfl
   ·simp [List.getD, hj']
  rw [hn a ha, hn b hb]
  exact asc_lt h.asc hab (by simpa [setM] using hb)
 ·intro s h1
  rcases hs s h1 with rfl | h1
  ·exact h.rng (m.getD i rz) hg
  ·exact h.rng _ h1
 ·intro s h1
  rcases hs s h1 with rfl | h1
  ·exact h.usr (m.getD i rz) hg
  ·exact h.usr _ h1
 ·intro s h1
  rcases hs s h1 with rfl | h1
  ·exact hx
  ·exact h.rol _ h1
def openR (m : List RS) (u : Int) : List RS × Int × Int := if u < 1 ∨ 256 < u then (m, 0, 1) else if 64 ≤ m.length then (m, 0, 14) else (openM m u, (gap m : Int) + 1, 0)
def closeR (m : List RS) (n : Int) : List RS × Int := if fnd m n < 0 then (m, 4) else (closeM m n, 0)
def hasB (x : W64) (r : Int) : Bool := x.getLsbD r.toNat
def setR (m : List RS) (n r : Int) (act : Bool) : List RS × Int :=
 if r < 1 ∨ 63 < r then (m, 1) else if fnd m n < 0 then (m, 4) else
 if hasB (m.getD (fnd m n).toNat rz).x r = act then (m, if act then 5 else 4)
 else (setM m (fnd m n).toNat ((m.getD (fnd m n).toNat rz).x ^^^ oneW r.toNat), 0)
theorem OkM.openR {m : List RS} (h : OkM m) (u : Int) : OkM (openR m u).1 := by
 unfold Lx.openR
 split
 ·exact h
 ·split
  ·exact h
  ·exact h.open (by omega) (by omega)
theorem OkM.closeR {m : List RS} (h : OkM m) (n : Int) : OkM (closeR m n).1 := by
 unfold Lx.closeR
 split
 ·exact h
 ·exact h.close n
theorem OkM.setR {m : List RS} (h : OkM m) (n r : Int) (act : Bool) : OkM (setR m n r act).1 := by
 unfold Lx.setR
 split
 ·exact h
 ·split
  ·exact h
  ·split
   ·exact h
   ·obtain ⟨i, h1, h2, _⟩ := fnd_some (m := m) (n := n) (by omega)
    rw [h1, Int.toNat_natCast]
    refine h.set h2 ?_
    have := h.rol _ (gm (z := rz) h2)
    rw [BitVec.getLsbD_xor, this, oneW_get r.toNat 0 (by omega)]
    have : r.toNat ≠ 0 := by omega
    simp; omega
structure BsI (m : List RS) (n : Int) (i j : Nat) : Prop where
 le : i ≤ j
 len : j ≤ m.length
 low : ∀ t, t < i → (m.getD t rz).n < n
 up : ∀ t, j ≤ t → t < m.length → n ≤ (m.getD t rz).n
theorem BsI.start (m : List RS) (n : Int) {k : Nat} (h : k = m.length) : BsI m n 0 k := ⟨Nat.zero_le _, by omega, fun t h => by omega, fun t h h2 => by omega⟩
section
variable {m : List RS} {n : Int} {i j : Nat} (h : BsI m n i j) (hm : OkM m)
include h hm
theorem BsI.lo {k : Nat} (h1 : i ≤ k) (h2 : k < j) (hk : (m.getD k rz).n < n) : BsI m n (k + 1) j := by
 refine ⟨by omega, h.len, fun t ht => ?_, h.up⟩
 rcases Nat.lt_or_ge t k with h3 | h3
 ·have := asc_lt hm.asc h3 (by have := h.len; omega); omega
 ·obtain rfl : t = k := by omega
  exact hk
theorem BsI.hi {k : Nat} (h1 : i ≤ k) (h2 : k < j) (hk : n ≤ (m.getD k rz).n) : BsI m n i k := by
 refine ⟨h1, by have := h.len; omega, h.low, fun t ht hl => ?_⟩
 rcases Nat.lt_or_ge k t with h3 | h3
 ·have := asc_lt hm.asc h3 hl; omega
 ·obtain rfl : t = k := by omega
  exact hk
end
theorem BsI.fin {m : List RS} {n : Int} {i : Nat} (h : BsI m n i i) (hm : OkM m) : decide (0 ≤ fnd m n) = (decide (i < m.length) && decide ((m.getD i rz).n = n)) ∧ (0 ≤ fnd m n → fnd m n = i) := by
 by_cases h1 : i < m.length ∧ (m.getD i rz).n = n
 ·have e := fnd_at hm h1.1 h1.2
  refine ⟨?_, fun _ => e⟩
  rw [e, decide_eq_true h1.1, decide_eq_true h1.2]; simp
 ·have e : fnd m n = -1 := fnd_no fun s hs hn => by
   obtain ⟨t, ht, rfl⟩ := List.getElem_of_mem hs
   have et : (m.getD t rz).n = n := by simpa [List.getD, ht] using hn
   rcases Nat.lt_trichotomy t i with h2 | h2 | h2
   ·have := h.low t h2; omega
   ·subst h2; exact h1 ⟨ht, et⟩
   ·rcases Nat.lt_or_ge i m.length with h3 | h3
    ·have h4 := asc_lt hm.asc h2 ht
     have h5 := h.up i (Nat.le_refl _) h3
     omega
    ·omega
  refine ⟨?_, fun h2 => by omega⟩
  rw [e]
  symm
  rw [show decide ((0 : Int) ≤ -1) = false by decide, Bool.and_eq_false_iff]
  by_cases h2 : i < m.length
  ·exact .inr (decide_eq_false fun h3 => h1 ⟨h2, h3⟩)
  ·exact .inl (decide_eq_false h2)
theorem flt_len (m : List RS) (k : Int) : (flt m k).length ≤ m.length := List.length_filter_le _ _
structure SOp where
 k : UInt8
 s : UInt8
 u : Int
 r : Int
def numO (o : SOp) : Int := ((o.s.toNat % 70 : Nat) : Int)
def kindO (o : SOp) : Nat := o.k.toNat % 5
def stepR (m : List RS) (o : SOp) : List RS × Int :=
 if kindO o ≤ 1 then ((openR m o.u).1, (openR m o.u).2.2) else if kindO o = 2 then closeR m (numO o) else if kindO o = 3 then setR m (numO o) o.r true else setR m (numO o) o.r false
theorem OkM.step {m : List RS} (h : OkM m) (o : SOp) : OkM (stepR m o).1 := by
 unfold stepR
 split
 ·exact h.openR _
 ·split
  ·exact h.closeR _
  ·split <;> exact h.setR _ _ _
structure FullTo (m : List RS) (k : Nat) : Prop where
 ok : OkM m
 len : m.length = k
 num : ∀ j, j < k → (m.getD j rz).n = (j : Int) + 1
theorem FullTo.start : FullTo [] 0 := ⟨OkM.nil, rfl, fun j h => absurd h (Nat.not_lt_zero _)⟩
theorem FullTo.gapk {m : List RS} {k : Nat} (h : FullTo m k) : gap m = k := (gap_uniq (by rw [h.len]; exact Nat.le_refl _) h.num (fun hk => by rw [h.len] at hk; omega)).symm
theorem FullTo.open {m : List RS} {k : Nat} (h : FullTo m k) (hk : k < 64) {u : Int} (hu : 1 ≤ u ∧ u ≤ 256) : openR m u = (openM m u, (k : Int) + 1, 0) ∧ FullTo (openM m u) (k + 1) := by
 have hl := h.len
 refine ⟨by rw [openR, if_neg (by omega), if_neg (by omega), h.gapk], h.ok.open hu (by omega), by rw [open_len, h.len], fun j hj => ?_⟩
 have e : openM m u = m ++ [newS m u] := by
  unfold openM
  rw [h.gapk, List.take_of_length_le (by omega), List.drop_of_length_le (by omega)]
 rw [e]
 rcases Nat.lt_or_ge j k with h1 | h1
 ·rw [← h.num j h1]
  simp [List.getD, List.getElem?_append_left (show j < m.length by omega)]
 ·have : j = m.length := by omega
  subst this
  simp [List.getD, newS, h.gapk, hl]
theorem FullTo.close {m : List RS} (h : FullTo m 64) {x : Nat} (hx : x < 64) : closeR m ((x : Int) + 1) = (closeM m ((x : Int) + 1), 0) ∧ OkM (closeM m ((x : Int) + 1)) ∧ (closeM m ((x : Int) + 1)).length = 63 ∧ gap (closeM m ((x : Int) + 1)) = x := by
 have hl := h.len
 have hn := h.num x hx
 have hf : fnd m ((x : Int) + 1) = x := fnd_at h.ok (by omega) hn
 have e := close_eq h.ok (i := x) (by omega)
 rw [hn] at e
 refine ⟨by rw [closeR, if_neg (by omega)], h.ok.close _, ?_, ?_⟩
 ·rw [← e]; simp; omega
 ·refine (gap_uniq ?_ (fun j hj => ?_) (fun hlt => ?_)).symm
  ·rw [← e]; simp; omega
  ·rw [← e, ← h.num j (by omega)]
   have h1 : j < (m.take x).length := by simp; omega
   simp [List.getD, List.getElem?_append_left h1, List.getElem?_take, hj]
  ·rw [← e] at hlt ⊢
   have h1 : (m.take x).length = x := by simp; omega
   have h2 : (m.take x ++ m.drop (x + 1)).getD x rz = m.getD (x + 1) rz := by
    simp only [List.getD]
    rw [List.getElem?_append_right (by omega), h1, Nat.sub_self, List.getElem?_drop, Nat.add_zero]
   have h3 : x + 1 < 64 := by simp at hlt; omega
   rw [h2, h.num (x + 1) h3]
   push_cast; omega
end Go.Lx
/- A book of sessions in memory, the program's and the reference's. Nothing of a program stands here. -/
namespace Go.Lx
open Go Go.RowKit
structure SE where
 n : Int
 u : Int
 a : Option Addr
 c : Nat
 x : W64
def encSe (s : SE) : List Value := [.int .i64 s.n, .int .i64 s.u, .slice s.a (wl s.x).length s.c]
def SE.rs (s : SE) : RS := ⟨s.n, s.u, s.x⟩
def encRs (s : RS) : List Value := [.int .i64 s.n, .int .i64 s.u, u64 s.x]
theorem encRs_ok : EncOk encRs 3 := ⟨by decide, fun _ => rfl, fun x u hu => by
 simp [encRs] at hu
 rcases hu with rfl | rfl | rfl <;> rfl⟩
def SesAt (F : Nat → Prop) (w : World) (l : List SE) : Prop := ∀ s ∈ l, Sl encU 1 F w s.a s.c (wl s.x)
structure BV where
 ap : Option Addr
 cp : Nat
 l : List SE
structure BkAt (F : Nat → Prop) (w : World) (p : Nat) (b : BV) : Prop where
 blk : F p
 at' : At w p 0 [.slice b.ap b.l.length b.cp]
 sl : Sl encSe 3 F w b.ap b.cp b.l
 ws : SesAt F w b.l
def BV.m (b : BV) : List RS := b.l.map SE.rs
section
variable {F F' D : Nat → Prop} {γ : Prop} {w w' : World} {p : Nat} {b : BV} {l : List SE}
theorem SesAt.keep (h : SesAt F w l) (x : Bel γ D w w') (hd : ∀ b, b < w.heap.size → F b → ¬ D b) : SesAt F w' l := fun s hs => (h s hs).keep x hd
theorem SesAt.mono (h : SesAt F w l) (hd : ∀ b, b < w.heap.size → F b → F' b) : SesAt F' w l := fun s hs => (h s hs).mono hd
theorem SesAt.ext (h : SesAt F w l) (x : Ext γ w w') : SesAt F w' l := fun s hs => (h s hs).ext x
theorem SesAt.nil : SesAt F w [] := fun s hs => by cases hs
theorem SesAt.cons {s : SE} (h : Sl encU 1 F w s.a s.c (wl s.x)) (k : SesAt F w l) : SesAt F w (s :: l) := fun t ht => by
 rcases List.mem_cons.1 ht with rfl | ht
 ·exact h
 ·exact k t ht
theorem SesAt.sub {r : List SE} (h : SesAt F w l) (hs : ∀ s ∈ r, s ∈ l) : SesAt F w r := fun s h1 => h s (hs s h1)
theorem SesAt.set {s : SE} {i : Nat} (h : SesAt F w l) (hs : Sl encU 1 F w s.a s.c (wl s.x)) : SesAt F w (l.set i s) := fun t ht => by
 rcases List.mem_or_eq_of_mem_set ht with ht | rfl
 ·exact h t ht
 ·exact hs
theorem BkAt.lt (h : BkAt F w p b) : p < w.heap.size := h.at'.lt
theorem BkAt.keep (h : BkAt F w p b) (x : Bel γ D w w') (hd : ∀ b, b < w.heap.size → F b → ¬ D b) : BkAt F w' p b :=
 ⟨h.blk, h.at'.keep x (hd p h.lt h.blk), h.sl.keep x hd, h.ws.keep x hd⟩
theorem BkAt.ext (h : BkAt F w p b) (x : Ext γ w w') : BkAt F w' p b := h.keep x fun _ _ _ => id
theorem BkAt.mono (h : BkAt F w p b) (hd : ∀ b, b < w.heap.size → F b → F' b) : BkAt F' w p b :=
 ⟨hd p h.lt h.blk, h.at', h.sl.mono hd, h.ws.mono hd⟩
theorem BkAt.top (h : BkAt F w p b) : BkAt (Lt w.heap.size) w p b := h.mono fun _ hb _ => hb
end
def BkIs (w : World) (v : Value) (m : List RS) : Prop := ∃ p b, v = .pointer (some ⟨p, 0, none⟩) ∧ BkAt (Lt w.heap.size) w p b ∧ b.m = m
def BkP (w : World) (p : Value) (e : Int) (m : List RS) : Prop := (e = 0 → BkIs w p m) ∧ (e ≠ 0 → p = .pointer none)
theorem BkIs.ext {γ : Prop} {w w' : World} {v : Value} {m : List RS} (h : BkIs w v m) (x : Ext γ w w') : BkIs w' v m :=
 let ⟨p, b, h1, h2, h3⟩ := h
 ⟨p, b, h1, (h2.ext x).top, h3⟩
theorem BkP.ext {γ : Prop} {w w' : World} {p : Value} {e : Int} {m : List RS} (h : BkP w p e m) (x : Ext γ w w') : BkP w' p e m := ⟨fun he => (h.1 he).ext x, h.2⟩
theorem BkAt.is {F : Nat → Prop} {w : World} {p : Nat} {b : BV} (h : BkAt F w p b) : BkIs w (.pointer (some ⟨p, 0, none⟩)) b.m := ⟨p, b, rfl, h.top, rfl⟩
theorem SesAt.top {F : Nat → Prop} {w : World} {l : List SE} (h : SesAt F w l) : SesAt (Lt w.heap.size) w l := h.mono fun _ hb _ => hb
end Go.Lx
/- Links: what a list of pairs reaches; the closure of a set of roles, of a hierarchy and of the reference. Nothing of a program stands here. -/
namespace Go.Lx
open Go
theorem rch_congr {ps qs : List Pr} (h : ∀ x, x ∈ ps → x ∈ qs) {a b : Fin 64} (r : Rch ps a b) : Rch qs a b := by
 induction r with
 | one h1 => exact .one (h _ h1)
 | snoc _ h2 ih => exact .snoc ih (h _ h2)
theorem BelS.congr {ps qs : List Pr} (h : ∀ x, x ∈ ps ↔ x ∈ qs) {f : Nat → W64} (hb : BelS ps f) : BelS qs f := fun a c =>
 (hb a c).trans ⟨rch_congr fun x => (h x).1, rch_congr fun x => (h x).2⟩
theorem AboS.congr {ps qs : List Pr} (h : ∀ x, x ∈ ps ↔ x ∈ qs) {f : Nat → W64} (hb : AboS ps f) : AboS qs f := fun b c =>
 (hb b c).trans ⟨rch_congr fun x => (h x).1, rch_congr fun x => (h x).2⟩
theorem w64_ext {x y : W64} (h : ∀ c : Fin 64, x.getLsbD c.val = true ↔ y.getLsbD c.val = true) : x = y :=
 BitVec.eq_of_getLsbD_eq fun i hi => Bool.eq_iff_iff.2 (h ⟨i, hi⟩)
theorem setW_ex (p : Fin 64 → Prop) : ∃ x : W64, ∀ c : Fin 64, x.getLsbD c.val = true ↔ p c := by
 classical
 refine ⟨ofW (((List.finRange 64).filter fun c => decide (p c)).map iv), fun c => ?_⟩
 rw [ofW_get _ (by intro q hq; obtain ⟨a, _, rfl⟩ := List.mem_map.1 hq; exact iv_ge a)]
 rw [List.any_eq_true]
 constructor
 ·rintro ⟨q, hq, e⟩
  obtain ⟨a, ha, rfl⟩ := List.mem_map.1 hq
  have : a = c := iv_inj.1 (by unfold iv at e ⊢; simpa using e)
  subst this
  simpa using (List.mem_filter.1 ha).2
 ·intro h
  exact ⟨iv c, List.mem_map.2 ⟨c, List.mem_filter.2 ⟨List.mem_finRange c, by simpa using h⟩, rfl⟩, by simp [iv]⟩
def JunIs (L : List Pr) (r : Fin 64) (J : W64) : Prop := ∀ c : Fin 64, J.getLsbD c.val = true ↔ (c = r ∨ Rch L r c)
theorem JunIs.ex (L : List Pr) (r : Fin 64) : ∃ J, JunIs L r J := setW_ex _
theorem JunIs.uniq {L : List Pr} {r : Fin 64} {J K : W64} (h : JunIs L r J) (k : JunIs L r K) : J = K := w64_ext fun c => (h c).trans (k c).symm
def nxt (L : List Pr) (s : W64) : W64 := L.foldl (fun n x => if s.getLsbD x.1.val = true then n ||| oneW x.2.val else n) s
theorem nxt_succ {L : List Pr} {k : Nat} (h : k < L.length) (s : W64) : nxt (L.take (k + 1)) s = if s.getLsbD (L.getD k pz0).1.val = true then nxt (L.take k) s ||| oneW (L.getD k pz0).2.val else nxt (L.take k) s := by
 rw [takeS h, nxt, List.foldl_append]; rfl
theorem nxt_aux (s : W64) (c : Fin 64) : ∀ (L : List Pr) (n : W64), (L.foldl (fun n x => if s.getLsbD x.1.val = true then n ||| oneW x.2.val else n) n).getLsbD c.val = true ↔ n.getLsbD c.val = true ∨ ∃ x ∈ L, s.getLsbD x.1.val = true ∧ x.2 = c
 | [], n => by simp
 | y :: L, n => by
  rw [List.foldl_cons, nxt_aux s c L]
  have e : (oneW y.2.val).getLsbD c.val = true ↔ y.2 = c := by
   rw [oneW_get _ _ y.2.isLt, decide_eq_true_eq]
   exact ⟨fun h => Fin.ext h.symm, fun h => by rw [h]⟩
  by_cases h : s.getLsbD y.1.val = true
  ·rw [if_pos h, BitVec.getLsbD_or, Bool.or_eq_true, e]
   constructor
   ·rintro ((h1 | h1) | ⟨x, h1, h2⟩)
    ·exact .inl h1
    ·exact .inr ⟨y, by simp, h, h1⟩
    ·exact .inr ⟨x, by simp [h1], h2⟩
   ·rintro (h1 | ⟨x, h1, h2, h3⟩)
    ·exact .inl (.inl h1)
    ·rcases List.mem_cons.1 h1 with rfl | h1
     ·exact .inl (.inr h3)
     ·exact .inr ⟨x, h1, h2, h3⟩
  ·rw [if_neg h]
   constructor
   ·rintro (h1 | ⟨x, h1, h2⟩)
    ·exact .inl h1
    ·exact .inr ⟨x, by simp [h1], h2⟩
   ·rintro (h1 | ⟨x, h1, h2, h3⟩)
    ·exact .inl h1
    ·rcases List.mem_cons.1 h1 with rfl | h1
     ·exact absurd h2 h
     ·exact .inr ⟨x, h1, h2, h3⟩
theorem nxt_get (L : List Pr) (s : W64) (c : Fin 64) : (nxt L s).getLsbD c.val = true ↔ s.getLsbD c.val = true ∨ ∃ x ∈ L, s.getLsbD x.1.val = true ∧ x.2 = c := nxt_aux s c L s
theorem nxt_lt {L : List Pr} {s : W64} (h : nxt L s ≠ s) : s.toNat < (nxt L s).toNat := by
 have e : s ||| nxt L s = nxt L s := w64_ext fun c => by
  rw [BitVec.getLsbD_or, Bool.or_eq_true, nxt_get]
  constructor
  ·rintro (h | h)
   ·exact .inl h
   ·exact h
  ·exact .inr
 have h1 : (nxt L s).toNat = s.toNat ||| (nxt L s).toNat := by
  conv => lhs; rw [← e]
  rfl
 have h2 : s.toNat ≤ s.toNat ||| (nxt L s).toNat := Nat.left_le_or
 have h3 : s.toNat ≠ (nxt L s).toNat := fun e2 => h (BitVec.eq_of_toNat_eq e2.symm)
 omega
structure JIn (L : List Pr) (r : Fin 64) (s : W64) : Prop where
 has : s.getLsbD r.val = true
 sub : ∀ c : Fin 64, s.getLsbD c.val = true → c = r ∨ Rch L r c
theorem JIn.start (L : List Pr) (r : Fin 64) : JIn L r (oneW r.val) := by
 have e : ∀ c : Fin 64, (oneW r.val).getLsbD c.val = true ↔ c = r := fun c => by
  rw [oneW_get _ _ r.isLt, decide_eq_true_eq]
  exact ⟨fun h => Fin.ext h, fun h => by rw [h]⟩
 exact ⟨(e r).2 rfl, fun c h => .inl ((e c).1 h)⟩
theorem JIn.next {L : List Pr} {r : Fin 64} {s : W64} (h : JIn L r s) : JIn L r (nxt L s) := by
 refine ⟨(nxt_get _ _ _).2 (.inl h.has), fun c hc => ?_⟩
 rcases (nxt_get _ _ _).1 hc with hc | ⟨x, h1, h2, rfl⟩
 ·exact h.sub c hc
 ·rcases h.sub x.1 h2 with e | h3
  ·exact .inr (.one (by rw [← e]; exact h1))
  ·exact .inr (.snoc h3 h1)
theorem JIn.done {L : List Pr} {r : Fin 64} {s : W64} (h : JIn L r s) (e : nxt L s = s) : JunIs L r s := fun c => by
 refine ⟨h.sub c, ?_⟩
 rintro (rfl | hr)
 ·exact h.has
 ·induction hr with
  | one h1 => rw [← e]; exact (nxt_get _ _ _).2 (.inr ⟨_, h1, h.has, rfl⟩)
  | snoc _ h2 ih => rw [← e]; exact (nxt_get _ _ _).2 (.inr ⟨_, h2, ih, rfl⟩)
def ClosTo (L : List Pr) (s : W64) (k : Nat) (C : W64) : Prop := ∀ c : Fin 64, C.getLsbD c.val = true ↔ ∃ r : Fin 64, 1 ≤ r.val ∧ r.val < k ∧ s.getLsbD r.val = true ∧ (c = r ∨ Rch L r c)
theorem ClosTo.uniq {L : List Pr} {s : W64} {k : Nat} {C D : W64} (h : ClosTo L s k C) (h' : ClosTo L s k D) : C = D := w64_ext fun c => (h c).trans (h' c).symm
theorem ClosTo.start (L : List Pr) (s : W64) : ClosTo L s 1 0 := fun c => by
 constructor
 ·intro h; simp at h
 ·rintro ⟨r, h1, h2, _⟩; omega
theorem ClosTo.no {L : List Pr} {s : W64} {k : Nat} {C : W64} (h : ClosTo L s k C) (hk : s.getLsbD k = false) : ClosTo L s (k + 1) C := fun c => by
 rw [h c]
 constructor
 ·rintro ⟨r, h1, h2, h3⟩; exact ⟨r, h1, by omega, h3⟩
 ·rintro ⟨r, h1, h2, h3, h4⟩
  have : r.val ≠ k := fun e => by rw [e, hk] at h3; cases h3
  exact ⟨r, h1, by omega, h3, h4⟩
structure HOk (o : OV) (L : List Pr) : Prop where
 n : o.n = 64
 ps : ∀ x, x ∈ o.pairs ↔ x ∈ L
 le : o.pairs.length ≤ L.length
 be : BelS L (xsO o.below)
 ab : AboS L (xsO o.above)
theorem HOk.jun {o : OV} {L : List Pr} (h : HOk o L) {r : Fin 64} (hr : 1 ≤ r.val) : JunIs L r (junO o r.val) := fun c => by
 have h1 := r.isLt
 unfold junO belO
 rw [if_pos ⟨by omega, by omega⟩, if_pos ⟨by omega, by rw [h.n]; omega⟩, Int.toNat_natCast, BitVec.getLsbD_or, Bool.or_eq_true, oneW_get _ _ h1, decide_eq_true_eq]
 show (xsO o.below r.val).getLsbD c.val = true ∨ _ ↔ _
 rw [h.be r c]
 constructor
 ·rintro (h2 | h2)
  ·exact .inr h2
  ·exact .inl (Fin.ext h2)
 ·rintro (rfl | h2)
  ·exact .inr rfl
  ·exact .inl h2
theorem closH_get (H : Option OV) (c : Fin 64) : ∀ (l : List Int) (x : W64), (l.foldl (fun x r => x ||| junH H r) x).getLsbD c.val = true ↔ x.getLsbD c.val = true ∨ ∃ r ∈ l, (junH H r).getLsbD c.val = true
 | [], x => by simp
 | y :: l, x => by
  rw [List.foldl_cons, closH_get H c l, BitVec.getLsbD_or, Bool.or_eq_true]
  constructor
  ·rintro ((h | h) | ⟨r, h1, h2⟩)
   ·exact .inl h
   ·exact .inr ⟨y, by simp, h⟩
   ·exact .inr ⟨r, by simp [h1], h2⟩
  ·rintro (h | ⟨r, h1, h2⟩)
   ·exact .inl (.inl h)
   ·rcases List.mem_cons.1 h1 with rfl | h1
    ·exact .inl (.inr h2)
    ·exact .inr ⟨r, h1, h2⟩
def closW (o : OV) (s : W64) : W64 := closH (some o) (memW s 64)
theorem HOk.clos {o : OV} {L : List Pr} (h : HOk o L) (s : W64) : ClosTo L s 64 (closW o s) := fun c => by
 unfold closW closH
 rw [closH_get]
 constructor
 ·rintro (h1 | ⟨r, h1, h2⟩)
  ·simp at h1
  ·obtain ⟨h3, h4⟩ := memW_ok s r h1
   obtain ⟨k, rfl⟩ : ∃ k : Fin 64, r = (k.val : Int) := ⟨⟨r.toNat, by omega⟩, by simp; omega⟩
   have h5 : 1 ≤ k.val := by
    rcases Nat.eq_zero_or_pos k.val with e | e
    ·exfalso
     have : junH (some o) (k.val : Int) = 0 := by
      show junO o (k.val : Int) = 0
      unfold junO; rw [if_neg (by omega)]
     rw [this] at h2; simp at h2
    ·exact e
   exact ⟨k, h5, k.isLt, (mem_val).1 h1, (h.jun h5 c).1 h2⟩
 ·rintro ⟨r, h1, _, h3, h4⟩
  exact .inr ⟨(r.val : Int), mem_val.2 h3, (h.jun h1 c).2 h4⟩
section
variable {o : OV} {L : List Pr} (h : HOk o L)
include h
theorem HOk.mono {s t : W64} (hs : ∀ i, s.getLsbD i = true → t.getLsbD i = true) : subW (closW o s) (closW o t) = true := by
 refine sub_iff.2 fun i hi => ?_
 rcases Nat.lt_or_ge i 64 with hl | hl
 ·obtain ⟨r, h1, h2, h3, h4⟩ := (h.clos s ⟨i, hl⟩).1 hi
  exact (h.clos t ⟨i, hl⟩).2 ⟨r, h1, h2, hs _ h3, h4⟩
 ·rw [BitVec.getLsbD_of_ge _ _ hl] at hi; cases hi
end
structure LkOk (L : List Pr) (ρ : Fin 64 → Nat) : Prop where
 rk : ∀ x ∈ L, ρ x.1 < ρ x.2
 nd : L.Nodup
 po : ∀ x ∈ L, 1 ≤ x.1.val ∧ 1 ≤ x.2.val
theorem LkOk.nil (ρ : Fin 64 → Nat) : LkOk [] ρ := ⟨by simp, List.nodup_nil, by simp⟩
def InsP (L : List Pr) (x : Pr) (M : List Pr) : Prop := ∃ i, i ≤ L.length ∧ M = L.take i ++ x :: L.drop i
theorem InsP.mem {L M : List Pr} {x : Pr} (h : InsP L x M) (y : Pr) : y ∈ M ↔ y = x ∨ y ∈ L := by
 obtain ⟨i, _, rfl⟩ := h
 have e : y ∈ L ↔ y ∈ L.take i ∨ y ∈ L.drop i := by rw [← List.mem_append, List.take_append_drop]
 rw [e, List.mem_append, List.mem_cons]
 constructor
 ·rintro (h | h | h)
  ·exact .inr (.inl h)
  ·exact .inl h
  ·exact .inr (.inr h)
 ·rintro (h | h | h)
  ·exact .inr (.inl h)
  ·exact .inl h
  ·exact .inr (.inr h)
theorem InsP.len {L M : List Pr} {x : Pr} (h : InsP L x M) : M.length = L.length + 1 := by
 obtain ⟨i, hi, rfl⟩ := h
 simp; omega
theorem LkOk.ins {L M : List Pr} {ρ : Fin 64 → Nat} {x : Pr} (h : LkOk L ρ) (hi : InsP L x M) (hn : x ∉ L) (hr : ρ x.1 < ρ x.2) (hp : 1 ≤ x.1.val ∧ 1 ≤ x.2.val) : LkOk M ρ := by
 refine ⟨fun y hy => ?_, ?_, fun y hy => ?_⟩
 ·rcases (hi.mem y).1 hy with rfl | hy
  ·exact hr
  ·exact h.rk y hy
 ·obtain ⟨i, _, rfl⟩ := hi
  have e := h.nd
  rw [← List.take_append_drop i L, List.nodup_append] at e
  obtain ⟨e1, e2, e3⟩ := e
  rw [List.nodup_append, List.nodup_cons]
  refine ⟨e1, ⟨fun hx => hn (List.mem_of_mem_drop hx), e2⟩, fun a ha b hb => ?_⟩
  rcases List.mem_cons.1 hb with rfl | hb
  ·rintro rfl; exact hn (List.mem_of_mem_take ha)
  ·exact e3 a ha b hb
 ·rcases (hi.mem y).1 hy with rfl | hy
  ·exact hp
  ·exact h.po y hy
theorem LkOk.acyc {L : List Pr} {ρ : Fin 64 → Nat} (h : LkOk L ρ) {a b : Fin 64} (hr : ρ a < ρ b) {J : W64} (hJ : JunIs L b J) : J.getLsbD a.val = false := by
 cases hb : J.getLsbD a.val with
 | false => rfl
 | true =>
  rcases (hJ a).1 hb with rfl | h1
  ·omega
  ·have := rch_rank h.rk h1; omega
end Go.Lx
