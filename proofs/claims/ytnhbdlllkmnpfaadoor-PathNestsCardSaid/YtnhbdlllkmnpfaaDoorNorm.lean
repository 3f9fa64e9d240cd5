/- Normal lists: insertion without doubles is sorting and compacting. Nothing of a program stands here. -/
import Derived.Test.YtnhbdlllkmnpfaaDoorOrd
namespace Go.Lx
open Go
set_option linter.unusedSimpArgs false
set_option linter.unusedVariables false
set_option linter.unnecessarySimpa false
def insGo {α : Type} (f : α → α → Int) (p : α) : List α → List α
  | [] => [p]
  | x :: r => if f p x < 0 then p :: x :: r else x :: insGo f p r
def insG {α : Type} [BEq α] (f : α → α → Int) (l : List α) (p : α) : List α := if l.any (fun x => x == p) then l else insGo f p l
def insAll {α : Type} [BEq α] (f : α → α → Int) (l : List α) : List α := l.foldl (insG f) []
section
variable {α : Type} {f : α → α → Int}
theorem IsCmp.irr (h : IsCmp f) (a : α) : f a a = 0 := (h.eq a a).2 rfl
theorem insGo_mem {p x : α} : ∀ {l : List α}, x ∈ insGo f p l ↔ x = p ∨ x ∈ l
  | [] => by simp [insGo]
  | y :: r => by
    unfold insGo
    split
    · simp
    · simp only [List.mem_cons, insGo_mem (l := r)]
      constructor
      · rintro (h | h | h)
        · exact .inr (.inl h)
        · exact .inl h
        · exact .inr (.inr h)
      · rintro (h | h | h)
        · exact .inr (.inl h)
        · exact .inl h
        · exact .inr (.inr h)
theorem insGo_pw (h : IsCmp f) {p : α} : ∀ {l : List α}, p ∉ l → l.Pairwise (fun x y => f x y < 0) → (insGo f p l).Pairwise (fun x y => f x y < 0)
  | [], _, _ => by simp [insGo]
  | y :: r, hp, hl => by
    unfold insGo
    rw [List.pairwise_cons] at hl
    split
    · rename_i hlt
      refine List.pairwise_cons.2 ⟨?_, List.pairwise_cons.2 hl⟩
      intro z hz
      rcases List.mem_cons.1 hz with rfl | hz
      · exact hlt
      · exact h.tr _ _ _ hlt (hl.1 z hz)
    · rename_i hlt
      refine List.pairwise_cons.2 ⟨?_, insGo_pw h (fun hm => hp (List.mem_cons_of_mem _ hm)) hl.2⟩
      intro z hz
      rcases insGo_mem.1 hz with rfl | hz
      · have h1 : z ≠ y := fun e => hp (e ▸ List.mem_cons_self ..)
        have h2 : f z y ≠ 0 := fun e => h1 ((h.eq _ _).1 e)
        have := h.anti z y
        omega
      · exact hl.1 z hz
variable [BEq α] [LawfulBEq α]
theorem insG_mem {l : List α} {p x : α} : x ∈ insG f l p ↔ x = p ∨ x ∈ l := by
  unfold insG
  split
  · rename_i h
    obtain ⟨y, hy, he⟩ := List.any_eq_true.1 h
    have := eq_of_beq he
    subst this
    exact ⟨.inr, fun h => h.elim (fun e => e ▸ hy) id⟩
  · exact insGo_mem
theorem insG_pw (h : IsCmp f) {l : List α} {p : α} (hl : l.Pairwise (fun x y => f x y < 0)) : (insG f l p).Pairwise (fun x y => f x y < 0) := by
  unfold insG
  split
  · exact hl
  · rename_i hn
    refine insGo_pw h (fun hm => hn ?_) hl
    rw [List.any_eq_true]; exact ⟨p, hm, by simp⟩
theorem insFold (h : IsCmp f) : ∀ (l acc : List α), acc.Pairwise (fun x y => f x y < 0) → (l.foldl (insG f) acc).Pairwise (fun x y => f x y < 0) ∧ ∀ x, x ∈ l.foldl (insG f) acc ↔ x ∈ acc ∨ x ∈ l
  | [], acc, ha => ⟨ha, by simp⟩
  | p :: r, acc, ha => by
    obtain ⟨h1, h2⟩ := insFold h r (insG f acc p) (insG_pw h ha)
    refine ⟨h1, fun x => ?_⟩
    rw [List.foldl_cons, h2, insG_mem, List.mem_cons]
    constructor
    · rintro ((h | h) | h)
      · exact .inr (.inl h)
      · exact .inl h
      · exact .inr (.inr h)
    · rintro (h | h | h)
      · exact .inl (.inr h)
      · exact .inl (.inl h)
      · exact .inr h
theorem insAll_pw (h : IsCmp f) (l : List α) : (insAll f l).Pairwise (fun x y => f x y < 0) := (insFold h l [] List.Pairwise.nil).1
theorem insAll_mem (h : IsCmp f) (l : List α) (x : α) : x ∈ insAll f l ↔ x ∈ l := by
  have := (insFold h l [] List.Pairwise.nil).2 x
  show x ∈ List.foldl (insG f) [] l ↔ _
  simpa using this
omit [BEq α] [LawfulBEq α] in
theorem pw_unique (h : IsCmp f) {a b : List α} (ha : a.Pairwise (fun x y => f x y < 0)) (hb : b.Pairwise (fun x y => f x y < 0)) (hm : ∀ x, x ∈ a ↔ x ∈ b) : a = b := by
  have hne : ∀ {x y : α}, f x y < 0 → x ≠ y := fun hxy e => by subst e; rw [h.irr] at hxy; omega
  have na : a.Nodup := ha.imp hne
  have nb : b.Nodup := hb.imp hne
  have hp : a.Perm b := (List.perm_ext_iff_of_nodup na nb).2 hm
  refine List.Perm.eq_of_pairwise (le := fun x y => f x y < 0) ?_ ha hb hp
  intro x y _ _ h1 h2
  have := h.anti x y
  omega
theorem compStep_mem {acc : List α} {x y : α} : y ∈ compStep acc x ↔ y ∈ acc ∨ y = x := by
  unfold compStep
  split
  · rename_i h
    have h1 := eq_of_beq h
    have h2 : x ∈ acc := List.mem_of_getLast? h1
    exact ⟨.inl, fun h => h.elim id (fun e => e ▸ h2)⟩
  · simp
theorem comp_pw (h : IsCmp f) : ∀ (l : List α), l.Pairwise (fun x y => f x y ≤ 0) → (compL l).Pairwise (fun x y => f x y < 0) ∧ ∀ x, x ∈ compL l ↔ x ∈ l := by
  intro l
  induction hn : l.length generalizing l with
  | zero =>
    have : l = [] := List.eq_nil_of_length_eq_zero hn
    subst this
    intro _; exact ⟨List.Pairwise.nil, by simp [compL]⟩
  | succ n ih' =>
    obtain ⟨m, x, rfl⟩ : ∃ m x, l = m ++ [x] := by
      rcases List.eq_nil_or_concat l with rfl | ⟨m, x, h⟩
      · simp at hn
      · exact ⟨m, x, by rw [h, List.concat_eq_append]⟩
    have ih := ih' m (by simpa using hn)
    clear ih' hn
    intro hl
    rw [List.pairwise_append] at hl
    obtain ⟨h1, h2⟩ := ih hl.1
    rw [comp_snoc]
    refine ⟨?_, fun y => by rw [compStep_mem, h2]; simp⟩
    unfold compStep
    split
    · exact h1
    · rename_i hn
      rw [List.pairwise_append]
      refine ⟨h1, by simp, ?_⟩
      intro y hy z hz
      have : z = x := by simpa using hz
      subst this
      have hle := hl.2.2 y ((h2 y).1 hy) z (by simp)
      rcases Int.lt_or_eq_of_le hle with h3 | h3
      · exact h3
      · exfalso
        have e := (h.eq _ _).1 h3
        subst e
        -- y is in the strictly ascending list, and is at least its last element
        apply hn
        obtain ⟨i, hi, hiy⟩ := List.mem_iff_getElem.1 hy
        have hlast : i = (compL m).length - 1 := by
          rcases Nat.lt_or_ge i ((compL m).length - 1) with hlt | hge
          · exfalso
            have hp := List.pairwise_iff_getElem.1 h1 i ((compL m).length - 1) hi (by omega) hlt
            have hmem : (compL m)[(compL m).length - 1] ∈ m := (h2 _).1 (List.getElem_mem _)
            have := hl.2.2 _ hmem y (by simp)
            rw [hiy] at hp
            have := h.anti y ((compL m)[(compL m).length - 1])
            omega
          · omega
        subst hlast
        rw [List.getLast?_eq_getElem?, List.getElem?_eq_getElem hi, hiy]
        simp
theorem comp_ins (h : IsCmp f) {l l' : List α} (hp : ∀ x, x ∈ l' ↔ x ∈ l) (hs : l'.Pairwise (fun x y => f x y ≤ 0)) : compL l' = insAll f l := by
  obtain ⟨h1, h2⟩ := comp_pw h l' hs
  refine pw_unique h h1 (insAll_pw h l) fun x => ?_
  rw [h2, insAll_mem h, hp]
end
section
variable {α β : Type} {f : β → β → Int} {m : α → β}
theorem insGo_map (p : α) : ∀ (l : List α), insGo f (m p) (l.map m) = (insGo (fun a b => f (m a) (m b)) p l).map m
  | [] => rfl
  | x :: r => by
    simp only [List.map_cons, insGo]
    split
    · rfl
    · rw [insGo_map p r]; rfl
variable [BEq α] [LawfulBEq α] [BEq β] [LawfulBEq β]
theorem beq_map (hm : ∀ a b, m a = m b → a = b) (a b : α) : (m a == m b) = (a == b) := by
  rw [Bool.eq_iff_iff, beq_iff_eq, beq_iff_eq]
  exact ⟨hm a b, fun e => e ▸ rfl⟩
theorem insG_map (hm : ∀ a b, m a = m b → a = b) (l : List α) (p : α) : insG f (l.map m) (m p) = (insG (fun a b => f (m a) (m b)) l p).map m := by
  unfold insG
  have e : (l.map m).any (fun x => x == m p) = l.any (fun x => x == p) := by
    rw [List.any_map]; congr 1; funext x; exact beq_map hm x p
  rw [e, insGo_map]
  split <;> rfl
theorem insFold_map (hm : ∀ a b, m a = m b → a = b) : ∀ (l acc : List α), (l.map m).foldl (insG f) (acc.map m) = (l.foldl (insG fun a b => f (m a) (m b)) acc).map m
  | [], _ => rfl
  | x :: r, acc => by rw [List.map_cons, List.foldl_cons, insG_map hm, insFold_map hm r]; rfl
theorem compFold_map (hm : ∀ a b, m a = m b → a = b) : ∀ (l acc : List α), (l.map m).foldl compStep (acc.map m) = (l.foldl compStep acc).map m
  | [], _ => rfl
  | x :: r, acc => by
    have e : compStep (acc.map m) (m x) = (compStep acc x).map m := by
      unfold compStep
      rw [List.getLast?_map]
      have : ((acc.getLast?.map m) == some (m x)) = (acc.getLast? == some x) := by
        cases acc.getLast? with
        | none => rfl
        | some y => exact beq_map hm y x
      rw [this]
      split <;> simp
    rw [List.map_cons, List.foldl_cons, e, compFold_map hm r]; rfl
end
/-- The permissions of a list that stand in its normal list. -/
def keepS (l : List Perm) (p : Perm) : Bool := checkS p == 0 && !(l.any fun q => !(q == p) && impliesS q p)
def normS (l : List Perm) : List Perm := insAll cmpM (l.filter (keepS l))
def vpL : (l : List Perm) → (∀ x ∈ l, Vp x) → List VP
  | [], _ => []
  | x :: r, h => ⟨x, h x (by simp)⟩ :: vpL r fun y hy => h y (by simp [hy])
theorem vpL_map : ∀ (l : List Perm) (h : ∀ x ∈ l, Vp x), (vpL l h).map (·.1) = l
  | [], _ => rfl
  | x :: r, h => by rw [vpL, List.map_cons, vpL_map r]
theorem val_inj (a b : VP) (h : a.1 = b.1) : a = b := Subtype.ext h
theorem comp_insP {l l' : List Perm} (hv : ∀ x ∈ l, Vp x) (hp : l'.Perm l) (hs : l'.Pairwise (fun x y => cmpM x y ≤ 0)) : compL l' = insAll cmpM l := by
  have hv' : ∀ x ∈ l', Vp x := fun x hx => hv x (hp.mem_iff.1 hx)
  have h1 := vpL_map l hv
  have h2 := vpL_map l' hv'
  generalize vpL l hv = a at h1
  generalize vpL l' hv' = b at h2
  subst h1 h2
  rw [List.pairwise_map] at hs
  have hm : ∀ (l : List VP) (x : VP), x ∈ l ↔ x.1 ∈ l.map (fun y => y.1) := by
    intro l x
    rw [List.mem_map]
    exact ⟨fun h => ⟨x, h, rfl⟩, fun ⟨y, h, e⟩ => val_inj y x e ▸ h⟩
  have hp' : ∀ x, x ∈ b ↔ x ∈ a := fun x => by rw [hm b, hm a]; exact hp.mem_iff
  have := comp_ins cmpV_is hp' hs
  have e1 := compFold_map (m := fun x : VP => x.1) val_inj b []
  have e2 := insFold_map (f := cmpM) (m := fun x : VP => x.1) val_inj a []
  exact e1.trans ((congrArg (List.map fun x : VP => x.1) this).trans e2.symm)
theorem keepS_vp {l : List Perm} (hok : ∀ x ∈ l, x.ok) : ∀ x ∈ l.filter (keepS l), Vp x := by
  intro x hx
  rw [List.mem_filter] at hx
  refine ⟨hok x hx.1, ?_⟩
  have h := hx.2
  unfold keepS at h
  rw [Bool.and_eq_true] at h
  exact eq_of_beq h.1
theorem insFold_mem {α : Type} [BEq α] [LawfulBEq α] {f : α → α → Int} : ∀ (l acc : List α) (x : α), x ∈ l.foldl (insG f) acc ↔ x ∈ acc ∨ x ∈ l
  | [], acc, x => by simp
  | p :: r, acc, x => by
    rw [List.foldl_cons, insFold_mem r, insG_mem, List.mem_cons]
    constructor
    · rintro ((h | h) | h)
      · exact .inr (.inl h)
      · exact .inl h
      · exact .inr (.inr h)
    · rintro (h | h | h)
      · exact .inl (.inr h)
      · exact .inl (.inl h)
      · exact .inr h
theorem normS_mem {l : List Perm} {x : Perm} : x ∈ normS l ↔ x ∈ l ∧ keepS l x = true := by
  have := insFold_mem (f := cmpM) (l.filter (keepS l)) [] x
  show x ∈ List.foldl (insG cmpM) [] _ ↔ _
  rw [this, List.mem_filter]; simp
theorem normS_ok {l : List Perm} (hok : ∀ x ∈ l, x.ok) : ∀ x ∈ normS l, x.ok := fun x hx => hok x (normS_mem.1 hx).1
end Go.Lx
