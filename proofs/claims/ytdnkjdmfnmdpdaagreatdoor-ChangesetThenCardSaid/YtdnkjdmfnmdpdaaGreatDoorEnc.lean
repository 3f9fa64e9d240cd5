/- Several texts in one file. -/
import Derived.Test.YtdnkjdmfnmdpdaaGreatDoorSv
import Derived.Lib.BitFns
import Derived.Test.YtdnkjdmfnmdpdaaGreatDoorOwn3
import Derived.Test.YtdnkjdmfnmdpdaaGreatDoorDrawC
import Derived.Test.YtdnkjdmfnmdpdaaGreatDoorSess
import Derived.Laws.IdiomStrings
import Derived.Test.YtdnkjdmfnmdpdaaGreatDoorPure11f
set_option linter.unusedSimpArgs false
set_option linter.unusedVariables false
set_option linter.unnecessarySimpa false
/- The bytes of numbers and sets, as the wire has them: plain law. Nothing of a program stands here. -/
namespace Go.Lx
open Go
def b7 (x : W64) : UInt8 := UInt8.ofNat (x &&& 127#64).toNat
def byteW (x : W64) (k : Nat) : UInt8 := UInt8.ofNat (x >>> (8 * k)).toNat
structure RevI (l m : List UInt8) (i : Nat) : Prop where
 len : m.length = l.length
 le : 2 * i ≤ l.length + 1
 get : ∀ k, m[k]? = if k < i ∨ (l.length ≤ k + i ∧ k < l.length) then l[l.length - 1 - k]? else l[k]?
theorem RevI.start (l : List UInt8) : RevI l l 0 := ⟨rfl, by omega, fun k => by
 rw [if_neg (by omega)]⟩
theorem RevI.fin {l m : List UInt8} {i : Nat} (h : RevI l m i) (hi : l.length ≤ 2 * i + 1) : m = l.reverse := by
 refine List.ext_getElem? fun k => ?_
 rw [h.get k]
 by_cases hk : k < l.length
 ·rw [List.getElem?_reverse hk]
  split
  ·rfl
  ·have : k = l.length - 1 - k := by omega
   rw [← this]
 ·have h1 : l.reverse[k]? = none := by simp; omega
  rw [h1]
  split
  ·rename_i h2
   have := h.le
   have : l.length - 1 - k = 0 := by omega
   rcases Nat.eq_zero_or_pos l.length with h0 | h0
   ·simp [List.length_eq_zero_iff.1 h0]
   ·omega
  ·simp; omega
theorem RevI.step {l m : List UInt8} {i j : Nat} (h : RevI l m i) (hj : l.length = i + j + 1) (hij : i < j) : RevI l ((m.set i (m.getD j 0)).set j (m.getD i 0)) (i + 1) := by
 have hm := h.len
 refine ⟨by simp [hm], by omega, fun k => ?_⟩
 have h1 : m.getD j 0 = l.getD j 0 := by simp only [List.getD]; rw [h.get j, if_neg (by omega)]
 have h2 : m.getD i 0 = l.getD i 0 := by simp only [List.getD]; rw [h.get i, if_neg (by omega)]
 have gi : l[i]? = some (l.getD i 0) := by simp [List.getD, show i < l.length by omega]
 have gj : l[j]? = some (l.getD j 0) := by simp [List.getD, show j < l.length by omega]
 rw [h1, h2, List.getElem?_set, List.getElem?_set]
 by_cases e1 : j = k
 ·subst e1
  rw [if_pos rfl, if_pos (by simp; omega), if_pos (by omega), show l.length - 1 - j = i by omega, gi]
 ·rw [if_neg e1]
  by_cases e2 : i = k
  ·subst e2
   rw [if_pos rfl, if_pos (by omega), if_pos (by omega), show l.length - 1 - i = j by omega, gj]
  ·rw [if_neg e2, h.get k]
   by_cases c : k < i ∨ (l.length ≤ k + i ∧ k < l.length)
   ·rw [if_pos c, if_pos (by omega)]
   ·rw [if_neg c]
    by_cases c2 : k < i + 1 ∨ (l.length ≤ k + (i + 1) ∧ k < l.length)
    ·omega
    ·rw [if_neg c2]
structure BytI (x : W64) (n k : Nat) (m : List UInt8) : Prop where
 len : m.length = n
 get : ∀ j, j < k → m[j]? = some (byteW x j)
theorem BytI.start (x : W64) (n : Nat) : BytI x n 0 (List.replicate n 0) := ⟨by simp, fun j h => absurd h (Nat.not_lt_zero _)⟩
theorem BytI.step {x : W64} {n k : Nat} {m : List UInt8} (h : BytI x n k m) (hk : k < n) : BytI x n (k + 1) (m.set k (byteW x k)) := by
 have hl := h.len
 refine ⟨by simp [hl], fun j hj => ?_⟩
 rw [List.getElem?_set]
 by_cases e : k = j
 ·subst e; rw [if_pos rfl, if_pos (by omega)]
 ·rw [if_neg e]; exact h.get j (by omega)
theorem BytI.fin {x : W64} {n k : Nat} {m : List UInt8} (h : BytI x n k m) (hk : n ≤ k) : m = (List.range n).map (byteW x) := by
 refine List.ext_getElem? fun j => ?_
 by_cases hj : j < n
 ·rw [h.get j (by omega), List.getElem?_map, List.getElem?_range hj]; rfl
 ·rw [List.getElem?_eq_none (by rw [h.len]; omega), List.getElem?_eq_none (by simp; omega)]
end Go.Lx
/- A writer of bytes in memory; the rules of its operations. Nothing of a program stands here. -/
namespace Go.Lx
open Go Go.RowKit
def Wr (T e : TypeId) (D : Nat → Prop) (w : World) (v : Value) (l : List UInt8) : Prop := ∃ b u, v = .pointer (some ⟨b, 0, none⟩) ∧ D b ∧ Box w b T [u] ∧ Own encB 1 e (fun g => D g ∧ g ≠ b) w u l
section
variable {T e : TypeId} {D D' : Nat → Prop} {γ : Prop} {w w' : World} {v : Value} {l : List UInt8}
theorem Wr.keepD (h : Wr T e D w v l) (x : Bel γ D' w w') (hd : ∀ g, g < w.heap.size → D g → ¬ D' g) : Wr T e D w' v l :=
 let ⟨b, u, h1, h2, h3, h4⟩ := h
 ⟨b, u, h1, h2, h3.keep x (hd b h3.lt h2), h4.keepD x fun g hg hD => hd g hg hD.1⟩
theorem Wr.ext (h : Wr T e D w v l) (x : Ext γ w w') : Wr T e D w' v l := h.keepD x fun _ _ _ => id
theorem Wr.mono (h : Wr T e D w v l) (hd : ∀ g, g < w.heap.size → D g → D' g) : Wr T e D' w v l :=
 let ⟨b, u, h1, h2, h3, h4⟩ := h
 ⟨b, u, h1, hd b h3.lt h2, h3, h4.mono fun g hg hD => ⟨hd g hg hD.1, hD.2⟩⟩
end
section
variable {P : Program} {fr : Fr} {w : World} {d : Option Nat} {t : TypeId} {ps : String} {af : Array Edge} {g : Option (Nat × Bool)} {x y z : Operand} {T U : TypeId}
theorem wrapU8 (n : Nat) : IntKind.u8.wrap (n : Int) = ((UInt8.ofNat n).toNat : Int) := by
 rw [UInt8.toNat_ofNat']
 simp [IntKind.wrap, IntKind.bits, IntKind.signed]
theorem o_quoN {V : TypeId} {a b : Nat} (hx : ev fr x = .int .i64 (a : Int)) (hy : ev fr y = .int .i64 (b : Int)) (hb : 0 < b) (hr : a ≤ 9223372036854775807) : xop P fr w ⟨d, .binOp .quo T x y V, t, ps, af, g⟩ = .ok (.value (.int .i64 ((a / b : Nat) : Int))) w :=
 o_quoT (a := (a : Int)) hx hy (by omega) hb (by unfold I64; omega)
theorem o_mulN {V : TypeId} {a b : Nat} (hx : ev fr x = .int .i64 (a : Int)) (hy : ev fr y = .int .i64 (b : Int)) (hr : a * b ≤ 9223372036854775807) : xop P fr w ⟨d, .binOp .mul T x y V, t, ps, af, g⟩ = .ok (.value (.int .i64 ((a * b : Nat) : Int))) w := by
 have h := o_mul (P := P) (w := w) (d := d) (t := t) (ps := ps) (af := af) (g := g) (T := T) (U := V) hx hy (by unfold I64; rw [← Int.natCast_mul]; omega)
 rwa [← Int.natCast_mul] at h
def a31 (a : Int) : Int := ((BitVec.ofInt 64 a &&& 31#64).toNat : Int)
end
section
variable {rd : Option Nat} {P : Program} {n : Nat} {K : Fr → World → Prop} {fr : Fr} {w : World} {l : List UInt8} {T U e : TypeId} {x : Operand} {a : Option Addr} {c : Nat} {F : Nat → Prop}
end
def OwA {α : Type} (enc : α → List Value) (k : Nat) (e : TypeId) (w : World) (g : Nat) (v : Value) (l : List α) : Prop := Own enc k e (fun b => b = g) w v l ∧ v.ownBlock = some g ∧ g < w.heap.size
section
variable {α : Type} {enc : α → List Value} {k kc : Nat} {e : TypeId} {D : Nat → Prop} {w w' : World} {g : Nat} {v : Value} {l : List α} {c : Nat → Nat}
theorem OwA.lt (h : OwA enc k e w g v l) : g < w.heap.size := h.2.2
theorem OwA.col (h : OwA enc k e w g v l) (hc : c g = kc) : Own enc k e (fun b => c b = kc) w v l := h.1.mono fun b _ hb => by subst hb; exact hc
theorem OwA.blk (h : OwA enc k e w g v l) (hb : w'.heap[g]? = w.heap[g]?) : OwA enc k e w' g v l := by
 obtain ⟨⟨hr, hl⟩, ho, hlt⟩ := h
 have hlt' : g < w'.heap.size := by
  rw [Array.getElem?_eq_getElem hlt] at hb
  exact (Array.getElem?_eq_some_iff.1 hb).1
 refine ⟨⟨⟨hr.1, ?_⟩, hl⟩, ho, hlt'⟩
 rcases hr.2 with ⟨h1, h2⟩ | ⟨g', cap, cur, h1, h2, h3, h4⟩
 ·exact .inl ⟨h1, h2⟩
 ·have e1 : g' = g := by rw [h1] at ho; simpa [Value.ownBlock] using ho
  subst e1
  exact .inr ⟨g', cap, cur, h1, h2, hb.trans h3, h4⟩
end
end Go.Lx
/- Books of grants: what the program and the reference make of them. Nothing of a program stands here. -/
namespace Go.Lx
open Go
structure Ent where
 r : Int
 p : Perm
 deriving DecidableEq
def encE (e : Ent) : List Value := .int .i64 e.r :: encP e.p
theorem encE_ok : EncOk encE 4 := ⟨by decide, fun _ => rfl, fun x u hu => by
 simp [encE, encP] at hu
 rcases hu with rfl | rfl | rfl | rfl <;> rfl⟩
def ez : Ent := ⟨0, pz⟩
def cmpI (a b : Int) : Int := if a < b then -1 else if b < a then 1 else 0
def cmpE (a b : Ent) : Int := if a.r != b.r then cmpI a.r b.r else cmpM a.p b.p
theorem cmpI_is : IsCmp cmpI := by
 refine ⟨fun a b => ?_, fun a b => ?_, fun a b c => ?_⟩ <;> unfold cmpI <;> (repeat' split) <;> omega
def Ve (e : Ent) : Prop := 1 ≤ e.r ∧ e.r ≤ 63 ∧ Vp e.p
abbrev VE := { e : Ent // Ve e }
def keyE (e : VE) : Int × VP := (e.1.r, ⟨e.1.p, e.2.2.2⟩)
theorem cmpE_lex (x y : VE) : cmpE x.1 y.1 = lex cmpI (fun a b : VP => cmpM a.1 b.1) (keyE x) (keyE y) := by
 show (if x.1.r != y.1.r then cmpI x.1.r y.1.r else cmpM x.1.p y.1.p) = if cmpI x.1.r y.1.r != 0 then cmpI x.1.r y.1.r else cmpM x.1.p y.1.p
 have e := cmpI_is.eq x.1.r y.1.r
 by_cases h : x.1.r = y.1.r
 ·rw [if_neg (by simpa using h), if_neg (by simpa using e.2 h)]
 ·rw [if_pos (by simpa using h), if_pos (by simpa using fun q => h (e.1 q))]
theorem cmpE_is : IsCmp fun a b : VE => cmpE a.1 b.1 := by
 have h := (lex_is cmpI_is cmpV_is).map keyE (fun a b h => by
  have h1 := congrArg Prod.fst h
  have h2 := congrArg Prod.snd h
  apply Subtype.ext
  obtain ⟨⟨r, p⟩, ha⟩ := a
  obtain ⟨⟨s, q⟩, hb⟩ := b
  simp only [keyE, Subtype.mk.injEq] at h1 h2
  show (⟨r, p⟩ : Ent) = ⟨s, q⟩
  rw [h1, h2])
 have e : (fun a b : VE => cmpE a.1 b.1) = fun a b => lex cmpI (fun a b : VP => cmpM a.1 b.1) (keyE a) (keyE b) := by
  funext a b; exact cmpE_lex a b
 rw [e]; exact h
theorem cmpE_eq {a b : Ent} (ha : Ve a) (hb : Ve b) : cmpE a b = 0 ↔ a = b := by
 rw [cmpE_is.eq ⟨a, ha⟩ ⟨b, hb⟩]; simp
theorem cmpE_anti {a b : Ent} (ha : Ve a) (hb : Ve b) : cmpE b a = - cmpE a b := cmpE_is.anti ⟨a, ha⟩ ⟨b, hb⟩
theorem cmpE_tr {a b c : Ent} (ha : Ve a) (hb : Ve b) (hc : Ve c) (h : cmpE a b < 0) (k : cmpE b c < 0) : cmpE a c < 0 := cmpE_is.tr ⟨a, ha⟩ ⟨b, hb⟩ ⟨c, hc⟩ h k
structure OkG (m : List Ent) : Prop where
 asc : m.Pairwise (fun x y => cmpE x y < 0)
 ve : ∀ e ∈ m, Ve e
 len : m.length ≤ 1000
theorem OkG.nil : OkG [] := ⟨List.Pairwise.nil, by simp, by simp⟩
theorem asc_get {m : List Ent} (h : m.Pairwise (fun x y => cmpE x y < 0)) {i j : Nat} (hij : i < j) (hj : j < m.length) : cmpE (m.getD i ez) (m.getD j ez) < 0 := by
 have := List.pairwise_iff_getElem.1 h i j (by omega) hj hij
 simpa [List.getD, show i < m.length by omega, hj] using this
structure BsG (m : List Ent) (x : Ent) (i j : Nat) : Prop where
 le : i ≤ j
 len : j ≤ m.length
 low : ∀ t, t < i → cmpE (m.getD t ez) x < 0
 up : ∀ t, j ≤ t → t < m.length → 0 ≤ cmpE (m.getD t ez) x
theorem BsG.start (m : List Ent) (x : Ent) : BsG m x 0 m.length := ⟨Nat.zero_le _, Nat.le_refl _, fun t h => by omega, fun t h h2 => by omega⟩
section
variable {m : List Ent} {x : Ent} {i j : Nat} (h : BsG m x i j) (hm : OkG m) (hx : Ve x)
include h hm hx
theorem BsG.lo {k : Nat} (h1 : i ≤ k) (h2 : k < j) (hk : cmpE (m.getD k ez) x < 0) : BsG m x (k + 1) j := by
 have hl := h.len
 refine ⟨by omega, h.len, fun t ht => ?_, h.up⟩
 rcases Nat.lt_or_ge t k with h3 | h3
 ·exact cmpE_tr (hm.ve _ (gm (by omega))) (hm.ve _ (gm (by omega))) hx (asc_get hm.asc h3 (by omega)) hk
 ·obtain rfl : t = k := by omega
  exact hk
theorem BsG.hi {k : Nat} (h1 : i ≤ k) (h2 : k < j) (hk : ¬ cmpE (m.getD k ez) x < 0) : BsG m x i k := by
 have hl := h.len
 refine ⟨h1, by omega, h.low, fun t ht hl2 => ?_⟩
 rcases Nat.lt_or_ge k t with h3 | h3
 ·rcases Int.lt_or_le (cmpE (m.getD t ez) x) 0 with h4 | h4
  ·exact absurd (cmpE_tr (hm.ve _ (gm (by omega))) (hm.ve _ (gm (by omega))) hx (asc_get hm.asc h3 (by omega)) h4) hk
  ·exact h4
 ·obtain rfl : t = k := by omega
  omega
end
theorem BsG.uniq {m : List Ent} {x : Ent} {i j : Nat} (h : BsG m x i i) (k : BsG m x j j) : i = j := by
 have h1 := h.len
 have h2 := k.len
 rcases Nat.lt_trichotomy i j with q | q | q
 ·have a := k.low i q
  have b := h.up i (Nat.le_refl _) (by omega)
  omega
 ·exact q
 ·have a := h.low j q
  have b := k.up j (Nat.le_refl _) (by omega)
  omega
theorem getD_ex {m : List Ent} {e : Ent} (h : e ∈ m) : ∃ t, t < m.length ∧ m.getD t ez = e := by
 obtain ⟨t, ht, rfl⟩ := List.getElem_of_mem h
 exact ⟨t, ht, by simp [List.getD, ht]⟩
theorem BsG.fin {m : List Ent} {x : Ent} {i : Nat} (h : BsG m x i i) (hm : OkG m) (hx : Ve x) : (decide ((i : Int) < (m.length : Int)) && (cmpE (m.getD i ez) x == 0)) = decide (x ∈ m) := by
 rw [Bool.eq_iff_iff, Bool.and_eq_true, decide_eq_true_iff, decide_eq_true_iff, beq_iff_eq]
 constructor
 ·rintro ⟨h1, h2⟩
  have h1' : i < m.length := by omega
  have := (cmpE_eq (hm.ve _ (gm (z := ez) h1')) hx).1 h2
  rw [← this]; exact gm h1'
 ·intro hin
  obtain ⟨t, ht, e⟩ := getD_ex hin
  have h0 : cmpE (m.getD t ez) x = 0 := by rw [e]; exact (cmpE_eq hx hx).2 rfl
  rcases Nat.lt_trichotomy t i with h2 | h2 | h2
  ·have := h.low t h2; omega
  ·subst h2; exact ⟨by omega, h0⟩
  ·have h3 := h.up i (Nat.le_refl _) (by omega)
   have h4 := asc_get hm.asc h2 ht
   rw [e] at h4
   omega
theorem insGo_at {f : Ent → Ent → Int} {p : Ent} : ∀ {m : List Ent} {i : Nat}, i ≤ m.length → (∀ t, t < i → ¬ f p (m.getD t ez) < 0) → (i < m.length → f p (m.getD i ez) < 0) → insGo f p m = m.take i ++ [p] ++ m.drop i
 | [], i, h, _, _ => by
  obtain rfl : i = 0 := by simpa using h
  rfl
 | x :: r, 0, _, _, h2 => by
  have := h2 (by simp)
  rw [insGo, if_pos (by simpa using this)]; rfl
 | x :: r, i + 1, h, h1, h2 => by
  have h0 := h1 0 (by omega)
  rw [insGo, if_neg (by simpa using h0)]
  rw [insGo_at (i := i) (by simpa using h) (fun t ht => by simpa using h1 (t + 1) (by omega)) (fun hl => by simpa using h2 (by simp; omega))]
  rfl
theorem BsG.ins {m : List Ent} {x : Ent} {i : Nat} (h : BsG m x i i) (hm : OkG m) (hx : Ve x) (hn : x ∉ m) : m.take i ++ [x] ++ m.drop i = insGo cmpE x m := by
 refine (insGo_at h.len (fun t ht => ?_) (fun hl => ?_)).symm
 ·have h1 := h.low t ht
  have hl := h.len
  have h2 := cmpE_anti (hm.ve _ (gm (z := ez) (show t < m.length by omega))) hx
  omega
 ·have h1 := h.up i (Nat.le_refl _) hl
  have h2 := cmpE_anti (hm.ve _ (gm (z := ez) hl)) hx
  have h3 : cmpE (m.getD i ez) x ≠ 0 := fun e => hn (by rw [← (cmpE_eq (hm.ve _ (gm (z := ez) hl)) hx).1 e]; exact gm hl)
  omega
theorem insGo_lenG {α : Type} {f : α → α → Int} {p : α} : ∀ (m : List α), (insGo f p m).length = m.length + 1
 | [] => rfl
 | x :: r => by
  rw [insGo]; split
  ·rfl
  ·simp [insGo_lenG r]
theorem insGo_pwE {x : Ent} {m : List Ent} (hm : OkG m) (hx : Ve x) (hn : x ∉ m) : (insGo cmpE x m).Pairwise (fun x y => cmpE x y < 0) := by
 have ha := hm.asc
 have hv := hm.ve
 clear hm
 induction m with
 | nil => simp [insGo]
 | cons y r ih =>
  have hy := hv y (by simp)
  rw [insGo]
  rw [List.pairwise_cons] at ha
  split
  ·rename_i hlt
   rw [List.pairwise_cons, List.pairwise_cons]
   refine ⟨fun z hz => ?_, ha⟩
   rcases List.mem_cons.1 hz with rfl | hz
   ·exact hlt
   ·exact cmpE_tr hx hy (hv z (by simp [hz])) hlt (ha.1 z hz)
  ·rename_i hge
   rw [List.pairwise_cons]
   refine ⟨fun z hz => ?_, ih (fun h => hn (by simp [h])) ha.2 (fun e he => hv e (by simp [he]))⟩
   rcases insGo_mem.1 hz with rfl | hz
   ·have h1 := cmpE_anti hy hx
    have h2 : cmpE y z ≠ 0 := fun e => hn (by rw [← (cmpE_eq hy hx).1 e]; simp)
    omega
   ·exact ha.1 z hz
def grantR (m : List Ent) (e : Ent) : List Ent × Int := if e.r < 1 ∨ 63 < e.r then (m, 1) else if checkS e.p ≠ 0 then (m, checkS e.p) else if e ∈ m then (m, 5) else if 1000 ≤ m.length then (m, 14) else (insGo cmpE e m, 0)
def dropR (m : List Ent) (e : Ent) : List Ent × Int := if e.r < 1 ∨ 63 < e.r then (m, 1) else if e ∉ m then (m, 4) else (m.filter (· != e), 0)
theorem OkG.grant {m : List Ent} (h : OkG m) {e : Ent} (he : e.p.ok) : OkG (grantR m e).1 := by
 unfold grantR
 split
 ·exact h
 split
 ·exact h
 split
 ·exact h
 split
 ·exact h
 ·rename_i h1 h2 h3 h4
  have hv : Ve e := ⟨by omega, by omega, he, by omega⟩
  exact ⟨insGo_pwE h hv h3, fun x hx => (insGo_mem.1 hx).elim (fun q => q ▸ hv) (h.ve x), by rw [insGo_lenG]; omega⟩
theorem OkG.drop {m : List Ent} (h : OkG m) (e : Ent) : OkG (dropR m e).1 := by
 unfold dropR
 split
 ·exact h
 split
 ·exact h
 ·exact ⟨h.asc.filter _, fun x hx => h.ve x (List.mem_filter.1 hx).1, Nat.le_trans (List.length_filter_le _ _) h.len⟩
theorem ixE {m : List Ent} {e : Ent} : decide (ixOf (fun y => y == e) m < 0) = decide (e ∉ m) := by
 have h := ixOf_ge (fun y : Ent => y == e) m
 rw [Bool.eq_iff_iff] at h ⊢
 simp only [decide_eq_true_iff, List.any_eq_true, beq_iff_eq] at h ⊢
 constructor
 ·intro h1 h2
  have := h.2 ⟨e, h2, rfl⟩
  omega
 ·intro h1
  rcases Int.lt_or_le (ixOf (fun y : Ent => y == e) m) 0 with h2 | h2
  ·exact h2
  ·obtain ⟨y, hy, he⟩ := h.1 h2
   exact absurd (he ▸ hy) h1
def lessE (a b : Ent) : Bool := decide (cmpE a b < 0)
def insD (m : List Ent) (e : Ent) (k : Nat) : Bool := (m.take k).any (lessE e)
def insO (m : List Ent) (e : Ent) (k : Nat) : List Ent := if insD m e k then insGo cmpE e (m.take k) else m.take k
theorem insGo_snoc {f : Ent → Ent → Int} {p x : Ent} : ∀ (l : List Ent), insGo f p (l ++ [x]) = if l.any (fun y => decide (f p y < 0)) then insGo f p l ++ [x] else l ++ (if f p x < 0 then [p, x] else [x, p])
 | [] => by simp [insGo]
 | y :: l => by
  rw [List.cons_append, insGo, insGo, List.any_cons]
  by_cases h : f p y < 0
  ·simp [h]
  ·simp only [h, if_false, decide_false, Bool.false_or]
   rw [insGo_snoc l]
   split <;> simp
theorem insGo_none {f : Ent → Ent → Int} {p : Ent} : ∀ (l : List Ent), l.any (fun y => decide (f p y < 0)) = false → insGo f p l = l ++ [p]
 | [], _ => rfl
 | y :: l, h => by
  rw [List.any_cons, Bool.or_eq_false_iff] at h
  rw [insGo, if_neg (by simpa using h.1), insGo_none l h.2]; rfl
theorem takeE {m : List Ent} {k : Nat} (h : k < m.length) : m.take (k + 1) = m.take k ++ [m.getD k ez] := by
 rw [List.take_succ_eq_append_getElem h]; simp [List.getD, h]
theorem insD_succ {m : List Ent} {e : Ent} {k : Nat} (h : k < m.length) : insD m e (k + 1) = (insD m e k || lessE e (m.getD k ez)) := by
 unfold insD; rw [takeE h, List.any_append]; simp
theorem insO_len (m : List Ent) (e : Ent) (k : Nat) : (insO m e k).length ≤ m.length + 1 := by
 unfold insO
 split
 ·rw [insGo_lenG, List.length_take]; omega
 ·rw [List.length_take]; omega
theorem ins_yes {m : List Ent} {e : Ent} {k : Nat} (h : k < m.length) (hd : insD m e k = false) (hl : lessE e (m.getD k ez) = true) : insO m e (k + 1) = insO m e k ++ [e] ++ [m.getD k ez] ∧ insD m e (k + 1) = true := by
 have h1 : insD m e (k + 1) = true := by rw [insD_succ h, hl, Bool.or_true]
 refine ⟨?_, h1⟩
 unfold insO
 rw [if_pos h1, hd, takeE h, insGo_snoc]
 have h2 : (m.take k).any (fun y => decide (cmpE e y < 0)) = false := hd
 rw [h2, if_pos (of_decide_eq_true hl)]
 simp
theorem ins_no {m : List Ent} {e : Ent} {k : Nat} (h : k < m.length) (hc : (!insD m e k && lessE e (m.getD k ez)) = false) : insO m e (k + 1) = insO m e k ++ [m.getD k ez] ∧ insD m e (k + 1) = insD m e k := by
 cases hd : insD m e k with
 | true =>
  have h1 : insD m e (k + 1) = true := by rw [insD_succ h, hd, Bool.true_or]
  refine ⟨?_, h1⟩
  unfold insO
  rw [if_pos h1, hd, takeE h, insGo_snoc]
  have h2 : (m.take k).any (fun y => decide (cmpE e y < 0)) = true := hd
  rw [h2]; simp
 | false =>
  have hl : lessE e (m.getD k ez) = false := by rw [hd] at hc; simpa using hc
  have h1 : insD m e (k + 1) = false := by rw [insD_succ h, hd, hl]; rfl
  refine ⟨?_, h1⟩
  unfold insO
  rw [h1, hd, takeE h]
  simp
theorem ins_end {m : List Ent} {e : Ent} {k : Nat} (h : m.length ≤ k) : insGo cmpE e m = if insD m e k then insO m e k else insO m e k ++ [e] := by
 have ht : m.take k = m := List.take_of_length_le h
 unfold insO
 cases hd : insD m e k with
 | true => simp [ht]
 | false =>
  unfold insD at hd
  rw [ht] at hd ⊢
  simp [insGo_none m hd]
section
variable {m : List Ent} {k : Nat} {s : W64} {r : Int}
end
section
variable {imp : Int → Int → Bool} {m l : List Ent} {k : Nat}
end
end Go.Lx
