/- An order in memory: its block, its pairs, the sets above and below each element. Nothing of a program stands here. -/
import Derived.Test.YtncmjgmlnnenhaaDoorTz
import Derived.Test.YtncmjgmlnnenhaaDoorPr
import Derived.Test.YtncmjgmlnnenhaaDoorPtr
namespace Go.Lx
open Go Go.RowKit
set_option linter.unusedSimpArgs false
set_option linter.unusedVariables false
set_option linter.unnecessarySimpa false
structure OV where
  n : Nat
  ap : Option Addr
  cp : Nat
  pairs : List Pr
  aa : Option Addr
  ca : Nat
  above : List SV
  ab : Option Addr
  cb : Nat
  below : List SV
  asp : Option Addr
  csp : Nat
  sorted : List Int
def encOd (o : OV) : List Value := [.int .i64 (o.n : Int), .slice o.ap o.pairs.length o.cp, .slice o.aa o.above.length o.ca, .slice o.ab o.below.length o.cb, .slice o.asp o.sorted.length o.csp]
/-- The sets of l lie in blocks of F. -/
def WdsAt (F : Nat → Prop) (w : World) (l : List SV) : Prop := ∀ s ∈ l, Sl encU 1 F w s.a s.c (wl s.x)
structure OdAt (F : Nat → Prop) (w : World) (p : Nat) (o : OV) : Prop where
  blk : F p
  at' : At w p 0 (encOd o)
  pr : Sl encPr 2 F w o.ap o.cp o.pairs
  ab : Sl encSV 1 F w o.aa o.ca o.above
  be : Sl encSV 1 F w o.ab o.cb o.below
  wa : WdsAt F w o.above
  wb : WdsAt F w o.below
  la : o.above.length = o.n
  lb : o.below.length = o.n
  hn : o.n ≤ 64
section
variable {F F' D : Nat → Prop} {γ : Prop} {w w' : World} {p : Nat} {o : OV}
theorem WdsAt.keep {l : List SV} (h : WdsAt F w l) (x : Bel γ D w w') (hd : ∀ b, b < w.heap.size → F b → ¬ D b) : WdsAt F w' l := fun s hs => (h s hs).keep x hd
theorem WdsAt.mono {l : List SV} (h : WdsAt F w l) (hd : ∀ b, b < w.heap.size → F b → F' b) : WdsAt F' w l := fun s hs => (h s hs).mono hd
theorem WdsAt.ext {l : List SV} (h : WdsAt F w l) (x : Ext γ w w') : WdsAt F w' l := fun s hs => (h s hs).ext x
theorem OdAt.lt (h : OdAt F w p o) : p < w.heap.size := h.at'.lt
theorem OdAt.keep (h : OdAt F w p o) (x : Bel γ D w w') (hd : ∀ b, b < w.heap.size → F b → ¬ D b) : OdAt F w' p o :=
  ⟨h.blk, h.at'.keep x (hd p h.lt h.blk), h.pr.keep x hd, h.ab.keep x hd, h.be.keep x hd, h.wa.keep x hd, h.wb.keep x hd, h.la, h.lb, h.hn⟩
theorem OdAt.ext (h : OdAt F w p o) (x : Ext γ w w') : OdAt F w' p o := h.keep x fun _ _ _ => id
theorem OdAt.mono (h : OdAt F w p o) (hd : ∀ b, b < w.heap.size → F b → F' b) : OdAt F' w p o :=
  ⟨hd p h.lt h.blk, h.at', h.pr.mono hd, h.ab.mono hd, h.be.mono hd, h.wa.mono hd, h.wb.mono hd, h.la, h.lb, h.hn⟩
end
def postSV (F : Nat → Prop) (e : W64) : Post := fun v w => ∃ a c, v = .agg (encSV ⟨a, c, e⟩).toArray ∧ Sl encU 1 F w a c (wl e)
theorem postSV_stable (F : Nat → Prop) (e : W64) : Stable (postSV F e) := fun _ _ _ ⟨a, c, h1, h2⟩ x => ⟨a, c, h1, h2.ext x⟩
@[irreducible] def belO (o : OV) (a : Int) : W64 := if 0 ≤ a ∧ a < (o.n : Int) then (o.below.getD a.toNat sz).x else 0
/-- A role's juniors and itself. -/
@[irreducible] def junO (o : OV) (r : Int) : W64 := if 1 ≤ r ∧ r ≤ 63 then belO o r ||| oneW r.toNat else 0
/-- A hierarchy: nil, or an order behind two pointers. -/
def HrAt (F : Nat → Prop) (w : World) (v : Value) : Option OV → Prop
  | none => v = .pointer none
  | some o => ∃ ph po, v = .pointer (some ⟨ph, 0, none⟩) ∧ F ph ∧ At w ph 0 [.pointer (some ⟨po, 0, none⟩)] ∧ OdAt F w po o
def junH (H : Option OV) (r : Int) : W64 := match H with
  | none => 0
  | some o => junO o r
def closH (H : Option OV) (l : List Int) : W64 := l.foldl (fun x r => x ||| junH H r) 0
theorem closH_succ {H : Option OV} {l : List Int} {i : Nat} {r : Int} (h : l[i]? = some r) : closH H (l.take (i + 1)) = closH H (l.take i) ||| junH H r := by
  have : l.take (i + 1) = l.take i ++ [r] := by
    rw [List.take_add_one, h]; rfl
  rw [this, closH, List.foldl_append]; rfl
section
variable {F F' D : Nat → Prop} {γ : Prop} {w w' : World} {v : Value} {H : Option OV}
theorem HrAt.keep (h : HrAt F w v H) (x : Bel γ D w w') (hd : ∀ b, b < w.heap.size → F b → ¬ D b) : HrAt F w' v H := by
  cases H with
  | none => exact h
  | some o =>
    obtain ⟨ph, po, h1, h2, h3, h4⟩ := h
    exact ⟨ph, po, h1, h2, h3.keep x (hd ph h3.lt h2), h4.keep x hd⟩
theorem HrAt.ext (h : HrAt F w v H) (x : Ext γ w w') : HrAt F w' v H := h.keep x fun _ _ _ => id
theorem HrAt.mono (h : HrAt F w v H) (hd : ∀ b, b < w.heap.size → F b → F' b) : HrAt F' w v H := by
  cases H with
  | none => exact h
  | some o =>
    obtain ⟨ph, po, h1, h2, h3, h4⟩ := h
    exact ⟨ph, po, h1, hd ph h3.lt h2, h3, h4.mono hd⟩
end
end Go.Lx
