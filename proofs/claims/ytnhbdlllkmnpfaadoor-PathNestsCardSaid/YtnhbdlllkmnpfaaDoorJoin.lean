/- strings.Join at this translation, over a slice told by a list. -/
import Derived.Test.YtnhbdlllkmnpfaaDoorExt
import Derived.Test.YtnhbdlllkmnpfaaDoorShelf
namespace Go.Proofs.YtnhbdlllkmnpfaaDoor
open Go Go.Lx Go.RowKit
set_option linter.unusedSimpArgs false
set_option linter.unusedVariables false
set_option linter.unnecessarySimpa false
theorem sjoin_ok (a : Option Addr) (c : Nat) (B : Nat → Prop) (l : List Str) (w : World) (hs : Sl encS 1 B w a c l) (hN : l.length ≤ 1000000) (hlen : (Lib.join l [47]).length ≤ 140737488355328) :
    Ok Tryd.prog 76 #[.slice a l.length c, str [47]] w fun v w' => v = str (Lib.join l [47]) ∧ Ext False w w' := by
  cases l with
  | nil =>
    refine (Tryd.strings_Join_none a c ⟨#[47]⟩ w).mono ?_
    rintro e w' ⟨rfl, rfl⟩
    exact ⟨_, rfl, rfl, Ext.rfl' _⟩
  | cons x r =>
    obtain ⟨b, off, rfl, hb, _, _⟩ := hs.el 0 x rfl
    have hd : (List.map (fun s : Str => (⟨s.toArray⟩ : ByteArray)) (x :: r)).map (·.data.toList) = x :: r := by
      rw [List.map_map]
      conv => rhs; rw [← List.map_id (x :: r)]
      exact List.map_congr_left fun y _ => rfl
    have h := Tryd.strings_Join b off c ((x :: r).map fun s => ⟨s.toArray⟩) ⟨#[47]⟩ w (by
      intro j y hj
      rw [List.getElem?_map] at hj
      cases hz : (x :: r)[j]? with
      | none => rw [hz] at hj; simp at hj
      | some z =>
        rw [hz] at hj
        simp at hj
        subst hj
        obtain ⟨b', off', hab, _, h3, _⟩ := hs.el j z hz
        simp at hab
        obtain ⟨rfl, rfl⟩ := hab
        have := h3 0 (str z) rfl
        simpa [str] using this) (by have := hb.2; omega) (by rw [List.length_map]; omega) (by rw [List.length_map]; exact hs.le) (by rw [hd]; exact hlen)
    rw [hd, List.length_map] at h
    refine h.mono ?_
    rintro e w' ⟨rfl, hx⟩
    exact ⟨_, rfl, rfl, Ext.ofBelow hx⟩
end Go.Proofs.YtnhbdlllkmnpfaaDoor
