/- Walks, printed by program: each theorem says what a function of the translation returns. -/
import Derived.Test.YtncmjgmlnnenhaaGreatDoorWlaw22a
namespace Go.Proofs.YtncmjgmlnnenhaaGreatDoor
open Go Go.Lx Go.RowKit
set_option maxRecDepth 100000
set_option linter.unusedVariables false
set_option linter.unusedSimpArgs false
set_option linter.unnecessarySimpa false
theorem seffE_ok (v0 : Value) (m : List RS) (w : World) (hb0 : BkIs w v0 m) (hm : OkM m) (n : Int) (hn : -1000 ≤ n ∧ n ≤ 1000) (s : SV) (Gs : Nat → Prop) (hs : Sl encU 1 Gs w s.a s.c (wl s.x)) (p : Option Addr) (H : Option OV) (Fh : Nat → Prop) (hH : HrAt Fh w (.pointer p) H) (hT : Tb w) {e : W64} (he : effW (fun y => closH H (memW y 64)) m n s.x = e) : Ok Tryz.prog 27 #[v0, .int .i64 n, .agg (encSV s).toArray, .pointer p] w fun v w' => (∃ a c, v = .agg (encSV ⟨a, c, e⟩).toArray ∧ Sl encU 1 (Fsh w w') w' a c (wl e)) ∧ Ext False w w' := by
  subst he; exact seff_ok v0 m w hb0 hm n hn s Gs hs p H Fh hH hT
end Go.Proofs.YtncmjgmlnnenhaaGreatDoor
