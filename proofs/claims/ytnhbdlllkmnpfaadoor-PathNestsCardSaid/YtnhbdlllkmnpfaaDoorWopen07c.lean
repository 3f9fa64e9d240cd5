/- Walks, printed by program: each theorem says what a function of the translation returns. -/
import Derived.Test.YtnhbdlllkmnpfaaDoorWopen07
import Derived.Test.YtnhbdlllkmnpfaaDoorWlaw7h
namespace Go.Proofs.YtnhbdlllkmnpfaaDoor
open Go Go.Lx Go.RowKit
set_option maxRecDepth 100000
set_option linter.unusedVariables false
set_option linter.unusedSimpArgs false
set_option linter.unnecessarySimpa false
theorem open_bvs {H : Type} {enc : TypeId × Value → H} {w : World} {sp : Nat → Bool} {held : Bool} {v : Value} {d : DataW H} {ps : List MemPlace} {b0 : Nat} {r : Reach} (_hv : Value.okWide Tryd.prog w r b0 64 v) (h : DataW.Trod enc Tryd.prog w 0 sp held 64 v d ps) : ∃ (u : Value) (l : List BV), v = u ∧ Rd encBV 1 (Lt w.heap.size) w u l ∧ ∀ z ∈ l, Sl encB 1 (Lt w.heap.size) w z.a z.c z.l := by
  obtain ⟨a, n, c, rfl⟩ := WideShapes.okWide_slice Tryd.underlying64 _hv
  obtain ⟨m, hn⟩ := h
  obtain ⟨a', c', l, h1, h2, h3⟩ := open_sl (ec := encBV) (R := fun z => Sl encB 1 (Lt w.heap.size) w z.a z.c z.l) Tryd.underlying64 (k := 1) (by kernel_rfl) (by decide) (fun _ => rfl) (fun n cs y h => by
    have hl : ∃ u, cs = [u] := by
      rcases DataW.trod_slice Tryd.underlying30 h with ⟨h1, _⟩ | ⟨_, _, _, _, _, _, _, h1, _⟩
      · exact ⟨_, h1⟩
      · exact ⟨_, h1⟩
    obtain ⟨u, rfl⟩ := hl
    obtain ⟨p, c, l, rfl, s0⟩ := open_bytes0 h
    exact ⟨⟨p, c, l⟩, rfl, s0⟩) hn
  exact ⟨_, l, rfl, ⟨a', c', h1, h2⟩, h3⟩
end Go.Proofs.YtnhbdlllkmnpfaaDoor
