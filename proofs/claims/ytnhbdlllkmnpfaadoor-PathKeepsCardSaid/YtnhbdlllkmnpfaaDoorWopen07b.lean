/- Walks, printed by program: each theorem says what a function of the translation returns. -/
import Derived.Test.YtnhbdlllkmnpfaaDoorWopen07
import Derived.Test.YtnhbdlllkmnpfaaDoorWplay
namespace Go.Proofs.YtnhbdlllkmnpfaaDoor
open Go Go.Lx Go.RowKit
set_option maxRecDepth 100000
set_option linter.unusedVariables false
set_option linter.unusedSimpArgs false
set_option linter.unnecessarySimpa false
section
variable {H : Type} {enc : TypeId × Value → H} {w : World} {sp : Nat → Bool} {held : Bool} {v : Value} {d : DataW H} {ps : List MemPlace} {b0 : Nat} {r : Reach}
theorem open_op0 {n : Nat} {x : DataW H × List MemPlace} {cs : List Value} (h : DataW.trod enc Tryd.prog w 0 sp held n 55 cs = some x) : ∃ z : OpV, cs = encO z ∧ Sl encB 1 (Lt w.heap.size) w z.a z.c z.path := by
  obtain ⟨xs, m, _, _, hl, hxs, hf⟩ := DataW.trod_struct Tryd.underlying55 h
  have hc : Tryd.prog.cellsOf 55 = 3 := by kernel_rfl
  have c1 : Tryd.prog.cellsOf 4 = 1 := by kernel_rfl
  have c2 : Tryd.prog.cellsOf 30 = 1 := by kernel_rfl
  have c3 : Tryd.prog.cellsOf 9 = 1 := by kernel_rfl
  rw [hc] at hl
  obtain ⟨a0, a1, a2, rfl⟩ : ∃ a0 a1 a2, cs = [a0, a1, a2] := by
    match cs, hl with
    | [a0, a1, a2], _ => exact ⟨a0, a1, a2, rfl⟩
  have hx3 : xs.length = 3 := hxs
  have f0 : DataW.trod enc Tryd.prog w 0 sp held m 4 (([a0, a1, a2].drop 0).take (Tryd.prog.cellsOf 4)) = xs[0]? := hf 0 _ rfl
  have f1 : DataW.trod enc Tryd.prog w 0 sp held m 30 (([a0, a1, a2].drop 1).take (Tryd.prog.cellsOf 30)) = xs[1]? := hf 1 _ rfl
  have f2 : DataW.trod enc Tryd.prog w 0 sp held m 9 (([a0, a1, a2].drop 2).take (Tryd.prog.cellsOf 9)) = xs[2]? := hf 2 _ rfl
  rw [c1] at f0; rw [c2] at f1; rw [c3] at f2
  rw [List.getElem?_eq_getElem (by omega)] at f0 f1 f2
  change DataW.trod enc Tryd.prog w 0 sp held m 4 [a0] = _ at f0
  change DataW.trod enc Tryd.prog w 0 sp held m 30 [a1] = _ at f1
  change DataW.trod enc Tryd.prog w 0 sp held m 9 [a2] = _ at f2
  obtain ⟨b, g0, _⟩ := DataW.trod_bool Tryd.underlying4 f0
  obtain ⟨p, c, l, g1, g1'⟩ := open_bytes0 f1
  obtain ⟨z2, g2⟩ := open_s0 f2
  refine ⟨⟨b, p, c, l, z2⟩, ?_, g1'⟩
  simp only [encS, List.cons.injEq, and_true] at g0 g2
  rw [g0, g1, g2]; rfl
theorem open_op (_hv : Value.okWide Tryd.prog w r b0 55 v) (h : DataW.Trod enc Tryd.prog w 0 sp held 55 v d ps) : ∃ z : OpV, v = .agg (encO z).toArray ∧ Sl encB 1 (Lt w.heap.size) w z.a z.c z.path := by
  obtain ⟨cs, rfl, _⟩ := WideShapes.okWide_struct Tryd.underlying55 _hv
  obtain ⟨n, hn⟩ := h
  obtain ⟨z, h1, h2⟩ := open_op0 hn
  refine ⟨z, ?_, h2⟩
  have : cs.toList = encO z := h1
  rw [← this]
theorem open_ops (_hv : Value.okWide Tryd.prog w r b0 41 v) (h : DataW.Trod enc Tryd.prog w 0 sp held 41 v d ps) : ∃ (u : Value) (l : List OpV), v = u ∧ Rd encO 3 (Lt w.heap.size) w u l ∧ ∀ z ∈ l, Sl encB 1 (Lt w.heap.size) w z.a z.c z.path := by
  obtain ⟨a, n, c, rfl⟩ := WideShapes.okWide_slice Tryd.underlying41 _hv
  obtain ⟨m, hn⟩ := h
  obtain ⟨a', c', l, h1, h2, h3⟩ := open_sl (ec := encO) Tryd.underlying41 (k := 3) (by kernel_rfl) (by decide) (fun _ => rfl) (fun n cs y h => open_op0 h) hn
  exact ⟨_, l, rfl, ⟨a', c', h1, h2⟩, h3⟩
end
end Go.Proofs.YtnhbdlllkmnpfaaDoor
