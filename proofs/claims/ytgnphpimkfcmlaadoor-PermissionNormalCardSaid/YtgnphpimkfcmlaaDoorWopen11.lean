/- Walks, printed by program: each theorem says what a function of the translation returns. -/
import Derived.Test.YtgnphpimkfcmlaaDoorWlaw11a
import Derived.Test.YtgnphpimkfcmlaaDoorOpen
namespace Go.Proofs.YtgnphpimkfcmlaaDoor
open Go Go.Lx Go.RowKit
set_option maxRecDepth 100000
set_option linter.unusedVariables false
set_option linter.unusedSimpArgs false
set_option linter.unnecessarySimpa false
section
variable {H : Type} {enc : TypeId × Value → H} {w : World} {sp : Nat → Bool} {held : Bool} {v : Value} {d : DataW H} {ps : List MemPlace} {b0 : Nat} {r : Reach}
theorem open_str (_hv : Value.okWide Tryd.prog w r b0 9 v) (h : DataW.Trod enc Tryd.prog w 0 sp held 9 v d ps) : ∃ l : Str, v = str l ∧ l.length ≤ maxLen := by
  obtain ⟨s, rfl⟩ := WideShapes.okWide_string Tryd.underlying9 _hv
  obtain ⟨n, hn⟩ := h
  obtain ⟨s', h1, _, h3⟩ := DataW.trod_string Tryd.underlying9 hn
  have e : s = s' := by simpa [Value.cells] using h1
  subst e
  exact ⟨s.data.toList, rfl, by simpa using h3⟩
theorem open_bytes0 {n : Nat} {x : DataW H × List MemPlace} {v : Value} (h : DataW.trod enc Tryd.prog w 0 sp held n 22 [v] = some x) : ∃ a c l, v = .slice a l.length c ∧ Sl encB 1 (Lt w.heap.size) w a c l := by
  obtain ⟨a, c, l, h1, h2, _⟩ := open_sl (ec := encB) (R := fun _ => True) Tryd.underlying22 (k := 1) (by kernel_rfl) (by decide) (fun _ => rfl) (fun n cs y h => open_byte Tryd.underlying5 h) h
  exact ⟨a, c, l, h1, h2⟩
theorem open_bytes (_hv : Value.okWide Tryd.prog w r b0 22 v) (h : DataW.Trod enc Tryd.prog w 0 sp held 22 v d ps) : ∃ (u : Value) (l : List UInt8), v = u ∧ Rd encB 1 (Lt w.heap.size) w u l := by
  obtain ⟨a, n, c, rfl⟩ := WideShapes.okWide_slice Tryd.underlying22 _hv
  obtain ⟨m, hn⟩ := h
  obtain ⟨a', c', l, h1, h2⟩ := open_bytes0 hn
  exact ⟨_, l, rfl, a', c', h1, h2⟩
theorem open_raw0 {n : Nat} {x : DataW H × List MemPlace} {cs : List Value} (h : DataW.trod enc Tryd.prog w 0 sp held n 24 cs = some x) : ∃ z : RawV, cs = encR z ∧ Sl encB 1 (Lt w.heap.size) w z.a z.c z.names := by
  obtain ⟨xs, m, _, _, hl, hxs, hf⟩ := DataW.trod_struct Tryd.underlying24 h
  have hc : Tryd.prog.cellsOf 24 = 3 := by kernel_rfl
  have c1 : Tryd.prog.cellsOf 5 = 1 := by kernel_rfl
  have c2 : Tryd.prog.cellsOf 22 = 1 := by kernel_rfl
  have c3 : Tryd.prog.cellsOf 4 = 1 := by kernel_rfl
  rw [hc] at hl
  obtain ⟨a0, a1, a2, rfl⟩ : ∃ a0 a1 a2, cs = [a0, a1, a2] := by
    match cs, hl with
    | [a0, a1, a2], _ => exact ⟨a0, a1, a2, rfl⟩
  have hx3 : xs.length = 3 := hxs
  have f0 : DataW.trod enc Tryd.prog w 0 sp held m 5 (([a0, a1, a2].drop 0).take (Tryd.prog.cellsOf 5)) = xs[0]? := hf 0 _ rfl
  have f1 : DataW.trod enc Tryd.prog w 0 sp held m 22 (([a0, a1, a2].drop 1).take (Tryd.prog.cellsOf 22)) = xs[1]? := hf 1 _ rfl
  have f2 : DataW.trod enc Tryd.prog w 0 sp held m 4 (([a0, a1, a2].drop 2).take (Tryd.prog.cellsOf 4)) = xs[2]? := hf 2 _ rfl
  rw [c1] at f0; rw [c2] at f1; rw [c3] at f2
  rw [List.getElem?_eq_getElem (by omega)] at f0 f1 f2
  change DataW.trod enc Tryd.prog w 0 sp held m 5 [a0] = _ at f0
  change DataW.trod enc Tryd.prog w 0 sp held m 22 [a1] = _ at f1
  change DataW.trod enc Tryd.prog w 0 sp held m 4 [a2] = _ at f2
  obtain ⟨z0, g0, _⟩ := open_byte Tryd.underlying5 f0
  obtain ⟨p, c, l, g1, g1'⟩ := open_bytes0 f1
  obtain ⟨b, g2, _⟩ := DataW.trod_bool Tryd.underlying4 f2
  refine ⟨⟨z0, p, c, l, b⟩, ?_, g1'⟩
  simp only [encB, List.cons.injEq, and_true] at g0 g2
  rw [g0, g1, g2]; rfl
theorem open_raw (_hv : Value.okWide Tryd.prog w r b0 24 v) (h : DataW.Trod enc Tryd.prog w 0 sp held 24 v d ps) : ∃ z : RawV, v = .agg (encR z).toArray ∧ Sl encB 1 (Lt w.heap.size) w z.a z.c z.names := by
  obtain ⟨cs, rfl, _⟩ := WideShapes.okWide_struct Tryd.underlying24 _hv
  obtain ⟨n, hn⟩ := h
  obtain ⟨z, h1, h2⟩ := open_raw0 hn
  refine ⟨z, ?_, h2⟩
  have : cs.toList = encR z := h1
  rw [← this]
theorem open_raws (_hv : Value.okWide Tryd.prog w r b0 45 v) (h : DataW.Trod enc Tryd.prog w 0 sp held 45 v d ps) : ∃ (u : Value) (l : List RawV), v = u ∧ Rd encR 3 (Lt w.heap.size) w u l ∧ ∀ z ∈ l, Sl encB 1 (Lt w.heap.size) w z.a z.c z.names := by
  obtain ⟨a, n, c, rfl⟩ := WideShapes.okWide_slice Tryd.underlying45 _hv
  obtain ⟨m, hn⟩ := h
  obtain ⟨a', c', l, h1, h2, h3⟩ := open_sl (ec := encR) Tryd.underlying45 (k := 3) (by kernel_rfl) (by decide) (fun _ => rfl) (fun n cs y h => open_raw0 h) hn
  exact ⟨_, l, rfl, ⟨a', c', h1, h2⟩, h3⟩
end
end Go.Proofs.YtgnphpimkfcmlaaDoor
