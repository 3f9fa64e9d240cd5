/- Walks, printed by program: each theorem says what a function of the translation returns. -/
import Derived.Test.YtnhbdlllkmnpfaaDoorWlaw7c
import Derived.Test.YtnhbdlllkmnpfaaDoorOpen
import Derived.Laws.IdiomArrays
namespace Go.Proofs.YtnhbdlllkmnpfaaDoor
open Go Go.Lx Go.RowKit
set_option maxRecDepth 100000
set_option linter.unusedVariables false
set_option linter.unusedSimpArgs false
set_option linter.unnecessarySimpa false
section
variable {H : Type} {enc : TypeId × Value → H} {w : World} {sp : Nat → Bool} {held : Bool} {v : Value} {d : DataW H} {ps : List MemPlace} {b0 : Nat} {r : Reach}
theorem open_str (_hv : Value.okWide Tryd.prog w r b0 9 v) (h : DataW.Trod enc Tryd.prog w 0 sp held 9 v d ps) : ∃ l : Str, v = str l ∧ l.length ≤ maxLen := by
  obtain ⟨s, rfl⟩ := WideShapes.okWide_string Tryd.underlying9 _hv
  obtain ⟨n, hn⟩ := h
  obtain ⟨s', h1, _, h3⟩ := DataW.trod_string Tryd.underlying9 hn
  have e : s = s' := by simpa [Value.cells] using h1
  subst e
  exact ⟨s.data.toList, rfl, by simpa using h3⟩
theorem open_bytes0 {n : Nat} {x : DataW H × List MemPlace} {v : Value} (h : DataW.trod enc Tryd.prog w 0 sp held n 30 [v] = some x) : ∃ a c l, v = .slice a l.length c ∧ Sl encB 1 (Lt w.heap.size) w a c l := by
  obtain ⟨a, c, l, h1, h2, _⟩ := open_sl (ec := encB) (R := fun _ => True) Tryd.underlying30 (k := 1) (by kernel_rfl) (by decide) (fun _ => rfl) (fun n cs y h => open_byte Tryd.underlying5 h) h
  exact ⟨a, c, l, h1, h2⟩
theorem open_bytes (_hv : Value.okWide Tryd.prog w r b0 30 v) (h : DataW.Trod enc Tryd.prog w 0 sp held 30 v d ps) : ∃ (u : Value) (l : List UInt8), v = u ∧ Rd encB 1 (Lt w.heap.size) w u l := by
  obtain ⟨a, n, c, rfl⟩ := WideShapes.okWide_slice Tryd.underlying30 _hv
  obtain ⟨m, hn⟩ := h
  obtain ⟨a', c', l, h1, h2⟩ := open_bytes0 hn
  exact ⟨_, l, rfl, a', c', h1, h2⟩
theorem open_s0 {n : Nat} {x : DataW H × List MemPlace} {cs : List Value} (h : DataW.trod enc Tryd.prog w 0 sp held n 9 cs = some x) : ∃ z : Str, cs = encS z := by
  obtain ⟨s', h1, _, h3⟩ := DataW.trod_string Tryd.underlying9 h
  exact ⟨s'.data.toList, h1⟩
theorem open_strs (_hv : Value.okWide Tryd.prog w r b0 35 v) (h : DataW.Trod enc Tryd.prog w 0 sp held 35 v d ps) : ∃ (u : Value) (l : List Str), v = u ∧ Rd encS 1 (Lt w.heap.size) w u l := by
  obtain ⟨a, n, c, rfl⟩ := WideShapes.okWide_slice Tryd.underlying35 _hv
  obtain ⟨m, hn⟩ := h
  obtain ⟨a', c', l, h1, h2, _⟩ := open_sl (ec := encS) (R := fun _ => True) Tryd.underlying35 (k := 1) (by kernel_rfl) (by decide) (fun _ => rfl) (fun n cs y h => (open_s0 h).imp fun z hz => ⟨hz, trivial⟩) hn
  exact ⟨_, l, rfl, a', c', h1, h2⟩
theorem open_three (_hv : Value.okWide Tryd.prog w r b0 32 v) (h : DataW.Trod enc Tryd.prog w 0 sp held 32 v d ps) : ∃ x : Three7, v = .agg (enc37 x).toArray ∧ Sl encB 1 (Lt w.heap.size) w x.a0 x.c0 x.l0 ∧ Sl encB 1 (Lt w.heap.size) w x.a1 x.c1 x.l1 ∧ Sl encB 1 (Lt w.heap.size) w x.a2 x.c2 x.l2 := by
  simp only [Value.okWide, Tryd.underlying32] at _hv
  obtain ⟨cs, rfl, h2, _⟩ := _hv
  have hc : cs.size = 3 := by rw [h2]; kernel_rfl
  obtain ⟨l, rfl⟩ : ∃ l : List Value, cs = l.toArray := ⟨cs.toList, by simp⟩
  simp only [List.size_toArray] at hc
  obtain ⟨a0, a1, a2, rfl⟩ : ∃ a0 a1 a2, l = [a0, a1, a2] := by
    match l, hc with
    | [a0, a1, a2], _ => exact ⟨a0, a1, a2, rfl⟩
  obtain ⟨m, hn⟩ := h
  obtain ⟨y0, y1, y2, n, _, g0, g1, g2⟩ := Go.ChangeShapes.trod_array3 Tryd.underlying32 (by kernel_rfl) hn
  obtain ⟨p0, c0, l0, rfl, s0⟩ := open_bytes0 g0
  obtain ⟨p1, c1, l1, rfl, s1⟩ := open_bytes0 g1
  obtain ⟨p2, c2, l2, rfl, s2⟩ := open_bytes0 g2
  exact ⟨⟨p0, c0, l0, p1, c1, l1, p2, c2, l2⟩, rfl, s0, s1, s2⟩
end
end Go.Proofs.YtnhbdlllkmnpfaaDoor
