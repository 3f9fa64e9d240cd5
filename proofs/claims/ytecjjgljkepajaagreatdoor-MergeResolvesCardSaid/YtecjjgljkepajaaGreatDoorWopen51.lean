/- Walks: what functions return. -/
import Derived.Test.YtecjjgljkepajaaGreatDoorMg
import Derived.Test.YtecjjgljkepajaaGreatDoorSt
import Derived.Test.YtecjjgljkepajaaGreatDoorPure11
import Derived.Test.YtecjjgljkepajaaGreatDoorPure11e
set_option linter.unusedVariables false
set_option linter.unusedSimpArgs false
set_option linter.unnecessarySimpa false
namespace Go.Proofs.YtecjjgljkepajaaGreatDoor
open Go Go.Lx Go.RowKit
set_option maxRecDepth 100000
section
variable {H : Type} {enc : TypeId × Value → H} {w : World} {sp : Nat → Bool} {held : Bool} {v : Value} {d : DataW H} {ps : List MemPlace} {b0 : Nat} {r : Reach}
theorem open_bytes0 {n : Nat} {x : DataW H × List MemPlace} {v : Value} (h : DataW.trod enc Tryz.prog w 0 sp held n 22 [v] = some x) : ∃ a c l, v = .slice a l.length c ∧ Sl encB 1 (Lt w.heap.size) w a c l := by
 obtain ⟨a, c, l, h1, h2, _⟩ := open_sl (ec := encB) (R := fun _ => True) Tryz.underlying22 (k := 1) (by kernel_rfl) (by decide) (fun _ => rfl) (fun n cs y h => open_byte Tryz.underlying5 h) h
 exact ⟨a, c, l, h1, h2⟩
theorem open_bytes (_hv : Value.okWide Tryz.prog w r b0 22 v) (h : DataW.Trod enc Tryz.prog w 0 sp held 22 v d ps) : ∃ (u : Value) (l : List UInt8), v = u ∧ Rd encB 1 (Lt w.heap.size) w u l := by
 obtain ⟨a, n, c, rfl⟩ := WideShapes.okWide_slice Tryz.underlying22 _hv
 obtain ⟨m, hn⟩ := h
 obtain ⟨a', c', l, h1, h2⟩ := open_bytes0 hn
 exact ⟨_, l, rfl, a', c', h1, h2⟩
theorem open_raw50 {n : Nat} {x : DataW H × List MemPlace} {cs : List Value} (h : DataW.trod enc Tryz.prog w 0 sp held n 144 cs = some x) : ∃ z : RawC, cs = encRaw z ∧ True := by
 obtain ⟨xs, m, _, _, hl, hxs, hf⟩ := DataW.trod_struct Tryz.underlying144 h
 have hc : Tryz.prog.cellsOf 144 = 6 := by kernel_rfl
 have c1 : Tryz.prog.cellsOf 5 = 1 := by kernel_rfl
 have c2 : Tryz.prog.cellsOf 4 = 1 := by kernel_rfl
 rw [hc] at hl
 obtain ⟨a0, a1, a2, a3, a4, a5, rfl⟩ : ∃ a0 a1 a2 a3 a4 a5, cs = [a0, a1, a2, a3, a4, a5] := by
  match cs, hl with
  | [a0, a1, a2, a3, a4, a5], _ => exact ⟨a0, a1, a2, a3, a4, a5, rfl⟩
 have hx3 : xs.length = 6 := hxs
 have f0 : DataW.trod enc Tryz.prog w 0 sp held m 4 (([a0, a1, a2, a3, a4, a5].drop 0).take (Tryz.prog.cellsOf 4)) = xs[0]? := hf 0 _ rfl
 have f1 : DataW.trod enc Tryz.prog w 0 sp held m 4 (([a0, a1, a2, a3, a4, a5].drop 1).take (Tryz.prog.cellsOf 4)) = xs[1]? := hf 1 _ rfl
 have f2 : DataW.trod enc Tryz.prog w 0 sp held m 5 (([a0, a1, a2, a3, a4, a5].drop 2).take (Tryz.prog.cellsOf 5)) = xs[2]? := hf 2 _ rfl
 have f3 : DataW.trod enc Tryz.prog w 0 sp held m 5 (([a0, a1, a2, a3, a4, a5].drop 3).take (Tryz.prog.cellsOf 5)) = xs[3]? := hf 3 _ rfl
 have f4 : DataW.trod enc Tryz.prog w 0 sp held m 5 (([a0, a1, a2, a3, a4, a5].drop 4).take (Tryz.prog.cellsOf 5)) = xs[4]? := hf 4 _ rfl
 have f5 : DataW.trod enc Tryz.prog w 0 sp held m 5 (([a0, a1, a2, a3, a4, a5].drop 5).take (Tryz.prog.cellsOf 5)) = xs[5]? := hf 5 _ rfl
 rw [c2] at f0 f1; rw [c1] at f2 f3 f4 f5
 rw [List.getElem?_eq_getElem (by omega)] at f0 f1 f2 f3 f4 f5
 change DataW.trod enc Tryz.prog w 0 sp held m 4 [a0] = _ at f0
 change DataW.trod enc Tryz.prog w 0 sp held m 4 [a1] = _ at f1
 change DataW.trod enc Tryz.prog w 0 sp held m 5 [a2] = _ at f2
 change DataW.trod enc Tryz.prog w 0 sp held m 5 [a3] = _ at f3
 change DataW.trod enc Tryz.prog w 0 sp held m 5 [a4] = _ at f4
 change DataW.trod enc Tryz.prog w 0 sp held m 5 [a5] = _ at f5
 obtain ⟨b0, g0, _⟩ := DataW.trod_bool Tryz.underlying4 f0
 obtain ⟨b1, g1, _⟩ := DataW.trod_bool Tryz.underlying4 f1
 obtain ⟨z2, g2, _⟩ := open_byte Tryz.underlying5 f2
 obtain ⟨z3, g3, _⟩ := open_byte Tryz.underlying5 f3
 obtain ⟨z4, g4, _⟩ := open_byte Tryz.underlying5 f4
 obtain ⟨z5, g5, _⟩ := open_byte Tryz.underlying5 f5
 refine ⟨⟨b0, b1, z2, z3, z4, z5⟩, ?_, trivial⟩
 simp only [encB, List.cons.injEq, and_true] at g0 g1 g2 g3 g4 g5
 rw [g0, g1, g2, g3, g4, g5]; rfl
theorem open_raws500 {n : Nat} {x : DataW H × List MemPlace} {v : Value} (h : DataW.trod enc Tryz.prog w 0 sp held n 23 [v] = some x) : ∃ a c l, v = .slice a l.length c ∧ Sl encRaw 6 (Lt w.heap.size) w a c l := by
 obtain ⟨a, c, l, h1, h2, _⟩ := open_sl (ec := encRaw) (R := fun _ => True) Tryz.underlying23 (k := 6) (by kernel_rfl) (by decide) (fun _ => rfl) (fun n cs y h => open_raw50 h) h
 exact ⟨a, c, l, h1, h2⟩
theorem open_bl0 {n : Nat} {x : DataW H × List MemPlace} {v : Value} (h : DataW.trod enc Tryz.prog w 0 sp held n 42 [v] = some x) : ∃ a c l, v = .slice a l.length c ∧ Sl encBl 1 (Lt w.heap.size) w a c l ∧ (l.length ≠ 0 → ∃ n ∈ x.1.weights Tryz.prog 42, l.length ≤ n) := by
 obtain ⟨a, c, l, h1, h2, _⟩ := open_sl (ec := encBl) (R := fun _ => True) Tryz.underlying42 (k := 1) (by kernel_rfl) (by decide) (fun _ => rfl) (fun n cs y h => by obtain ⟨b, g, _⟩ := DataW.trod_bool Tryz.underlying4 h; exact ⟨b, g, trivial⟩) h
 refine ⟨a, c, l, h1, h2, fun h0 => ?_⟩
 rcases DataW.trod_slice Tryz.underlying42 h with ⟨e1, _⟩ | ⟨a', len, cap, elems, rest, m, _, e1, e2, _, _, _, e3, _⟩
 ·rw [h1] at e1
  simp only [List.cons.injEq, Value.slice.injEq] at e1
  exact absurd e1.1.2.1 h0
 ·rw [h1] at e1
  simp only [List.cons.injEq, Value.slice.injEq] at e1
  have e4 := e1.1.2.1
  refine ⟨(elems.length + rest.length) * Tryz.prog.bytesOf 4, ?_, ?_⟩
  ·rw [e2]; simp [DataW.weights, Tryz.underlying42]
  ·have hb : Tryz.prog.bytesOf 4 = 1 := by kernel_rfl
   rw [hb]; omega
theorem open_choice (_hv : Value.okWide Tryz.prog w r b0 44 v) (h : DataW.Trod enc Tryz.prog w 0 sp held 44 v d ps) : ∃ a1 a2 a3 c1 c2 c3 l m ch fit, v = .agg #[.slice a1 (l : List RawC).length c1, .slice a2 (m : List RawC).length c2, .slice a3 (ch : List Bool).length c3, .bool fit] ∧ Sl encRaw 6 (Lt w.heap.size) w a1 c1 l ∧ Sl encRaw 6 (Lt w.heap.size) w a2 c2 m ∧ Sl encBl 1 (Lt w.heap.size) w a3 c3 ch ∧ (ch.length ≠ 0 → ∃ n ∈ d.weights Tryz.prog 44, ch.length ≤ n) := by
 obtain ⟨cs, rfl, _⟩ := WideShapes.okWide_struct Tryz.underlying44 _hv
 obtain ⟨n, hn⟩ := h
 obtain ⟨xs, m, _, hx, hl, hxs, hf⟩ := DataW.trod_struct Tryz.underlying44 hn
 have hc : Tryz.prog.cellsOf 44 = 4 := by kernel_rfl
 have c1 : Tryz.prog.cellsOf 23 = 1 := by kernel_rfl
 have c2 : Tryz.prog.cellsOf 42 = 1 := by kernel_rfl
 have c3 : Tryz.prog.cellsOf 4 = 1 := by kernel_rfl
 rw [hc] at hl
 obtain ⟨k0, k1, k2, k3, rfl⟩ : ∃ k0 k1 k2 k3, cs = #[k0, k1, k2, k3] := by
  obtain ⟨L⟩ := cs
  match L, hl with
  | [k0, k1, k2, k3], _ => exact ⟨k0, k1, k2, k3, rfl⟩
 have hx3 : xs.length = 4 := hxs
 have f0 : DataW.trod enc Tryz.prog w 0 sp held m 23 (([k0, k1, k2, k3].drop 0).take (Tryz.prog.cellsOf 23)) = xs[0]? := hf 0 _ rfl
 have f1 : DataW.trod enc Tryz.prog w 0 sp held m 23 (([k0, k1, k2, k3].drop 1).take (Tryz.prog.cellsOf 23)) = xs[1]? := hf 1 _ rfl
 have f2 : DataW.trod enc Tryz.prog w 0 sp held m 42 (([k0, k1, k2, k3].drop 2).take (Tryz.prog.cellsOf 42)) = xs[2]? := hf 2 _ rfl
 have f3 : DataW.trod enc Tryz.prog w 0 sp held m 4 (([k0, k1, k2, k3].drop 3).take (Tryz.prog.cellsOf 4)) = xs[3]? := hf 3 _ rfl
 rw [c1] at f0 f1; rw [c2] at f2; rw [c3] at f3
 rw [List.getElem?_eq_getElem (by omega)] at f0 f1 f2 f3
 change DataW.trod enc Tryz.prog w 0 sp held m 23 [k0] = _ at f0
 change DataW.trod enc Tryz.prog w 0 sp held m 23 [k1] = _ at f1
 change DataW.trod enc Tryz.prog w 0 sp held m 42 [k2] = _ at f2
 change DataW.trod enc Tryz.prog w 0 sp held m 4 [k3] = _ at f3
 obtain ⟨p1, q1, l1, rfl, g1⟩ := open_raws500 f0
 obtain ⟨p2, q2, l2, rfl, g2⟩ := open_raws500 f1
 obtain ⟨p3, q3, l3, rfl, g3, g4⟩ := open_bl0 f2
 obtain ⟨b, g5, _⟩ := DataW.trod_bool Tryz.underlying4 f3
 simp only [encB, List.cons.injEq, and_true] at g5
 subst g5
 refine ⟨p1, p2, p3, q1, q2, q3, l1, l2, l3, b, rfl, g1, g2, g3, fun h0 => ?_⟩
 obtain ⟨n, hn, hle⟩ := g4 h0
 refine ⟨n, ?_, hle⟩
 have hd : d = .agg (xs.map (·.1)) := congrArg Prod.fst hx
 rw [hd]
 unfold DataW.weights
 rw [Tryz.underlying44]
 exact DataW.weights_mem_each (j := 2) (t := 42) (d := xs[2].1) rfl (by rw [List.getElem?_map, List.getElem?_eq_getElem (by omega)]; rfl) n hn
end
end Go.Proofs.YtecjjgljkepajaaGreatDoor
