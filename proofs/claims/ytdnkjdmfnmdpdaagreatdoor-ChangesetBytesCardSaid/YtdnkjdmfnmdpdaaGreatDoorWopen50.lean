/- Walks: what functions return. -/
import Derived.Test.YtdnkjdmfnmdpdaaGreatDoorCs
import Derived.Test.YtdnkjdmfnmdpdaaGreatDoorSu
import Derived.Test.YtdnkjdmfnmdpdaaGreatDoorPure11
import Derived.Test.YtdnkjdmfnmdpdaaGreatDoorPure11g
set_option linter.unusedVariables false
set_option linter.unusedSimpArgs false
set_option linter.unnecessarySimpa false
namespace Go.Proofs.YtdnkjdmfnmdpdaaGreatDoor
open Go Go.Lx Go.RowKit Tryz
set_option maxRecDepth 100000
section
variable {H : Type} {enc : TypeId × Value → H} {w : World} {sp : Nat → Bool} {held : Bool} {v : Value} {d : DataW H} {ps : List MemPlace} {b0 : Nat} {r : Reach}
theorem open_bytes0 {n : Nat} {x : DataW H × List MemPlace} {v : Value} (h : DataW.trod enc Tryz.prog w 0 sp held n 22 [v] = some x) : ∃ a c l, v = .slice a l.length c ∧ Sl encB 1 (Lt w.heap.size) w a c l := by
 obtain ⟨a, c, l, h1, h2, _⟩ := open_sl (ec := encB) (R := fun _ => True) underlying22 (k := 1) (by kernel_rfl) (by decide) (fun _ => rfl) (fun n cs y h => open_byte underlying5 h) h
 exact ⟨a, c, l, h1, h2⟩
theorem open_bytes (_hv : Value.okWide Tryz.prog w r b0 22 v) (h : DataW.Trod enc Tryz.prog w 0 sp held 22 v d ps) : ∃ (u : Value) (l : List UInt8), v = u ∧ Rd encB 1 (Lt w.heap.size) w u l := by
 obtain ⟨a, n, c, rfl⟩ := WideShapes.okWide_slice underlying22 _hv
 obtain ⟨m, hn⟩ := h
 obtain ⟨a', c', l, h1, h2⟩ := open_bytes0 hn
 exact ⟨_, l, rfl, a', c', h1, h2⟩
theorem open_raw50 {n : Nat} {x : DataW H × List MemPlace} {cs : List Value} (h : DataW.trod enc Tryz.prog w 0 sp held n 96 cs = some x) : ∃ z : RawC, cs = encRaw z ∧ True := by
 obtain ⟨xs, m, _, _, hl, hxs, hf⟩ := DataW.trod_struct underlying96 h
 have hc : Tryz.prog.cellsOf 96 = 6 := by kernel_rfl
 have c1 : Tryz.prog.cellsOf 5 = 1 := by kernel_rfl
 have c2 : Tryz.prog.cellsOf 4 = 1 := by kernel_rfl
 rw [hc] at hl
 obtain ⟨a0, a1, a2, a3, a4, a5, rfl⟩ : ∃ a0 a1 a2 a3 a4 a5, cs = [a0, a1, a2, a3, a4, a5] := by
  match cs, hl with
  | [a0, a1, a2, a3, a4, a5], _ => exact ⟨a0, a1, a2, a3, a4, a5, rfl⟩
 have hx3 : xs.length = 6 := hxs
 have f0 : DataW.trod enc Tryz.prog w 0 sp held m 4 (([a0, a1, a2, a3, a4, a5].drop 0).take (Tryz.prog.cellsOf 4)) = xs[0]? := hf 0 _ rfl
 have f1 : DataW.trod enc Tryz.prog w 0 sp held m 4 (([a0, a1, a2, a3, a4, a5].drop 1).take (Tryz.prog.cellsOf 4)) = xs[1]? := hf 1 _ rfl
 have f2 : DataW.trod enc Tryz.prog w 0 sp held m 5 (([a0, a1, a2, a3, a4, a5].drop 2).take (Tryz.prog.cellsOf 5)) = xs[2]? := hf 2 _ rfl
 have f3 : DataW.trod enc Tryz.prog w 0 sp held m 5 (([a0, a1, a2, a3, a4, a5].drop 3).take (Tryz.prog.cellsOf 5)) = xs[3]? := hf 3 _ rfl
 have f4 : DataW.trod enc Tryz.prog w 0 sp held m 5 (([a0, a1, a2, a3, a4, a5].drop 4).take (Tryz.prog.cellsOf 5)) = xs[4]? := hf 4 _ rfl
 have f5 : DataW.trod enc Tryz.prog w 0 sp held m 5 (([a0, a1, a2, a3, a4, a5].drop 5).take (Tryz.prog.cellsOf 5)) = xs[5]? := hf 5 _ rfl
 rw [c2] at f0 f1; rw [c1] at f2 f3 f4 f5
 rw [List.getElem?_eq_getElem (by omega)] at f0 f1 f2 f3 f4 f5
 change DataW.trod enc Tryz.prog w 0 sp held m 4 [a0] = _ at f0
 change DataW.trod enc Tryz.prog w 0 sp held m 4 [a1] = _ at f1
 change DataW.trod enc Tryz.prog w 0 sp held m 5 [a2] = _ at f2
 change DataW.trod enc Tryz.prog w 0 sp held m 5 [a3] = _ at f3
 change DataW.trod enc Tryz.prog w 0 sp held m 5 [a4] = _ at f4
 change DataW.trod enc Tryz.prog w 0 sp held m 5 [a5] = _ at f5
 obtain ⟨b0, g0, _⟩ := DataW.trod_bool underlying4 f0
 obtain ⟨b1, g1, _⟩ := DataW.trod_bool underlying4 f1
 obtain ⟨z2, g2, _⟩ := open_byte underlying5 f2
 obtain ⟨z3, g3, _⟩ := open_byte underlying5 f3
 obtain ⟨z4, g4, _⟩ := open_byte underlying5 f4
 obtain ⟨z5, g5, _⟩ := open_byte underlying5 f5
 refine ⟨⟨b0, b1, z2, z3, z4, z5⟩, ?_, trivial⟩
 simp only [encB, List.cons.injEq, and_true] at g0 g1 g2 g3 g4 g5
 rw [g0, g1, g2, g3, g4, g5]; rfl
theorem open_raws500 {n : Nat} {x : DataW H × List MemPlace} {v : Value} (h : DataW.trod enc Tryz.prog w 0 sp held n 23 [v] = some x) : ∃ a c l, v = .slice a l.length c ∧ Sl encRaw 6 (Lt w.heap.size) w a c l := by
 obtain ⟨a, c, l, h1, h2, _⟩ := open_sl (ec := encRaw) (R := fun _ => True) underlying23 (k := 6) (by kernel_rfl) (by decide) (fun _ => rfl) (fun n cs y h => open_raw50 h) h
 exact ⟨a, c, l, h1, h2⟩
theorem open_raws50 (_hv : Value.okWide Tryz.prog w r b0 23 v) (h : DataW.Trod enc Tryz.prog w 0 sp held 23 v d ps) : ∃ (u : Value) (l : List RawC), v = u ∧ Rd encRaw 6 (Lt w.heap.size) w u l := by
 obtain ⟨a, n, c, rfl⟩ := WideShapes.okWide_slice underlying23 _hv
 obtain ⟨m, hn⟩ := h
 obtain ⟨a', c', l, h1, h2⟩ := open_raws500 hn
 exact ⟨_, l, rfl, a', c', h1, h2⟩
end
section
variable {H : Type} {enc : TypeId × Value → H} {w : World} {sp : Nat → Bool} {held : Bool} {v : Value} {d : DataW H} {ps : List MemPlace} {b0 : Nat} {r : Reach}
end
