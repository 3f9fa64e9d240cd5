/- Walks, printed by program: each theorem says what a function of the translation returns. -/
import Derived.Test.YtncmjgmlnnenhaaGreatDoorWopen22
import Derived.Test.YtncmjgmlnnenhaaGreatDoorWplay13
namespace Go.Proofs.YtncmjgmlnnenhaaGreatDoor
open Go Go.Lx Go.RowKit
set_option maxRecDepth 100000
set_option linter.unusedVariables false
set_option linter.unusedSimpArgs false
set_option linter.unnecessarySimpa false
theorem tb_of3 {W : World} (h : laidMetH Tryz.prog [("math/bits.deBruijn64tab", Rows.laid_math_bits_deBruijn64tab), ("unicode/utf8.acceptRanges", Rows.laid_unicode_utf8_acceptRanges), ("unicode/utf8.first", Rows.laid_unicode_utf8_first)] W) : Tb W := by
  rw [MakeChecks.laidMetH_plain _ _ _ (by kernel_rfl)] at h
  have e : (Rows.laid_math_bits_deBruijn64tab : DataW Unit) = Lib.tabData .u8 (Lib.deBruijn64tab.map fun (n : Nat) => (n : Int)) := by kernel_rfl
  rw [e] at h
  have h1 : Lib.TabIs Tryz.prog W "math/bits.deBruijn64tab" .u8 (Lib.deBruijn64tab.map fun (n : Nat) => (n : Int)) := Lib.tabIs_of_head (g := 0) (t := 220) (e := 5) (n := 64) (by kernel_rfl) (by kernel_rfl) Tryz.underlying220 Tryz.underlying5 (by kernel_rfl) (by kernel_rfl) h
  intro i v hi
  have hl : tabL.length = 64 := by kernel_rfl
  have hlt : i < 64 := by have := (List.getElem?_eq_some_iff.1 hi).1; omega
  have h2 := h1.cell (g := 0) (by kernel_rfl) i (by rw [List.length_map]; exact (by kernel_rfl : Lib.deBruijn64tab.length = 64) ▸ hlt)
  rw [Nat.zero_add, h2]
  have e2 : tabL = (Lib.deBruijn64tab.map fun (n : Nat) => (n : Int)).map fun z => Value.int .u8 z := by rw [List.map_map]; rfl
  rw [e2, List.getElem?_map] at hi
  cases hq : (Lib.deBruijn64tab.map fun (n : Nat) => (n : Int))[i]? with
  | none => rw [hq] at hi; cases hi
  | some z =>
    rw [hq] at hi
    simp only [Option.map_some, Option.some.injEq] at hi
    rw [← hi, List.getD, hq]; rfl
section
variable {H : Type} {enc : TypeId × Value → H} {w : World} {sp : Nat → Bool} {held : Bool} {v : Value} {d : DataW H} {ps : List MemPlace} {b0 : Nat} {r : Reach}
theorem open_raw0 {n : Nat} {x : DataW H × List MemPlace} {cs : List Value} (h : DataW.trod enc Tryz.prog w 0 sp held n 115 cs = some x) : ∃ z : RawV, cs = encR z ∧ Sl encB 1 (Lt w.heap.size) w z.a z.c z.names := by
  obtain ⟨xs, m, _, _, hl, hxs, hf⟩ := DataW.trod_struct Tryz.underlying115 h
  have hc : Tryz.prog.cellsOf 115 = 3 := by kernel_rfl
  have c1 : Tryz.prog.cellsOf 5 = 1 := by kernel_rfl
  have c2 : Tryz.prog.cellsOf 30 = 1 := by kernel_rfl
  have c3 : Tryz.prog.cellsOf 4 = 1 := by kernel_rfl
  rw [hc] at hl
  obtain ⟨a0, a1, a2, rfl⟩ : ∃ a0 a1 a2, cs = [a0, a1, a2] := by
    match cs, hl with
    | [a0, a1, a2], _ => exact ⟨a0, a1, a2, rfl⟩
  have hx3 : xs.length = 3 := hxs
  have f0 : DataW.trod enc Tryz.prog w 0 sp held m 5 (([a0, a1, a2].drop 0).take (Tryz.prog.cellsOf 5)) = xs[0]? := hf 0 _ rfl
  have f1 : DataW.trod enc Tryz.prog w 0 sp held m 30 (([a0, a1, a2].drop 1).take (Tryz.prog.cellsOf 30)) = xs[1]? := hf 1 _ rfl
  have f2 : DataW.trod enc Tryz.prog w 0 sp held m 4 (([a0, a1, a2].drop 2).take (Tryz.prog.cellsOf 4)) = xs[2]? := hf 2 _ rfl
  rw [c1] at f0; rw [c2] at f1; rw [c3] at f2
  rw [List.getElem?_eq_getElem (by omega)] at f0 f1 f2
  change DataW.trod enc Tryz.prog w 0 sp held m 5 [a0] = _ at f0
  change DataW.trod enc Tryz.prog w 0 sp held m 30 [a1] = _ at f1
  change DataW.trod enc Tryz.prog w 0 sp held m 4 [a2] = _ at f2
  obtain ⟨z0, g0, _⟩ := open_byte Tryz.underlying5 f0
  obtain ⟨p, c, l, g1, g1'⟩ := open_bytes0 f1
  obtain ⟨b, g2, _⟩ := DataW.trod_bool Tryz.underlying4 f2
  refine ⟨⟨z0, p, c, l, b⟩, ?_, g1'⟩
  simp only [encB, List.cons.injEq, and_true] at g0 g2
  rw [g0, g1, g2]; rfl
theorem open_gop0 {n : Nat} {x : DataW H × List MemPlace} {cs : List Value} (h : DataW.trod enc Tryz.prog w 0 sp held n 117 cs = some x) : ∃ z : GOp, cs = encGo z ∧ Sl encB 1 (Lt w.heap.size) w z.p.a z.p.c z.p.names := by
  obtain ⟨xs, m, _, _, hl, hxs, hf⟩ := DataW.trod_struct Tryz.underlying117 h
  have hc : Tryz.prog.cellsOf 117 = 5 := by kernel_rfl
  have c1 : Tryz.prog.cellsOf 4 = 1 := by kernel_rfl
  have c2 : Tryz.prog.cellsOf 5 = 1 := by kernel_rfl
  have c3 : Tryz.prog.cellsOf 115 = 3 := by kernel_rfl
  rw [hc] at hl
  obtain ⟨a0, a1, a2, a3, a4, rfl⟩ : ∃ a0 a1 a2 a3 a4, cs = [a0, a1, a2, a3, a4] := by
    match cs, hl with
    | [a0, a1, a2, a3, a4], _ => exact ⟨a0, a1, a2, a3, a4, rfl⟩
  have hx3 : xs.length = 3 := hxs
  have f0 : DataW.trod enc Tryz.prog w 0 sp held m 4 (([a0, a1, a2, a3, a4].drop 0).take (Tryz.prog.cellsOf 4)) = xs[0]? := hf 0 _ rfl
  have f1 : DataW.trod enc Tryz.prog w 0 sp held m 5 (([a0, a1, a2, a3, a4].drop 1).take (Tryz.prog.cellsOf 5)) = xs[1]? := hf 1 _ rfl
  have f2 : DataW.trod enc Tryz.prog w 0 sp held m 115 (([a0, a1, a2, a3, a4].drop 2).take (Tryz.prog.cellsOf 115)) = xs[2]? := hf 2 _ rfl
  rw [c1] at f0; rw [c2] at f1; rw [c3] at f2
  rw [List.getElem?_eq_getElem (by omega)] at f0 f1 f2
  change DataW.trod enc Tryz.prog w 0 sp held m 4 [a0] = _ at f0
  change DataW.trod enc Tryz.prog w 0 sp held m 5 [a1] = _ at f1
  change DataW.trod enc Tryz.prog w 0 sp held m 115 [a2, a3, a4] = _ at f2
  obtain ⟨z0, g0, _⟩ := DataW.trod_bool Tryz.underlying4 f0
  obtain ⟨z1, g1, _⟩ := open_byte Tryz.underlying5 f1
  obtain ⟨z2, g2, g2'⟩ := open_raw0 f2
  refine ⟨⟨z0, z1, z2⟩, ?_, g2'⟩
  simp only [encB, List.cons.injEq, and_true] at g0 g1
  rw [g0, g1, g2]; rfl
theorem open_gops (_hv : Value.okWide Tryz.prog w r b0 59 v) (h : DataW.Trod enc Tryz.prog w 0 sp held 59 v d ps) : ∃ (u : Value) (l : List GOp), v = u ∧ Rd encGo 5 (Lt w.heap.size) w u l ∧ ∀ z ∈ l, Sl encB 1 (Lt w.heap.size) w z.p.a z.p.c z.p.names := by
  obtain ⟨a, n, c, rfl⟩ := WideShapes.okWide_slice Tryz.underlying59 _hv
  obtain ⟨m, hn⟩ := h
  obtain ⟨a', c', l, h1, h2, h3⟩ := open_sl (ec := encGo) Tryz.underlying59 (k := 5) (by kernel_rfl) (by decide) (fun _ => rfl) (fun n cs y h => open_gop0 h) hn
  exact ⟨_, l, rfl, ⟨a', c', h1, h2⟩, h3⟩
theorem open_u643 (_hv : Value.okWide Tryz.prog w r b0 60 v) (h : DataW.Trod enc Tryz.prog w 0 sp held 60 v d ps) : ∃ x y z : W64, v = .agg #[u64 x, u64 y, u64 z] := by
  simp only [Value.okWide, Tryz.underlying60] at _hv
  obtain ⟨cs, rfl, h2, _⟩ := _hv
  have hc : cs.size = 3 := by rw [h2]; kernel_rfl
  obtain ⟨l, rfl⟩ : ∃ l : List Value, cs = l.toArray := ⟨cs.toList, by simp⟩
  simp only [List.size_toArray] at hc
  obtain ⟨a0, a1, a2, rfl⟩ : ∃ a0 a1 a2, l = [a0, a1, a2] := by
    match l, hc with
    | [a0, a1, a2], _ => exact ⟨a0, a1, a2, rfl⟩
  obtain ⟨n, hn⟩ := h
  obtain ⟨xs, m, _, _, _, hl, hel⟩ := DataW.trod_array Tryz.underlying60 hn
  have c1 : Tryz.prog.cellsOf 50 = 1 := by kernel_rfl
  have f0 := hel 0 (by decide)
  have f1 := hel 1 (by decide)
  have f2 := hel 2 (by decide)
  rw [c1, List.getElem?_eq_getElem (by omega)] at f0 f1 f2
  change DataW.trod enc Tryz.prog w 0 sp held m 50 [a0] = _ at f0
  change DataW.trod enc Tryz.prog w 0 sp held m 50 [a1] = _ at f1
  change DataW.trod enc Tryz.prog w 0 sp held m 50 [a2] = _ at f2
  obtain ⟨z0, g0, _, k0⟩ := DataW.trod_int Tryz.underlying50 f0
  obtain ⟨z1, g1, _, k1⟩ := DataW.trod_int Tryz.underlying50 f1
  obtain ⟨z2, g2, _, k2⟩ := DataW.trod_int Tryz.underlying50 f2
  simp only [List.cons.injEq, and_true] at g0 g1 g2
  subst g0 g1 g2
  obtain ⟨y0, e0⟩ := u64_of k0
  obtain ⟨y1, e1⟩ := u64_of k1
  obtain ⟨y2, e2⟩ := u64_of k2
  exact ⟨y0, y1, y2, by rw [e0, e1, e2]⟩
end
end Go.Proofs.YtncmjgmlnnenhaaGreatDoor
