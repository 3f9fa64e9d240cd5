/- Walks, printed by program: each theorem says what a function of the translation returns. -/
import Derived.Test.YtncmjgmlnnenhaaGreatDoorWref22
import Derived.Test.YtncmjgmlnnenhaaGreatDoorPure11f
import Derived.Test.YtncmjgmlnnenhaaGreatDoorRows
import Derived.Lib.LaidTab
import Derived.LaidMore
namespace Go.Proofs.YtncmjgmlnnenhaaGreatDoor
open Go Go.Lx Go.RowKit
set_option maxRecDepth 100000
set_option linter.unusedVariables false
set_option linter.unusedSimpArgs false
set_option linter.unnecessarySimpa false
theorem tb_of {W : World} (h : laidMetH Tryz.prog [("math/bits.deBruijn64tab", Rows.laid_math_bits_deBruijn64tab)] W) : Tb W := by
  rw [MakeChecks.laidMetH_plain _ _ _ (by kernel_rfl)] at h
  have e : (Rows.laid_math_bits_deBruijn64tab : DataW Unit) = Lib.tabData .u8 (Lib.deBruijn64tab.map fun (n : Nat) => (n : Int)) := by kernel_rfl
  rw [e] at h
  have h1 : Lib.TabIs Tryz.prog W "math/bits.deBruijn64tab" .u8 (Lib.deBruijn64tab.map fun (n : Nat) => (n : Int)) := Lib.tabIs_of_head (g := 0) (t := 220) (e := 5) (n := 64) (rest := []) (by kernel_rfl) (by kernel_rfl) Tryz.underlying220 Tryz.underlying5 (by kernel_rfl) (by kernel_rfl) h
  intro i v hi
  have hl : tabL.length = 64 := by kernel_rfl
  have hlt : i < 64 := by have := (List.getElem?_eq_some_iff.1 hi).1; omega
  have h2 := h1.cell (g := 0) (by kernel_rfl) i (by rw [List.length_map]; exact (by kernel_rfl : Lib.deBruijn64tab.length = 64) ▸ hlt)
  rw [Nat.zero_add, h2]
  have e2 : tabL = (Lib.deBruijn64tab.map fun (n : Nat) => (n : Int)).map fun z => Value.int .u8 z := by rw [List.map_map]; rfl
  rw [e2, List.getElem?_map] at hi
  cases hq : (Lib.deBruijn64tab.map fun (n : Nat) => (n : Int))[i]? with
  | none => rw [hq] at hi; cases hi
  | some z =>
    rw [hq] at hi
    simp only [Option.map_some, Option.some.injEq] at hi
    rw [← hi, List.getD, hq]; rfl
section
variable {H : Type} {enc : TypeId × Value → H} {w : World} {sp : Nat → Bool} {held : Bool} {v : Value} {d : DataW H} {ps : List MemPlace} {b0 : Nat} {r : Reach}
theorem open_op0 {n : Nat} {x : DataW H × List MemPlace} {cs : List Value} (h : DataW.trod enc Tryz.prog w 0 sp held n 24 cs = some x) : ∃ z : SOp, cs = encOp z ∧ I64 z.r := by
  obtain ⟨xs, m, _, _, hl, hxs, hf⟩ := DataW.trod_struct Tryz.underlying24 h
  have hc : Tryz.prog.cellsOf 24 = 4 := by kernel_rfl
  have c1 : Tryz.prog.cellsOf 5 = 1 := by kernel_rfl
  have c2 : Tryz.prog.cellsOf 3 = 1 := by kernel_rfl
  rw [hc] at hl
  obtain ⟨a0, a1, a2, a3, rfl⟩ : ∃ a0 a1 a2 a3, cs = [a0, a1, a2, a3] := by
    match cs, hl with
    | [a0, a1, a2, a3], _ => exact ⟨a0, a1, a2, a3, rfl⟩
  have hx3 : xs.length = 4 := hxs
  have f0 : DataW.trod enc Tryz.prog w 0 sp held m 5 (([a0, a1, a2, a3].drop 0).take (Tryz.prog.cellsOf 5)) = xs[0]? := hf 0 _ rfl
  have f1 : DataW.trod enc Tryz.prog w 0 sp held m 5 (([a0, a1, a2, a3].drop 1).take (Tryz.prog.cellsOf 5)) = xs[1]? := hf 1 _ rfl
  have f2 : DataW.trod enc Tryz.prog w 0 sp held m 3 (([a0, a1, a2, a3].drop 2).take (Tryz.prog.cellsOf 3)) = xs[2]? := hf 2 _ rfl
  have f3 : DataW.trod enc Tryz.prog w 0 sp held m 3 (([a0, a1, a2, a3].drop 3).take (Tryz.prog.cellsOf 3)) = xs[3]? := hf 3 _ rfl
  rw [c1] at f0 f1; rw [c2] at f2 f3
  rw [List.getElem?_eq_getElem (by omega)] at f0 f1 f2 f3
  change DataW.trod enc Tryz.prog w 0 sp held m 5 [a0] = _ at f0
  change DataW.trod enc Tryz.prog w 0 sp held m 5 [a1] = _ at f1
  change DataW.trod enc Tryz.prog w 0 sp held m 3 [a2] = _ at f2
  change DataW.trod enc Tryz.prog w 0 sp held m 3 [a3] = _ at f3
  obtain ⟨z0, g0, _⟩ := open_byte Tryz.underlying5 f0
  obtain ⟨z1, g1, _⟩ := open_byte Tryz.underlying5 f1
  obtain ⟨z2, g2, _, _⟩ := DataW.trod_int Tryz.underlying3 f2
  obtain ⟨z3, g3, _, g3'⟩ := DataW.trod_int Tryz.underlying3 f3
  obtain ⟨b1, b2⟩ := bounds_i64 g3'
  refine ⟨⟨z0, z1, z2, z3⟩, ?_, by show I64 z3; unfold I64; omega⟩
  simp only [encB, List.cons.injEq, and_true] at g0 g1 g2 g3
  rw [g0, g1, g2, g3]; rfl
theorem open_u82 (_hv : Value.okWide Tryz.prog w r b0 54 v) (h : DataW.Trod enc Tryz.prog w 0 sp held 54 v d ps) : ∃ x y : UInt8, v = .agg #[.int .u8 (x.toNat : Int), .int .u8 (y.toNat : Int)] := by
  simp only [Value.okWide, Tryz.underlying54] at _hv
  obtain ⟨cs, rfl, h2, _⟩ := _hv
  have hc : cs.size = 2 := by rw [h2]; kernel_rfl
  obtain ⟨l, rfl⟩ : ∃ l : List Value, cs = l.toArray := ⟨cs.toList, by simp⟩
  simp only [List.size_toArray] at hc
  obtain ⟨a0, a1, rfl⟩ : ∃ a0 a1, l = [a0, a1] := by
    match l, hc with
    | [a0, a1], _ => exact ⟨a0, a1, rfl⟩
  obtain ⟨n, hn⟩ := h
  obtain ⟨xs, m, _, _, _, hl, hel⟩ := DataW.trod_array Tryz.underlying54 hn
  have c1 : Tryz.prog.cellsOf 5 = 1 := by kernel_rfl
  have f0 := hel 0 (by decide)
  have f1 := hel 1 (by decide)
  rw [c1, List.getElem?_eq_getElem (by omega)] at f0 f1
  change DataW.trod enc Tryz.prog w 0 sp held m 5 [a0] = _ at f0
  change DataW.trod enc Tryz.prog w 0 sp held m 5 [a1] = _ at f1
  obtain ⟨z0, g0, _⟩ := open_byte Tryz.underlying5 f0
  obtain ⟨z1, g1, _⟩ := open_byte Tryz.underlying5 f1
  simp only [encB, List.cons.injEq, and_true] at g0 g1
  exact ⟨z0, z1, by rw [g0, g1]⟩
theorem open_ops (_hv : Value.okWide Tryz.prog w r b0 22 v) (h : DataW.Trod enc Tryz.prog w 0 sp held 22 v d ps) : ∃ (u : Value) (l : List SOp), v = u ∧ Rd encOp 4 (Lt w.heap.size) w u l ∧ ∀ z ∈ l, I64 z.r := by
  obtain ⟨a, n, c, rfl⟩ := WideShapes.okWide_slice Tryz.underlying22 _hv
  obtain ⟨m, hn⟩ := h
  obtain ⟨a', c', l, h1, h2, h3⟩ := open_sl (ec := encOp) (R := fun z => I64 z.r) Tryz.underlying22 (k := 4) (by kernel_rfl) (by decide) (fun _ => rfl) (fun n cs y h => open_op0 h) hn
  exact ⟨_, l, rfl, ⟨a', c', h1, h2⟩, h3⟩
end
end Go.Proofs.YtncmjgmlnnenhaaGreatDoor
