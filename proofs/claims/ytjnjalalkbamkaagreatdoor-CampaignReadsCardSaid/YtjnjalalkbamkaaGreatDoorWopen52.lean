/- Walks: what functions return. -/
import Derived.Test.YtjnjalalkbamkaaGreatDoorWlw5
import Derived.Test.YtjnjalalkbamkaaGreatDoorPure11f
import Derived.Test.YtjnjalalkbamkaaGreatDoorRows
import Derived.Lib.LaidTab
import Derived.LaidMore
set_option linter.unusedVariables false
set_option linter.unusedSimpArgs false
set_option linter.unnecessarySimpa false
namespace Go.Proofs.YtjnjalalkbamkaaGreatDoor
open Go Go.Lx Go.RowKit
set_option maxRecDepth 100000
theorem tb_of {W : World} (h : laidMetH Tryz.prog [("math/bits.deBruijn64tab", Rows.laid_math_bits_deBruijn64tab), ("unicode/utf8.acceptRanges", Rows.laid_unicode_utf8_acceptRanges), ("unicode/utf8.first", Rows.laid_unicode_utf8_first)] W) : Tb W := by
 rw [MakeChecks.laidMetH_plain _ _ _ (by kernel_rfl)] at h
 have e : (Rows.laid_math_bits_deBruijn64tab : DataW Unit) = Lib.tabData .u8 (Lib.deBruijn64tab.map fun (n : Nat) => (n : Int)) := by kernel_rfl
 rw [e] at h
 have h1 : Lib.TabIs Tryz.prog W "math/bits.deBruijn64tab" .u8 (Lib.deBruijn64tab.map fun (n : Nat) => (n : Int)) := Lib.tabIs_of_head (g := 0) (t := 198) (e := 5) (n := 64) (by kernel_rfl) (by kernel_rfl) Tryz.underlying198 Tryz.underlying5 (by kernel_rfl) (by kernel_rfl) h
 intro i v hi
 have hl : tabL.length = 64 := by kernel_rfl
 have hlt : i < 64 := by have := (List.getElem?_eq_some_iff.1 hi).1; omega
 have h2 := h1.cell (g := 0) (by kernel_rfl) i (by rw [List.length_map]; exact (by kernel_rfl : Lib.deBruijn64tab.length = 64) ▸ hlt)
 rw [Nat.zero_add, h2]
 have e2 : tabL = (Lib.deBruijn64tab.map fun (n : Nat) => (n : Int)).map fun z => Value.int .u8 z := by rw [List.map_map]; rfl
 rw [e2, List.getElem?_map] at hi
 cases hq : (Lib.deBruijn64tab.map fun (n : Nat) => (n : Int))[i]? with
 | none => rw [hq] at hi; cases hi
 | some z =>
  rw [hq] at hi
  simp only [Option.map_some, Option.some.injEq] at hi
  rw [← hi, List.getD, hq]; rfl
theorem law_CampaignReads (w : World) (hT : Tb w) (c : Cpg) (a0 : Option Addr) (n0 : Nat) (hl : Sl encIr 4 (Lt w.heap.size) w a0 n0 c.l) (x : Nat) (hx : x < 65536) (y : UInt8) : Ok Tryz.prog 3 #[.agg (cgC c (.slice a0 c.l.length n0)).toArray, .int .u16 (x : Int), .int .u8 (y.toNat : Int)] w fun v w' => v = .bool true ∧ Ext False w w' := lawc_CampaignReads w c a0 n0 hl x hx y hT
section
variable {H : Type} {enc : TypeId × Value → H} {w : World} {sp : Nat → Bool} {held : Bool} {v : Value} {d : DataW H} {ps : List MemPlace} {b0 : Nat} {r : Reach}
theorem open_u8 (_hv : Value.okWide Tryz.prog w r b0 5 v) (h : DataW.Trod enc Tryz.prog w 0 sp held 5 v d ps) : ∃ x : UInt8, v = .int .u8 (x.toNat : Int) := by
 obtain ⟨n, rfl⟩ := WideShapes.okWide_int Tryz.underlying5 _hv
 obtain ⟨m, hm⟩ := h
 obtain ⟨z, hz, _⟩ := open_byte Tryz.underlying5 hm
 simp [Value.cells, encB] at hz
 exact ⟨z, by rw [hz]⟩
theorem open_it52 {n : Nat} {x : DataW H × List MemPlace} {cs : List Value} (h : DataW.trod enc Tryz.prog w 0 sp held n 29 cs = some x) : ∃ z : Itm, cs = encIr z ∧ True := by
 obtain ⟨xs, m, _, _, hl, hxs, hf⟩ := DataW.trod_struct Tryz.underlying29 h
 have hc : Tryz.prog.cellsOf 29 = 4 := by kernel_rfl
 have c0 : Tryz.prog.cellsOf 3 = 1 := by kernel_rfl
 rw [hc] at hl
 obtain ⟨k0, k1, k2, k3, rfl⟩ : ∃ k0 k1 k2 k3, cs = [k0, k1, k2, k3] := by
  match cs, hl with
  | [k0, k1, k2, k3], _ => exact ⟨k0, k1, k2, k3, rfl⟩
 have hx3 : xs.length = 4 := hxs
 have f0 : DataW.trod enc Tryz.prog w 0 sp held m 3 (([k0, k1, k2, k3].drop 0).take (Tryz.prog.cellsOf 3)) = xs[0]? := hf 0 _ rfl
 rw [c0, List.getElem?_eq_getElem (by omega)] at f0
 change DataW.trod enc Tryz.prog w 0 sp held m 3 [k0] = _ at f0
 have f1 : DataW.trod enc Tryz.prog w 0 sp held m 3 (([k0, k1, k2, k3].drop 1).take (Tryz.prog.cellsOf 3)) = xs[1]? := hf 1 _ rfl
 rw [c0, List.getElem?_eq_getElem (by omega)] at f1
 change DataW.trod enc Tryz.prog w 0 sp held m 3 [k1] = _ at f1
 have f2 : DataW.trod enc Tryz.prog w 0 sp held m 3 (([k0, k1, k2, k3].drop 2).take (Tryz.prog.cellsOf 3)) = xs[2]? := hf 2 _ rfl
 rw [c0, List.getElem?_eq_getElem (by omega)] at f2
 change DataW.trod enc Tryz.prog w 0 sp held m 3 [k2] = _ at f2
 have f3 : DataW.trod enc Tryz.prog w 0 sp held m 3 (([k0, k1, k2, k3].drop 3).take (Tryz.prog.cellsOf 3)) = xs[3]? := hf 3 _ rfl
 rw [c0, List.getElem?_eq_getElem (by omega)] at f3
 change DataW.trod enc Tryz.prog w 0 sp held m 3 [k3] = _ at f3
 obtain ⟨q0, g0, _, _⟩ := DataW.trod_int Tryz.underlying3 f0
 simp only [List.cons.injEq, and_true] at g0
 subst g0
 obtain ⟨q1, g1, _, _⟩ := DataW.trod_int Tryz.underlying3 f1
 simp only [List.cons.injEq, and_true] at g1
 subst g1
 obtain ⟨q2, g2, _, _⟩ := DataW.trod_int Tryz.underlying3 f2
 simp only [List.cons.injEq, and_true] at g2
 subst g2
 obtain ⟨q3, g3, _, _⟩ := DataW.trod_int Tryz.underlying3 f3
 simp only [List.cons.injEq, and_true] at g3
 subst g3
 exact ⟨⟨q0, q1, q2, q3⟩, rfl, trivial⟩
theorem open_ca52 {n : Nat} {x : DataW H × List MemPlace} {cs : List Value} (h : DataW.trod enc Tryz.prog w 0 sp held n 24 cs = some x) : ∃ (c : Cpg) (a : Option Addr) (n0 : Nat), cs = cgC c (.slice a c.l.length n0) ∧ Sl encIr 4 (Lt w.heap.size) w a n0 c.l := by
 obtain ⟨xs, m, _, _, hl, hxs, hf⟩ := DataW.trod_struct Tryz.underlying24 h
 have hc : Tryz.prog.cellsOf 24 = 6 := by kernel_rfl
 have c0 : Tryz.prog.cellsOf 3 = 1 := by kernel_rfl
 have c1 : Tryz.prog.cellsOf 4 = 1 := by kernel_rfl
 have c2 : Tryz.prog.cellsOf 22 = 1 := by kernel_rfl
 rw [hc] at hl
 obtain ⟨k0, k1, k2, k3, k4, k5, rfl⟩ : ∃ k0 k1 k2 k3 k4 k5, cs = [k0, k1, k2, k3, k4, k5] := by
  match cs, hl with
  | [k0, k1, k2, k3, k4, k5], _ => exact ⟨k0, k1, k2, k3, k4, k5, rfl⟩
 have hx3 : xs.length = 6 := hxs
 have f0 : DataW.trod enc Tryz.prog w 0 sp held m 3 (([k0, k1, k2, k3, k4, k5].drop 0).take (Tryz.prog.cellsOf 3)) = xs[0]? := hf 0 _ rfl
 rw [c0, List.getElem?_eq_getElem (by omega)] at f0
 change DataW.trod enc Tryz.prog w 0 sp held m 3 [k0] = _ at f0
 have f1 : DataW.trod enc Tryz.prog w 0 sp held m 3 (([k0, k1, k2, k3, k4, k5].drop 1).take (Tryz.prog.cellsOf 3)) = xs[1]? := hf 1 _ rfl
 rw [c0, List.getElem?_eq_getElem (by omega)] at f1
 change DataW.trod enc Tryz.prog w 0 sp held m 3 [k1] = _ at f1
 have f2 : DataW.trod enc Tryz.prog w 0 sp held m 3 (([k0, k1, k2, k3, k4, k5].drop 2).take (Tryz.prog.cellsOf 3)) = xs[2]? := hf 2 _ rfl
 rw [c0, List.getElem?_eq_getElem (by omega)] at f2
 change DataW.trod enc Tryz.prog w 0 sp held m 3 [k2] = _ at f2
 have f3 : DataW.trod enc Tryz.prog w 0 sp held m 3 (([k0, k1, k2, k3, k4, k5].drop 3).take (Tryz.prog.cellsOf 3)) = xs[3]? := hf 3 _ rfl
 rw [c0, List.getElem?_eq_getElem (by omega)] at f3
 change DataW.trod enc Tryz.prog w 0 sp held m 3 [k3] = _ at f3
 have f4 : DataW.trod enc Tryz.prog w 0 sp held m 4 (([k0, k1, k2, k3, k4, k5].drop 4).take (Tryz.prog.cellsOf 4)) = xs[4]? := hf 4 _ rfl
 rw [c1, List.getElem?_eq_getElem (by omega)] at f4
 change DataW.trod enc Tryz.prog w 0 sp held m 4 [k4] = _ at f4
 have f5 : DataW.trod enc Tryz.prog w 0 sp held m 22 (([k0, k1, k2, k3, k4, k5].drop 5).take (Tryz.prog.cellsOf 22)) = xs[5]? := hf 5 _ rfl
 rw [c2, List.getElem?_eq_getElem (by omega)] at f5
 change DataW.trod enc Tryz.prog w 0 sp held m 22 [k5] = _ at f5
 obtain ⟨q0, g0, _, _⟩ := DataW.trod_int Tryz.underlying3 f0
 simp only [List.cons.injEq, and_true] at g0
 subst g0
 obtain ⟨q1, g1, _, _⟩ := DataW.trod_int Tryz.underlying3 f1
 simp only [List.cons.injEq, and_true] at g1
 subst g1
 obtain ⟨q2, g2, _, _⟩ := DataW.trod_int Tryz.underlying3 f2
 simp only [List.cons.injEq, and_true] at g2
 subst g2
 obtain ⟨q3, g3, _, _⟩ := DataW.trod_int Tryz.underlying3 f3
 simp only [List.cons.injEq, and_true] at g3
 subst g3
 obtain ⟨b, g4, _⟩ := DataW.trod_bool Tryz.underlying4 f4
 simp only [List.cons.injEq, and_true] at g4
 subst g4
 obtain ⟨a, n0, l, rfl, hs, _⟩ := open_sl (ec := encIr) (R := fun _ => True) Tryz.underlying22 (k := 4) (by kernel_rfl) (by decide) (fun _ => rfl) (fun n cs y h => open_it52 h) f5
 exact ⟨⟨q0, q1, q2, q3, b, l⟩, a, n0, rfl, hs⟩
theorem open_camp (_hv : Value.okWide Tryz.prog w r b0 24 v) (h : DataW.Trod enc Tryz.prog w 0 sp held 24 v d ps) : ∃ (c : Cpg) (a : Option Addr) (n0 : Nat), v = .agg (cgC c (.slice a c.l.length n0)).toArray ∧ Sl encIr 4 (Lt w.heap.size) w a n0 c.l := by
 obtain ⟨cs, rfl, _⟩ := WideShapes.okWide_struct Tryz.underlying24 _hv
 obtain ⟨n, hn⟩ := h
 obtain ⟨c, a, n0, h1, h2⟩ := open_ca52 hn
 refine ⟨c, a, n0, ?_, h2⟩
 have : cs.toList = cgC c (.slice a c.l.length n0) := h1
 rw [← this]
theorem open_u16 (_hv : Value.okWide Tryz.prog w r b0 25 v) (h : DataW.Trod enc Tryz.prog w 0 sp held 25 v d ps) : ∃ x : Nat, v = .int .u16 (x : Int) ∧ x < 65536 := by
 obtain ⟨n, rfl⟩ := WideShapes.okWide_int Tryz.underlying25 _hv
 obtain ⟨m, hm⟩ := h
 obtain ⟨q, h1, _, h3⟩ := DataW.trod_int Tryz.underlying25 hm
 have e : n = q := by simpa [Value.cells] using h1
 subst e
 simp [Lit.wf, IntKind.min, IntKind.max, IntKind.signed, IntKind.bits] at h3
 exact ⟨n.toNat, by rw [Int.toNat_of_nonneg (by omega)], by omega⟩
end
