/- Walks: what functions return. -/
import Derived.Test.YtgmpgfokblehdaaGreatDoorWlw27
import Derived.Test.YtgmpgfokblehdaaGreatDoorRows
import Derived.Lib.LaidTab
import Derived.LaidMore
set_option linter.unusedVariables false
set_option linter.unusedSimpArgs false
set_option linter.unnecessarySimpa false
namespace Go.Proofs.YtgmpgfokblehdaaGreatDoor
open Go Go.Lx Go.RowKit
set_option maxRecDepth 100000
theorem tb_of {W : World} (h : laidMetH Tryz.prog [("math/bits.deBruijn64tab", Rows.laid_math_bits_deBruijn64tab), ("unicode/utf8.acceptRanges", Rows.laid_unicode_utf8_acceptRanges), ("unicode/utf8.first", Rows.laid_unicode_utf8_first)] W) : Tb W := by
 rw [MakeChecks.laidMetH_plain _ _ _ (by kernel_rfl)] at h
 have e : (Rows.laid_math_bits_deBruijn64tab : DataW Unit) = Lib.tabData .u8 (Lib.deBruijn64tab.map fun (n : Nat) => (n : Int)) := by kernel_rfl
 rw [e] at h
 have h1 : Lib.TabIs Tryz.prog W "math/bits.deBruijn64tab" .u8 (Lib.deBruijn64tab.map fun (n : Nat) => (n : Int)) := Lib.tabIs_of_head (g := 0) (t := 299) (e := 5) (n := 64) (by kernel_rfl) (by kernel_rfl) Tryz.underlying299 Tryz.underlying5 (by kernel_rfl) (by kernel_rfl) h
 intro i v hi
 have hl : tabL.length = 64 := by kernel_rfl
 have hlt : i < 64 := by have := (List.getElem?_eq_some_iff.1 hi).1; omega
 have h2 := h1.cell (g := 0) (by kernel_rfl) i (by rw [List.length_map]; exact (by kernel_rfl : Lib.deBruijn64tab.length = 64) ▸ hlt)
 rw [Nat.zero_add, h2]
 have e2 : tabL = (Lib.deBruijn64tab.map fun (n : Nat) => (n : Int)).map fun z => Value.int .u8 z := by rw [List.map_map]; rfl
 rw [e2, List.getElem?_map] at hi
 cases hq : (Lib.deBruijn64tab.map fun (n : Nat) => (n : Int))[i]? with
 | none => rw [hq] at hi; cases hi
 | some z =>
  rw [hq] at hi
  simp only [Option.map_some, Option.some.injEq] at hi
  rw [← hi, List.getD, hq]; rfl
theorem law_CompileTrieUpto (w : World) (hT : Tb w) (v0 : Value) (l : List GOp) (hl : Rd encGo 5 (Lt w.heap.size) w v0 l) (dl : ∀ z ∈ l, Sl encB 1 (Lt w.heap.size) w z.p.a z.p.c z.p.names) (ac : UInt8) (an : Option Addr) (cn : Nat) (ns : List Str) (hns : Sl encS 1 (Lt w.heap.size) w an cn ns) (hsum : (ns.map List.length).sum + ns.length ≤ 1048576) : Ok Tryz.prog 3 #[v0, .int .u8 (ac.toNat : Int), .slice an ns.length cn] w fun v w' => v = .bool true ∧ Ext False w w' := lawc_CompileTrie w v0 l hl dl ac an cn ns hns hsum hT
theorem bulk_strs {H : Type} : ∀ (l : List Str) (E : List (DataW H)), l.length = E.length → (∀ (i : Nat) (z : Str) (e : DataW H), l[i]? = some z → E[i]? = some e → e = .lit (.string z)) → (l.map List.length).sum + l.length = Rows.uptoBulkAll E
 | [], [], _, _ => by simp [Rows.uptoBulkAll]
 | [], _ :: _, h, _ => by simp at h
 | _ :: _, [], h, _ => by simp at h
 | z :: l, e :: E, h, hz => by
  have ih := bulk_strs l E (by simpa using h) (fun i z' e' h1 h2 => hz (i + 1) z' e' (by simpa using h1) (by simpa using h2))
  have h0 := hz 0 z e rfl rfl
  subst h0
  simp only [Rows.uptoBulkAll, Rows.uptoBulk, List.map_cons, List.sum_cons, List.length_cons]
  omega
section
variable {H : Type} {enc : TypeId × Value → H} {w : World} {sp : Nat → Bool} {held : Bool} {v : Value} {d : DataW H} {ps : List MemPlace} {b0 : Nat} {r : Reach}
theorem open_bytes0 {n : Nat} {x : DataW H × List MemPlace} {v : Value} (h : DataW.trod enc Tryz.prog w 0 sp held n 81 [v] = some x) : ∃ a c l, v = .slice a l.length c ∧ Sl encB 1 (Lt w.heap.size) w a c l := by
 obtain ⟨a, c, l, h1, h2, _⟩ := open_sl (ec := encB) (R := fun _ => True) Tryz.underlying81 (k := 1) (by kernel_rfl) (by decide) (fun _ => rfl) (fun n cs y h => YD Tryz.underlying5 h) h
 exact ⟨a, c, l, h1, h2⟩
theorem open_raw0 {n : Nat} {x : DataW H × List MemPlace} {cs : List Value} (h : DataW.trod enc Tryz.prog w 0 sp held n 83 cs = some x) : ∃ z : RawV, cs = encR z ∧ Sl encB 1 (Lt w.heap.size) w z.a z.c z.names := by
 obtain ⟨xs, m, _, _, hl, hxs, hf⟩ := DataW.trod_struct Tryz.underlying83 h
 have hc : Tryz.prog.cellsOf 83 = 3 := by kernel_rfl
 have c1 : Tryz.prog.cellsOf 5 = 1 := by kernel_rfl
 have c2 : Tryz.prog.cellsOf 81 = 1 := by kernel_rfl
 have c3 : Tryz.prog.cellsOf 4 = 1 := by kernel_rfl
 rw [hc] at hl
 obtain ⟨a0, a1, a2, rfl⟩ : ∃ a0 a1 a2, cs = [a0, a1, a2] := by
  match cs, hl with
  | [a0, a1, a2], _ => exact ⟨a0, a1, a2, rfl⟩
 have hx3 : xs.length = 3 := hxs
 have f0 : DataW.trod enc Tryz.prog w 0 sp held m 5 (([a0, a1, a2].drop 0).take (Tryz.prog.cellsOf 5)) = xs[0]? := hf 0 _ rfl
 have f1 : DataW.trod enc Tryz.prog w 0 sp held m 81 (([a0, a1, a2].drop 1).take (Tryz.prog.cellsOf 81)) = xs[1]? := hf 1 _ rfl
 have f2 : DataW.trod enc Tryz.prog w 0 sp held m 4 (([a0, a1, a2].drop 2).take (Tryz.prog.cellsOf 4)) = xs[2]? := hf 2 _ rfl
 rw [c1] at f0; rw [c2] at f1; rw [c3] at f2
 rw [List.getElem?_eq_getElem (by omega)] at f0 f1 f2
 change DataW.trod enc Tryz.prog w 0 sp held m 5 [a0] = _ at f0
 change DataW.trod enc Tryz.prog w 0 sp held m 81 [a1] = _ at f1
 change DataW.trod enc Tryz.prog w 0 sp held m 4 [a2] = _ at f2
 obtain ⟨z0, g0, _⟩ := YD Tryz.underlying5 f0
 obtain ⟨p, c, l, g1, g1'⟩ := open_bytes0 f1
 obtain ⟨b, g2, _⟩ := DataW.trod_bool Tryz.underlying4 f2
 refine ⟨⟨z0, p, c, l, b⟩, ?_, g1'⟩
 simp only [encB, List.cons.injEq, and_true] at g0 g2
 rw [g0, g1, g2]; rfl
theorem open_u8 (_hv : Value.okWide Tryz.prog w r b0 5 v) (h : DataW.Trod enc Tryz.prog w 0 sp held 5 v d ps) : ∃ x : UInt8, v = .int .u8 (x.toNat : Int) := by
 obtain ⟨n, rfl⟩ := WideShapes.okWide_int Tryz.underlying5 _hv
 obtain ⟨m, hm⟩ := h
 obtain ⟨z, hz, _⟩ := YD Tryz.underlying5 hm
 simp [Value.cells, encB] at hz
 exact ⟨z, by rw [hz]⟩
theorem open_gop0 {n : Nat} {x : DataW H × List MemPlace} {cs : List Value} (h : DataW.trod enc Tryz.prog w 0 sp held n 85 cs = some x) : ∃ z : GOp, cs = encGo z ∧ Sl encB 1 (Lt w.heap.size) w z.p.a z.p.c z.p.names := by
 obtain ⟨xs, m, _, _, hl, hxs, hf⟩ := DataW.trod_struct Tryz.underlying85 h
 have hc : Tryz.prog.cellsOf 85 = 5 := by kernel_rfl
 have c1 : Tryz.prog.cellsOf 4 = 1 := by kernel_rfl
 have c2 : Tryz.prog.cellsOf 5 = 1 := by kernel_rfl
 have c3 : Tryz.prog.cellsOf 83 = 3 := by kernel_rfl
 rw [hc] at hl
 obtain ⟨a0, a1, a2, a3, a4, rfl⟩ : ∃ a0 a1 a2 a3 a4, cs = [a0, a1, a2, a3, a4] := by
  match cs, hl with
  | [a0, a1, a2, a3, a4], _ => exact ⟨a0, a1, a2, a3, a4, rfl⟩
 have hx3 : xs.length = 3 := hxs
 have f0 : DataW.trod enc Tryz.prog w 0 sp held m 4 (([a0, a1, a2, a3, a4].drop 0).take (Tryz.prog.cellsOf 4)) = xs[0]? := hf 0 _ rfl
 have f1 : DataW.trod enc Tryz.prog w 0 sp held m 5 (([a0, a1, a2, a3, a4].drop 1).take (Tryz.prog.cellsOf 5)) = xs[1]? := hf 1 _ rfl
 have f2 : DataW.trod enc Tryz.prog w 0 sp held m 83 (([a0, a1, a2, a3, a4].drop 2).take (Tryz.prog.cellsOf 83)) = xs[2]? := hf 2 _ rfl
 rw [c1] at f0; rw [c2] at f1; rw [c3] at f2
 rw [List.getElem?_eq_getElem (by omega)] at f0 f1 f2
 change DataW.trod enc Tryz.prog w 0 sp held m 4 [a0] = _ at f0
 change DataW.trod enc Tryz.prog w 0 sp held m 5 [a1] = _ at f1
 change DataW.trod enc Tryz.prog w 0 sp held m 83 [a2, a3, a4] = _ at f2
 obtain ⟨z0, g0, _⟩ := DataW.trod_bool Tryz.underlying4 f0
 obtain ⟨z1, g1, _⟩ := YD Tryz.underlying5 f1
 obtain ⟨z2, g2, g2'⟩ := open_raw0 f2
 refine ⟨⟨z0, z1, z2⟩, ?_, g2'⟩
 simp only [encB, List.cons.injEq, and_true] at g0 g1
 rw [g0, g1, g2]; rfl
theorem open_gops (_hv : Value.okWide Tryz.prog w r b0 22 v) (h : DataW.Trod enc Tryz.prog w 0 sp held 22 v d ps) : ∃ (u : Value) (l : List GOp), v = u ∧ Rd encGo 5 (Lt w.heap.size) w u l ∧ ∀ z ∈ l, Sl encB 1 (Lt w.heap.size) w z.p.a z.p.c z.p.names := by
 obtain ⟨a, n, c, rfl⟩ := WideShapes.okWide_slice Tryz.underlying22 _hv
 obtain ⟨m, hn⟩ := h
 obtain ⟨a', c', l, h1, h2, h3⟩ := open_sl (ec := encGo) Tryz.underlying22 (k := 5) (by kernel_rfl) (by decide) (fun _ => rfl) (fun n cs y h => open_gop0 h) hn
 exact ⟨_, l, rfl, ⟨a', c', h1, h2⟩, h3⟩
theorem open_s0 {n : Nat} {x : DataW H × List MemPlace} {cs : List Value} (h : DataW.trod enc Tryz.prog w 0 sp held n 9 cs = some x) : ∃ z : Str, cs = encS z := by
 obtain ⟨s', h1, _, h3⟩ := DataW.trod_string Tryz.underlying9 h
 exact ⟨s'.data.toList, h1⟩
theorem open_strsW (_hv : Value.okWide Tryz.prog w r b0 23 v) (h : DataW.Trod enc Tryz.prog w 0 sp held 23 v d ps) : ∃ (a : Option Addr) (n : Nat) (l : List Str), v = .slice a l.length n ∧ Sl encS 1 (Lt w.heap.size) w a n l ∧ (l.map List.length).sum + l.length ≤ Rows.uptoBulk d := by
 obtain ⟨a, n, c, rfl⟩ := WideShapes.okWide_slice Tryz.underlying23 _hv
 obtain ⟨m, hn⟩ := h
 obtain ⟨a', c', l, h1, h2, _⟩ := open_sl (ec := encS) (R := fun _ => True) Tryz.underlying23 (k := 1) (by kernel_rfl) (by decide) (fun _ => rfl) (fun n cs y h => (open_s0 h).imp fun z hz => ⟨hz, trivial⟩) hn
 simp only [Value.slice.injEq] at h1
 obtain ⟨rfl, rfl, rfl⟩ := h1
 refine ⟨a, c, l, rfl, h2, ?_⟩
 have hk : Tryz.prog.cellsOf 9 = 1 := by kernel_rfl
 rcases DataW.trod_slice Tryz.underlying23 hn with ⟨e, _⟩ | ⟨b, len, cap, elems, rest, n', _, e, hx, _, _, _, hel, hall, _, _⟩
 ·simp [Value.cells] at e
  obtain ⟨_, e, _⟩ := e
  subst e
  simp
 ·simp [Value.cells] at e
  obtain ⟨rfl, e, rfl⟩ := e
  have hd : d = .slice (elems.map (·.1)) (rest.map (·.1)) := congrArg Prod.fst hx
  rw [hd]
  have hb := bulk_strs l (elems.map (·.1)) (by rw [List.length_map]; omega) (fun i z y hz hy => by
   rw [List.getElem?_map] at hy
   obtain ⟨y', hy', rfl⟩ := Option.map_eq_some_iff.1 hy
   have hi : i < len := by have := (List.getElem?_eq_some_iff.1 hy').1; omega
   have h8 := hall i hi
   rw [hk, hy'] at h8
   obtain ⟨cs, g1, g2⟩ := Option.bind_eq_some_iff.1 h8
   obtain ⟨s, rfl, rfl, _⟩ := DataW.trod_string Tryz.underlying9 g2
   have g3 := (cells_get g1).2 0 _ rfl
   obtain ⟨b', off, k1, _, k3, _⟩ := h2.el i z hz
   simp only [Option.some.injEq] at k1
   subst k1
   have k4 := k3 0 (str z) rfl
   have e1 : ((⟨b', off, none⟩ : Addr).add (i * 1)).add 0 = ⟨b', off + i * 1 + 0, none⟩ := by
    unfold Addr.add
    rw [if_pos rfl]
    by_cases h1 : i * 1 = 0
    ·rw [if_pos h1, h1]; rfl
    ·rw [if_neg h1]; rfl
   rw [e1, k4] at g3
   simp only [str, Option.some.injEq, Value.string.injEq] at g3
   rw [← g3])
  simp only [Rows.uptoBulk]
  omega
end
