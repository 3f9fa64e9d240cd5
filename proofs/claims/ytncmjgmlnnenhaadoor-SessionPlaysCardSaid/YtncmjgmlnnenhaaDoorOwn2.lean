/- Own slices that are cut from the front and cleared. Nothing of a program stands here. -/
import Derived.Test.YtncmjgmlnnenhaaDoorSlx
namespace Go.Lx
open Go Go.RowKit
set_option linter.unusedSimpArgs false
set_option linter.unusedVariables false
set_option linter.unnecessarySimpa false
section
variable {rd : Option Nat} {P : Program} {n : Nat} {K : Fr → World → Prop} {fr : Fr} {w : World} {α : Type} {enc : α → List Value} {k by_ : Nat} {D : Nat → Prop} {z : Value} {T e : TypeId} {l : List α} {a : Option Addr} {c m : Nat}
theorem o_subN {d : Option Nat} {t : TypeId} {ps : String} {af : Array Edge} {g : Option (Nat × Bool)} {x y : Operand} {U : TypeId} {p b : Nat} (hx : ev fr x = .int .i64 (p : Int)) (hy : ev fr y = .int .i64 (b : Int)) (h : b ≤ p) (hp : (p : Int) ≤ 9223372036854775807) :
    xop P fr w ⟨d, .binOp .sub T x y U, t, ps, af, g⟩ = .ok (.value (.int .i64 ((p - b : Nat) : Int))) w := by
  rw [o_sub hx hy (by unfold I64; omega), Int.ofNat_sub h]
/-- s[j:], j < cap(s). -/
theorem o_sfromO {d : Option Nat} {t : TypeId} {ps : String} {af : Array Edge} {g : Option (Nat × Bool)} {x y : Operand} {s j : Nat} (hP : P.underlying T = some (.slice e)) (hs : ∀ w, (sizeOf e).run P w = .ok s w) (hx : ev fr x = .slice a m c) (hj : ev fr y = .int .i64 (j : Int)) (hl : j ≤ m) (hc : j < c) :
    xop P fr w ⟨d, .slice T x (some y) none none, t, ps, af, g⟩ = .ok (.value (.slice (elp a (j * s)) (m - j) (c - j))) w := by
  have h2 : (j : Int) ≤ m := by omega
  have h3 : ¬ c = j := by omega
  simp [xop, execOp, hx, hj, Instr.slice, Instr.sliceAt, Instr.sliceBounds, Instr.sliceBound, asIntOf, run_underlying hP, hl, hs, elp, h3]
/-- An element of s[j:]. -/
theorem o_iaO2 {d : Option Nat} {t : TypeId} {ps : String} {af : Array Edge} {g : Option (Nat × Bool)} {x y : Operand} {s i j m' c' : Nat} {K : IntKind} (hP : P.underlying T = some (.slice e)) (hs : ∀ w, (sizeOf e).run P w = .ok s w) (ho : Own enc k e D w (.slice a m c) l)
    (hx : ev fr x = .slice (elp a (j * s)) m' c') (hy : ev fr y = .int K (i : Int)) (hi : i < m') (hm : j + i < m) : xop P fr w ⟨d, .indexAddr T x y, t, ps, af, g⟩ = .ok (.value (.pointer (elp a ((j + i) * s)))) w := by
  rcases ho.row.2 with ⟨h1, h2⟩ | ⟨g', cap, cur, h1, _⟩
  · simp at h1; omega
  · simp at h1
    obtain ⟨rfl, _⟩ := h1
    rw [elp_some] at hx ⊢
    have := o_ia (d := d) (t := t) (ps := ps) (af := af) (g := g) (w := w) hP hs hx hy hi
    rw [this, show 0 + j * s + i * s = 0 + (j + i) * s from by rw [Nat.add_mul]; omega]
theorem Own.cutTo {x l r : List α} {j : Nat} (he : EncOk enc k) (h : Own enc k e D w (.slice a m c) ((x ++ l).take j ++ r)) (hx : x.length = j) : Own enc k e D w (.slice a j c) x := by
  subst hx
  rw [List.take_left'  rfl] at h
  have := h.cut he (j := x.length) (by simp)
  rwa [List.take_left' rfl] at this
/-- clear(s[j:]). -/
theorem Rg_clear {ops : Array Oper} {rest : List Oper} {ty : TypeId} {pos : String} {af : Array Edge} {x : Operand} {j n' c' : Nat} (x0 : α)
    (he : EncOk enc k) (ht : ElT P T e k by_ z) (hz : z.cells.toList = enc x0) (hx : ev fr x = .slice (elp a (j * k)) n' c') (ho : Own enc k e D w (.slice a m c) l) (hn : n' = l.length - j) (hj : j < l.length)
    (hk : ∀ w', Bel True D w w' → Own enc k e D w' (.slice a m c) (l.take j ++ List.replicate n' x0) → Rg rd P n ops rest K fr w') :
    Rg rd P n ops (⟨none, .call { callee := .builtin .clear, args := #[x], argTypes := #[T] }, ty, pos, af, none⟩ :: rest) K fr w := by
  obtain ⟨i, hi, hzz, hs, hby⟩ := ht.inf
  rcases ho.row.2 with ⟨h1, h2⟩ | ⟨g, cap, cur, h1, h2, h3, h4, h5, h6, h7⟩
  · omega
  · have hsl : a = some ⟨g, 0, none⟩ ∧ m = l.length ∧ c = cap := by simp at h1; exact h1
    obtain ⟨rfl, rfl, rfl⟩ := hsl
    rw [elp_some, Nat.zero_add] at hx
    have hzs : z.cells.size = k := by rw [← Array.length_toList, hz, he.len]
    have hvs : (Builtin.zeroCells z.cells n').toList = (List.replicate n' x0).flatMap enc := by
      rw [← madeCells_rep he hz]
      unfold Builtin.zeroCells madeCells
      rw [hzs]
    have hvl : (Builtin.zeroCells z.cells n').toList.length = n' * k := by rw [hvs, fm_len he]; simp
    have hlk : l.length * k ≤ cur.size := by rw [h6]; exact Nat.mul_le_mul_right _ h4
    have hjn : j * k + n' * k = l.length * k := by rw [← Nat.add_mul]; congr 1; omega
    have hst := run_storeCells_at (P := P) g (j * k) e (Builtin.zeroCells z.cells n').toList 0 cur w h3 (by rw [hvl]; omega) (by rw [hvs]; exact fm_one he _)
    simp only [Nat.add_zero, hvl] at hst
    have hzv : (zeroValue e).run P w = .ok z w := by simp [zeroValue, typeInfo, hi, hzz]
    obtain ⟨n1, rfl⟩ : ∃ n1, n' = n1 + 1 := ⟨n' - 1, by omega⟩
    refine Rg_run (v := .tuple #[]) rfl (w' := w.setRow g (cur.toList.take (j * k) ++ (Builtin.zeroCells z.cells (n1 + 1)).toList ++ cur.toList.drop (j * k + (n1 + 1) * k)).toArray) ?_ (hk _ ?_ ?_)
    · simp [execOp, resolve, invoke, builtin, hx, Builtin.clear_, run_underlying ht.sl, hzv, hst]
    · exact ⟨rfl, rfl, rfl, by simp, fun q _ hq => setRow_other w g q _ (fun e => hq (by subst e; exact ho.loc _ rfl)), fun _ => Nat.le_refl _⟩
    · have hcl : (cur.toList.take (j * k) ++ (Builtin.zeroCells z.cells (n1 + 1)).toList ++ cur.toList.drop (j * k + (n1 + 1) * k)).length = cur.size := by
        simp only [List.length_append, hvl, List.length_take, List.length_drop, Array.length_toList]; omega
      have hll : (l.take j ++ List.replicate (n1 + 1) x0).length = l.length := by simp [List.length_take]; omega
      refine ⟨⟨by rw [fm_len he], .inr ⟨g, c, _, by simp; omega, h2, setRow_heap w g cur _ e _ h3, by rw [hll]; exact h4, h5, by rw [List.size_toArray, hcl, h6], ?_⟩⟩, ho.loc⟩
      rw [hll, List.toList_toArray, List.flatMap_append, ← hvs, fm_take he]
      have t1 : cur.toList.take (j * k) = (l.flatMap enc).take (j * k) := by rw [← h7, List.take_take]; congr 1; omega
      have hA : ((l.flatMap enc).take (j * k) ++ (Builtin.zeroCells z.cells (n1 + 1)).toList).length = l.length * k := by
        rw [List.length_append, hvl, List.length_take, fm_len he]; omega
      rw [t1, List.take_append, hA, List.take_of_length_le (by rw [hA]; exact Nat.le_refl _)]
      simp
end
end Go.Lx
