/- Slices that are made in a region that draws; a slice of own slices, their blocks apart; what holds cells is not touched where marks are shut. Nothing of a program stands here. -/
import Derived.Test.YtncmjgmlnnenhaaDoorDrawC
import Derived.Test.YtncmjgmlnnenhaaDoorRel
import Derived.Test.YtncmjgmlnnenhaaDoorOd
namespace Go.Lx
open Go Go.RowKit
set_option linter.unusedSimpArgs false
set_option linter.unusedVariables false
set_option linter.unnecessarySimpa false
section
variable {α : Type} {enc : α → List Value} {s : Nat} {T e : TypeId} {by_ : Nat} {z : Value} {β : Prop} {P : Program} {fr : Fr} {w : World} {c : Nat → Nat} {ops : Array Oper} {d : Nat} {ty : TypeId} {pos : String} {after : Array Edge} {kc : Nat}
theorem OpC_make {x y : Operand} {m : Nat} (x0 : α) (he : EncOk enc s) (ht : ElT P T e s by_ z) (hz : z.cells.toList = enc x0) (hx : ev fr x = .int .i64 (m : Int)) (hy : ev fr y = .int .i64 (m : Int)) (hb : m * by_ ≤ 140737488355328) :
    OpC β kc P ops ⟨some d, .makeSlice T x y, ty, pos, after, none⟩ fr w c (fun v w c => ∃ a, v = .slice a m m ∧ postOwn enc s e kc (List.replicate m x0) v w c) := by
  obtain ⟨i, hi, hzz, hs, hby⟩ := ht.inf
  have hm : m ≤ 140737488355328 := Nat.le_trans (Nat.le_mul_of_pos_right _ ht.bp) hb
  have hbi : (i.bytes : Int) * (m : Int) ≤ 281474976710656 := by
    rw [hby, ← Int.natCast_mul, Nat.mul_comm]; omega
  have hr := run_make (P := P) w T e i z ht.sl hi hzz .i64 .i64 (m : Int) (m : Int) (by omega) (Int.le_refl _) hbi (by omega)
  rw [hs] at hr
  simp only [Int.toNat_natCast] at hr
  refine .inl ⟨rfl, .inl ⟨.slice (some ⟨w.heap.size, 0, none⟩) m m, w.alloc (.cells (madeCells z.cells (m * s)) e), newC c w kc, .inl ⟨?_, rfl⟩, StepC.ext (Ext.alloc _ _) fun _ hb => newC_old hb, _, rfl, ⟨⟨by rw [fm_len he], .inr ⟨w.heap.size, m, _, by simp, Nat.zero_le _, heap_alloc_new w _, by simp, by unfold maxLen; omega, size_madeCells _ _, ?_⟩⟩, ?_⟩⟩⟩
  · simp [execOp, hx, hy, hr]
  · rw [madeCells_rep (x := x0) he hz, List.take_of_length_le (by rw [fm_len he]; simp)]
  · intro g hg
    simp [Value.ownBlock] at hg
    subst hg
    exact newC_new (Nat.le_refl _)
end
theorem Own.notBox {α : Type} {enc : α → List Value} {k : Nat} {D : Nat → Prop} {e T : TypeId} {w : World} {v : Value} {l : List α} {b : Nat} {cs : List Value} (h : Own enc k e D w v l) (hb : Box w b T cs) (hne : e ≠ T) : ∀ g, v.ownBlock = some g → g ≠ b := by
  intro g hg e1
  subst e1
  rcases h.row.2 with ⟨h1, _⟩ | ⟨g', cap, cur, h1, _, h3, _⟩
  · rw [h1] at hg; simp [Value.ownBlock] at hg
  · rw [h1] at hg
    simp [Value.ownBlock] at hg
    subst hg
    have : w.heap[g']? = some (.cells cs.toArray T) := hb
    rw [this] at h3
    simp at h3
    exact hne h3.2.symm
/-- A new own slice, of no colour: nothing writes it in this region. -/
def postNew {α : Type} (enc : α → List Value) (s : Nat) (e : TypeId) (w0 : World) (n : Nat) (l : List α) : PostC := fun v w c => ∃ g, v = .slice (some ⟨g, 0, none⟩) n n ∧ w0.heap.size ≤ g ∧ c g = 0 ∧ Own enc s e (fun b => b = g) w v l
theorem postNew_stable {α : Type} {enc : α → List Value} {s n : Nat} {e : TypeId} {w0 : World} {l : List α} {kc : Nat} : StableC kc (postNew enc s e w0 n l) := by
  rintro v w c w' c' q hq hx ⟨g, h1, h2, h3, h4⟩
  subst h1
  have hlt : g < w.heap.size := h4.lt g rfl
  exact ⟨g, rfl, h2, (hx.col g hlt).trans h3, h4.keepD hx.bel fun b _ hb hd => hd.1 (by rw [← hd.2, hb]; exact h3)⟩
theorem OpC_new {α : Type} {enc : α → List Value} {s : Nat} {T e : TypeId} {by_ : Nat} {z : Value} {β : Prop} {P : Program} {fr : Fr} {w w0 : World} {c : Nat → Nat} {ops : Array Oper} {d : Nat} {ty : TypeId} {pos : String} {after : Array Edge} {x y : Operand} {m : Nat} (x0 : α) (hw : w0.heap.size ≤ w.heap.size) (he : EncOk enc s) (ht : ElT P T e s by_ z) (hz : z.cells.toList = enc x0) (hx : ev fr x = .int .i64 (m : Int)) (hy : ev fr y = .int .i64 (m : Int)) (hb : m * by_ ≤ 140737488355328) :
    OpC β 0 P ops ⟨some d, .makeSlice T x y, ty, pos, after, none⟩ fr w c (postNew enc s e w0 m (List.replicate m x0)) := by
  obtain ⟨i, hi, hzz, hs, hby⟩ := ht.inf
  have hm : m ≤ 140737488355328 := Nat.le_trans (Nat.le_mul_of_pos_right _ ht.bp) hb
  have hbi : (i.bytes : Int) * (m : Int) ≤ 281474976710656 := by
    rw [hby, ← Int.natCast_mul, Nat.mul_comm]; omega
  have hr := run_make (P := P) w T e i z ht.sl hi hzz .i64 .i64 (m : Int) (m : Int) (by omega) (Int.le_refl _) hbi (by omega)
  rw [hs] at hr
  simp only [Int.toNat_natCast] at hr
  refine .inl ⟨rfl, .inl ⟨.slice (some ⟨w.heap.size, 0, none⟩) m m, w.alloc (.cells (madeCells z.cells (m * s)) e), newC c w 0, .inl ⟨?_, rfl⟩, StepC.ext (Ext.alloc _ _) fun _ hb => newC_old hb, w.heap.size, rfl, hw, newC_new (Nat.le_refl _), ⟨⟨by rw [fm_len he], .inr ⟨w.heap.size, m, _, by simp, Nat.zero_le _, heap_alloc_new w _, by simp, by unfold maxLen; omega, size_madeCells _ _, ?_⟩⟩, ?_⟩⟩⟩
  · simp [execOp, hx, hy, hr]
  · rw [madeCells_rep (x := x0) he hz, List.take_of_length_le (by rw [fm_len he]; simp)]
  · intro g hg
    simp [Value.ownBlock] at hg
    exact hg.symm
/-- A new own slice has been stored in block po. -/
def postSt {α : Type} (enc : α → List Value) (s : Nat) (e : TypeId) (w0 : World) (n : Nat) (l : List α) (po kc : Nat) (T : TypeId) (cs : Value → List Value) : PostC := fun _ w c => ∃ g, (Box w po T (cs (.slice (some ⟨g, 0, none⟩) n n)) ∧ c po = kc) ∧ w0.heap.size ≤ g ∧ c g = 0 ∧ Own enc s e (fun b => b = g) w (.slice (some ⟨g, 0, none⟩) n n) l
theorem postSt_stable {α : Type} {enc : α → List Value} {s n : Nat} {e T : TypeId} {w0 : World} {l : List α} {po kc : Nat} {cs : Value → List Value} : StableC kc (postSt enc s e w0 n l po kc T cs) := by
  rintro v w c w' c' q hq hx ⟨g, h1, h2, h3, h4⟩
  have hlt : g < w.heap.size := h4.lt g rfl
  exact ⟨g, postAt_stable v w c w' c' q hq hx h1, h2, (hx.col g hlt).trans h3, h4.keepD hx.bel fun b _ hb hd => hd.1 (by rw [← hd.2, hb]; exact h3)⟩
theorem OpC_storeNew {α : Type} {enc : α → List Value} {s n : Nat} {e U T : TypeId} {β : Prop} {P : Program} {fr : Fr} {w w0 : World} {c : Nat → Nat} {ops : Array Oper} {ty : TypeId} {pos : String} {after : Array Edge} {kc : Nat} {x y : Operand} {b off g : Nat} {cs : List Value} {l : List α} {f : Value → List Value} (h0 : kc ≠ 0)
    (hs : ∀ w, (sizeOf U).run P w = .ok 1 w) (hx : ev fr x = .pointer (some ⟨b, off, none⟩)) (hy : ev fr y = .slice (some ⟨g, 0, none⟩) n n) (hb : Box w b T cs) (hc : c b = kc) (hle : Nat.ble (off + 1) cs.length = true) (hw : w0.heap.size ≤ g) (hcg : c g = 0) (ho : Own enc s e (fun b => b = g) w (.slice (some ⟨g, 0, none⟩) n n) l) (hne : e ≠ T) (hf : splice cs off [.slice (some ⟨g, 0, none⟩) n n] = f (.slice (some ⟨g, 0, none⟩) n n)) :
    OpC β kc P ops ⟨none, .store U x y, ty, pos, after, none⟩ fr w c (postSt enc s e w0 n l b kc T f) := by
  have hst := run_storeCells_at (P := P) b off T (Value.slice (some ⟨g, 0, none⟩) n n).cells.toList 0 cs.toArray w hb (by rw [List.size_toArray]; exact (by simpa using hle : off + 1 ≤ cs.length)) (oneL.mem rfl)
  simp only [Nat.add_zero] at hst
  refine .inl ⟨rfl, .inl ⟨undef, w.setRow b (cs.toArray.toList.take off ++ (Value.slice (some ⟨g, 0, none⟩) n n).cells.toList ++ cs.toArray.toList.drop (off + (Value.slice (some ⟨g, 0, none⟩) n n).cells.toList.length)).toArray, c, .inr ⟨?_, rfl⟩, ⟨⟨rfl, rfl, rfl, by simp, fun j _ hj => setRow_other w b j _ (fun e => hj ⟨h0, by subst e; exact hc⟩), fun _ => Nat.le_refl _⟩, fun _ _ => rfl⟩, g, ⟨?_, hc⟩, hw, hcg, ho.blk (fun g2 _ hg => setRow_other w b g2 _ (ho.notBox hb hne g2 hg)) (fun g2 _ hg => ho.loc g2 hg)⟩⟩
  · simp only [execOp, hx, hy, Instr.storeAt, Instr.sureAddr, storeVar, Sem.run_bind, Sem.run_pure, Result.andThen_ok, hs]
    simp [hst]
    rfl
  · rw [← hf]; exact setRow_heap w b cs.toArray _ T _ hb
/-- A store beside which an own slice of the same colour is kept. -/
theorem OpC_storeOwn {α : Type} {enc : α → List Value} {s : Nat} {e U T : TypeId} {β : Prop} {P : Program} {fr : Fr} {w : World} {c : Nat → Nat} {ops : Array Oper} {ty : TypeId} {pos : String} {after : Array Edge} {kc : Nat} {x y : Operand} {b off m : Nat} {cs : List Value} {v u : Value} {l : List α} (h0 : kc ≠ 0)
    (hs : ∀ w, (sizeOf U).run P w = .ok m w) (hx : ev fr x = .pointer (some ⟨b, off, none⟩)) (hy : ev fr y = v) (hb : Box w b T cs) (hc : c b = kc) (hv : v.cells.toList.length = m) (h1 : oneL v.cells.toList = true) (hle : Nat.ble (off + v.cells.toList.length) cs.length = true) (ho : Own enc s e (fun g => c g = kc) w u l) (hne : e ≠ T) {S : PostC}
    (hS : ∀ w' , Box w' b T (splice cs off v.cells.toList) → Own enc s e (fun g => c g = kc) w' u l → S undef w' c) :
    OpC β kc P ops ⟨none, .store U x y, ty, pos, after, none⟩ fr w c S := by
  have hst := run_storeCells_at (P := P) b off T v.cells.toList 0 cs.toArray w hb (by simpa using hle) (oneL.mem h1)
  simp only [Nat.add_zero] at hst
  have hsz : v.cells.size = m := by rw [← Array.length_toList]; exact hv
  refine .inl ⟨rfl, .inl ⟨undef, w.setRow b (cs.toArray.toList.take off ++ v.cells.toList ++ cs.toArray.toList.drop (off + v.cells.toList.length)).toArray, c, .inr ⟨?_, rfl⟩, ⟨⟨rfl, rfl, rfl, by simp, fun j _ hj => setRow_other w b j _ (fun e => hj ⟨h0, by subst e; exact hc⟩), fun _ => Nat.le_refl _⟩, fun _ _ => rfl⟩, ?_⟩⟩
  · simp only [execOp, hx, hy, Instr.storeAt, Instr.sureAddr, storeVar, Sem.run_bind, Sem.run_pure, Result.andThen_ok, hs]
    simp [hsz, hst]
  · exact hS _ (setRow_heap w b cs.toArray _ T _ hb) (ho.blk (fun g _ hg => setRow_other w b g _ (ho.notBox hb hne g hg)) (fun g _ hg => ho.loc g hg))
section
variable {α : Type} {enc : α → List Value} {k : Nat} {D : Nat → Prop} {e : TypeId} {w w' : World} {l : List α}
/-- The block of an own slice that is not empty. -/
theorem Own.block {a : Option Addr} {m c : Nat} (h : Own enc k e D w (.slice a m c) l) (hm : 0 < m) : ∃ g, a = some ⟨g, 0, none⟩ ∧ D g ∧ g < w.heap.size ∧ Own enc k e (fun b => b = g) w (.slice (some ⟨g, 0, none⟩) m c) l := by
  rcases h.row.2 with ⟨h1, h2⟩ | ⟨g, cap, cur, h1, h2, h3, h4⟩
  · simp at h1; omega
  · have h0 := h1
    simp at h1
    obtain ⟨rfl, _, _⟩ := h1
    have hb : (Value.slice (some ⟨g, 0, none⟩) m c).ownBlock = some g := rfl
    exact ⟨g, rfl, h.loc g hb, h.lt g hb, h.at fun b _ hb' => by simp [Value.ownBlock] at hb'; exact hb'.symm⟩
/-- Where marks are shut what holds cells stays. -/
theorem shut_heap : ∀ {ms : List Nat} {w : World} {b : Nat} {o : Obj}, Mks w ms → w.heap[b]? = some o → o ≠ .deferred (some []) → (shut w ms).heap[b]? = some o
  | [], _, _, _, _, h, _ => h
  | m :: r, w, b, o, hm, h, ho => by
    have hne : b ≠ m := fun e => ho (by rw [e, hm.2.1] at h; simpa using h.symm)
    have hk : Mks (w.putObj m (.deferred none)) r := hm.2.2.keep fun c hc => World.putObj_heap_other (fun e : c = m => hm.1 (by rw [← e]; exact hc))
    exact shut_heap (w := w.putObj m (.deferred none)) hk ((World.putObj_heap_other hne).trans h) ho
theorem Box.shut {ms : List Nat} {b : Nat} {T : TypeId} {cs : List Value} (h : Box w b T cs) (hm : Mks w ms) : Box (shut w ms) b T cs := shut_heap hm h (fun e => by cases e)
theorem Own.shut {ms : List Nat} {v : Value} (h : Own enc k e D w v l) (hm : Mks w ms) : Own enc k e D (shut w ms) v l := by
  refine ⟨⟨h.row.1, ?_⟩, h.loc⟩
  rcases h.row.2 with h' | ⟨g, cap, cur, h1, h2, h3, h4⟩
  · exact .inl h'
  · exact .inr ⟨g, cap, cur, h1, h2, shut_heap hm h3 (fun e => by cases e), h4⟩
end
/-- Elements as numbers. -/
def encF (x : Fin 64) : List Value := [.int .i64 (iv x)]
theorem encF_ok : EncOk encF 1 := ⟨by decide, fun _ => rfl, fun x u hu => by simp [encF] at hu; subst hu; rfl⟩
theorem sl_F {F : Nat → Prop} {w : World} {a : Option Addr} {c : Nat} {l : List (Fin 64)} (h : Sl encJ 1 F w a c (l.map iv)) : Sl encF 1 F w a c l :=
  ⟨by have := h.le; rwa [List.length_map] at this, h.cap, h.nil, fun i x hi => h.el i (iv x) (by rw [List.getElem?_map, hi]; rfl)⟩
/-- What is directly above an element, in memory. -/
structure DV where
  a : Option Addr
  c : Nat
  l : List (Fin 64)
def DV.v (d : DV) : Value := .slice d.a d.l.length d.c
def encDV (d : DV) : List Value := [.slice d.a d.l.length d.c]
theorem encDV_ok : EncOk encDV 1 := ⟨by decide, fun _ => rfl, fun x u hu => by simp [encDV] at hu; subst hu; rfl⟩
def dz : DV := ⟨none, 0, []⟩
/-- Own slices, each in blocks of D, no two in one block. -/
def DirO (e : TypeId) (D : Nat → Prop) (w : World) (ds : List DV) : Prop := ∀ (i : Nat) (d : DV), ds[i]? = some d → Own encF 1 e D w d.v d.l ∧ ∀ (j : Nat) (d' : DV), ds[j]? = some d' → i ≠ j → ∀ g, d.v.ownBlock = some g → d'.v.ownBlock ≠ some g
section
variable {e : TypeId} {D : Nat → Prop} {w w' : World} {ds : List DV}
theorem DirO.start {n : Nat} : DirO e D w (List.replicate n dz) := by
  intro i d h
  have : d = dz := by
    have := List.mem_of_getElem? h
    simp at this; exact this.2
  subst this
  exact ⟨Own.nil _ _, fun j d' _ _ g hg => by simp [DV.v, dz, Value.ownBlock] at hg⟩
theorem DirO.keep {γ : Prop} {D' : Nat → Prop} (h : DirO e D w ds) (x : Bel γ D' w w') (hd : ∀ g, g < w.heap.size → D g → ¬ D' g) : DirO e D w' ds := fun i d hi => ⟨(h i d hi).1.keepD x hd, (h i d hi).2⟩
theorem DirO.ext {γ : Prop} (h : DirO e D w ds) (x : Ext γ w w') : DirO e D w' ds := h.keep x fun _ _ _ => id
/-- One of them has been appended to. -/
theorem DirO.set {i : Nat} {d d' : DV} (h : DirO e D w ds) (hi : ds[i]? = some d) (hD : ∀ g, w.heap.size ≤ g → D g) (x : Bel False (fun g => d.v.ownBlock = some g ∨ w.heap.size ≤ g) w w') (ho : Own encF 1 e (fun g => d.v.ownBlock = some g ∨ w.heap.size ≤ g) w' d'.v d'.l) : DirO e D w' (ds.set i d') := by
  have hlt : i < ds.length := (List.getElem?_eq_some_iff.1 hi).1
  have hold : ∀ j d2, j ≠ i → ds[j]? = some d2 → Own encF 1 e D w' d2.v d2.l ∧ (∀ g, d2.v.ownBlock = some g → g < w.heap.size ∧ d.v.ownBlock ≠ some g) := by
    intro j d2 hj h2
    obtain ⟨h3, h4⟩ := h j d2 h2
    have hb : ∀ g, d2.v.ownBlock = some g → g < w.heap.size ∧ d.v.ownBlock ≠ some g := fun g hg => ⟨h3.lt g hg, h4 i d hi hj g hg⟩
    exact ⟨h3.keep x fun g hl hg hq => by
      rcases hq with hq | hq
      · exact (hb g hg).2 hq
      · omega, hb⟩
  have hnew : ∀ g, d'.v.ownBlock = some g → d.v.ownBlock = some g ∨ w.heap.size ≤ g := fun g hg => ho.loc g hg
  intro j d2 hj
  rw [List.getElem?_set] at hj
  by_cases ej : i = j
  · subst ej
    rw [if_pos rfl, if_pos hlt] at hj
    simp only [Option.some.injEq] at hj
    subst hj
    refine ⟨ho.mono fun g hg hq => ?_, fun j2 d3 h3 hne g hg hg3 => ?_⟩
    · rcases hq with hq | hq
      · exact (h i d hi).1.loc g hq
      · exact hD g hq
    · rw [List.getElem?_set, if_neg hne] at h3
      have := (hold j2 d3 (fun e => hne e.symm) h3).2 g hg3
      rcases hnew g hg with hq | hq
      · exact this.2 hq
      · omega
  · rw [if_neg ej] at hj
    obtain ⟨h1, h2⟩ := hold j d2 (fun e => ej e.symm) hj
    refine ⟨h1, fun j2 d3 h3 hne g hg hg3 => ?_⟩
    rw [List.getElem?_set] at h3
    by_cases e2 : i = j2
    · subst e2
      rw [if_pos rfl, if_pos hlt] at h3
      simp only [Option.some.injEq] at h3
      subst h3
      rcases hnew g hg3 with hq | hq
      · exact (h2 g hg).2 hq
      · have := (h2 g hg).1; omega
    · rw [if_neg e2] at h3
      exact (h j d2 hj).2 j2 d3 h3 hne g hg hg3
end
theorem dl_len (ps : List Pr) (k : Nat) (b : Fin 64) : (dlO (ps.take k) b).length ≤ ps.length := by
  unfold dlO
  rw [List.length_map]
  refine Nat.le_trans (List.length_filter_le _ _) ?_
  rw [List.length_take]; omega
theorem ds_set {ps : List Pr} {ds : List DV} {k : Nat} (h : k < ps.length) (hdl : ds.length = 64) (hds : ∀ b : Fin 64, (ds.getD b.val dz).l = dlO (ps.take k) b) (a : Option Addr) (c : Nat) :
    ∀ b : Fin 64, ((ds.set (ps.getD k pz0).2.val ⟨a, c, (ds.getD (ps.getD k pz0).2.val dz).l ++ [(ps.getD k pz0).1]⟩).getD b.val dz).l = dlO (ps.take (k + 1)) b := by
  intro b
  rw [dl_succ h]
  generalize ps.getD k pz0 = y
  simp only [List.getD, List.getElem?_set]
  by_cases e : b = y.2
  · subst e
    have hl : y.2.val < ds.length := by have := y.2.isLt; omega
    have := hds y.2
    simp only [List.getD, List.getElem?_eq_getElem hl, Option.getD_some] at this
    simp [hl, this]
  · have : ¬ y.2.val = b.val := fun e' => e (Fin.ext e'.symm)
    rw [if_neg this, if_neg e]
    exact hds b
theorem DirO.mono {e : TypeId} {D D' : Nat → Prop} {w : World} {ds : List DV} (h : DirO e D w ds) (hd : ∀ g, g < w.heap.size → D g → D' g) : DirO e D' w ds := fun i d hi => ⟨(h i d hi).1.mono hd, (h i d hi).2⟩
theorem wds_rep {F : Nat → Prop} {w : World} {n : Nat} : WdsAt F w (List.replicate n sz) := fun s hs => by
  have : s = sz := (List.mem_replicate.1 hs).2
  subst this
  exact Sl.none
theorem xs_rep {i : Nat} : xsO (List.replicate 64 sz) i = 0 := by
  unfold xsO
  simp only [List.getD, List.getElem?_replicate]
  split <;> rfl
theorem WdsAt.set {F : Nat → Prop} {w : World} {l : List SV} {i : Nat} {s : SV} (h : WdsAt F w l) (hs : Sl encU 1 F w s.a s.c (wl s.x)) : WdsAt F w (l.set i s) := fun t ht => by
  rcases List.mem_or_eq_of_mem_set ht with ht | rfl
  · exact h t ht
  · exact hs
theorem cell_shut {ms : List Nat} {w : World} {p : Addr} {v : Value} (h : w.cell? p = some v) (hm : Mks w ms) : (shut w ms).cell? p = some v := by
  have hlt := World.block_lt_of_cell? w p (by rw [h])
  obtain ⟨o, ho⟩ : ∃ o, w.heap[p.block]? = some o := ⟨_, Array.getElem?_eq_getElem hlt⟩
  by_cases e : o = .deferred (some [])
  · subst e
    unfold World.cell? at h
    rw [ho] at h
    cases h
  · rw [World.cell?_of_block (w := w) (a := p) ((shut_heap hm ho e).trans ho.symm)]
    exact h
theorem At.shut {ms : List Nat} {w : World} {b off : Nat} {cs : List Value} (h : At w b off cs) (hm : Mks w ms) : At (shut w ms) b off cs := fun i v hi => cell_shut (h i v hi) hm
theorem shut_size : ∀ (ms : List Nat) (w : World), (shut w ms).heap.size = w.heap.size
  | [], _ => rfl
  | b :: r, w => (shut_size r _).trans (by simp [World.putObj])
theorem Sl.shut {α : Type} {enc : α → List Value} {k c : Nat} {F : Nat → Prop} {ms : List Nat} {w : World} {a : Option Addr} {l : List α} (h : Sl enc k F w a c l) (hm : Mks w ms) : Sl enc k F (shut w ms) a c l :=
  ⟨h.le, h.cap, h.nil, fun i x hi => by
    obtain ⟨b, off, h1, h2, h3, h4⟩ := h.el i x hi
    exact ⟨b, off, h1, ⟨h2.1, by rw [shut_size]; exact h2.2⟩, h3.shut hm, h4⟩⟩
theorem WdsAt.shut {F : Nat → Prop} {ms : List Nat} {w : World} {l : List SV} (h : WdsAt F w l) (hm : Mks w ms) : WdsAt F (shut w ms) l := fun s hs => (h s hs).shut hm
theorem ds_start (ps : List Pr) : ∀ b : Fin 64, ((List.replicate 64 dz).getD b.val dz).l = dlO (ps.take 0) b := fun b => by
  simp only [List.getD, List.getElem?_replicate]
  split <;> rfl
theorem memW_nodup (x : W64) : (memW x 64).Nodup := by
  unfold memW
  refine List.Pairwise.map _ (fun a b (h : a ≠ b) => fun e => h (by omega)) ?_
  exact List.Pairwise.filter _ List.nodup_range
theorem not_in_takeA {α : Type} {l : List α} (hn : l.Nodup) {j : Nat} {b : α} (h : l[j]? = some b) : b ∉ l.take j := by
  intro hm
  have h2 : (l.take (j + 1)).Nodup := hn.sublist (List.take_sublist _ _)
  rw [take_snoc h, List.nodup_append] at h2
  exact h2.2.2 b hm b (by simp) rfl
end Go.Lx
