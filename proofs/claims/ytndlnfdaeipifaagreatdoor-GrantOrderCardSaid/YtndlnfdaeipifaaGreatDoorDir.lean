/- Several texts in one file. -/
import Derived.Test.YtndlnfdaeipifaaGreatDoorDrawC
import Derived.Test.YtndlnfdaeipifaaGreatDoorPr
/- Slices that are made in a region that draws; a slice of own slices, their blocks apart; what holds cells is not touched where marks are shut. Nothing of a program stands here. -/
namespace Go.Lx
open Go Go.RowKit
set_option linter.unusedSimpArgs false
set_option linter.unusedVariables false
set_option linter.unnecessarySimpa false
section
variable {α : Type} {enc : α → List Value} {s : Nat} {T e : TypeId} {by_ : Nat} {z : Value} {β : Prop} {P : Program} {fr : Fr} {w : World} {c : Nat → Nat} {ops : Array Oper} {d : Nat} {ty : TypeId} {pos : String} {after : Array Edge} {kc : Nat}
theorem OpC_make {x y : Operand} {m : Nat} (x0 : α) (he : EncOk enc s) (ht : ElT P T e s by_ z) (hz : z.cells.toList = enc x0) (hx : ev fr x = .int .i64 (m : Int)) (hy : ev fr y = .int .i64 (m : Int)) (hb : m * by_ ≤ 140737488355328) :
    OpC β kc P ops ⟨some d, .makeSlice T x y, ty, pos, after, none⟩ fr w c (fun v w c => ∃ a, v = .slice a m m ∧ postOwn enc s e kc (List.replicate m x0) v w c) := by
  obtain ⟨i, hi, hzz, hs, hby⟩ := ht.inf
  have hm : m ≤ 140737488355328 := Nat.le_trans (Nat.le_mul_of_pos_right _ ht.bp) hb
  have hbi : (i.bytes : Int) * (m : Int) ≤ 281474976710656 := by
    rw [hby, ← Int.natCast_mul, Nat.mul_comm]; omega
  have hr := run_make (P := P) w T e i z ht.sl hi hzz .i64 .i64 (m : Int) (m : Int) (by omega) (Int.le_refl _) hbi (by omega)
  rw [hs] at hr
  simp only [Int.toNat_natCast] at hr
  refine .inl ⟨rfl, .inl ⟨.slice (some ⟨w.heap.size, 0, none⟩) m m, w.alloc (.cells (madeCells z.cells (m * s)) e), newC c w kc, .inl ⟨?_, rfl⟩, StepC.ext (Ext.alloc _ _) fun _ hb => newC_old hb, _, rfl, ⟨⟨by rw [fm_len he], .inr ⟨w.heap.size, m, _, by simp, Nat.zero_le _, heap_alloc_new w _, by simp, by unfold maxLen; omega, size_madeCells _ _, ?_⟩⟩, ?_⟩⟩⟩
  · simp [execOp, hx, hy, hr]
  · rw [madeCells_rep (x := x0) he hz, List.take_of_length_le (by rw [fm_len he]; simp)]
  · intro g hg
    simp [Value.ownBlock] at hg
    subst hg
    exact newC_new (Nat.le_refl _)
end
theorem Own.notBox {α : Type} {enc : α → List Value} {k : Nat} {D : Nat → Prop} {e T : TypeId} {w : World} {v : Value} {l : List α} {b : Nat} {cs : List Value} (h : Own enc k e D w v l) (hb : Box w b T cs) (hne : e ≠ T) : ∀ g, v.ownBlock = some g → g ≠ b := by
  intro g hg e1
  subst e1
  rcases h.row.2 with ⟨h1, _⟩ | ⟨g', cap, cur, h1, _, h3, _⟩
  · rw [h1] at hg; simp [Value.ownBlock] at hg
  · rw [h1] at hg
    simp [Value.ownBlock] at hg
    subst hg
    have : w.heap[g']? = some (.cells cs.toArray T) := hb
    rw [this] at h3
    simp at h3
    exact hne h3.2.symm
def postNew {α : Type} (enc : α → List Value) (s : Nat) (e : TypeId) (w0 : World) (n : Nat) (l : List α) : PostC := fun v w c => ∃ g, v = .slice (some ⟨g, 0, none⟩) n n ∧ w0.heap.size ≤ g ∧ c g = 0 ∧ Own enc s e (fun b => b = g) w v l
theorem postNew_stable {α : Type} {enc : α → List Value} {s n : Nat} {e : TypeId} {w0 : World} {l : List α} {kc : Nat} : StableC kc (postNew enc s e w0 n l) := by
  rintro v w c w' c' q hq hx ⟨g, h1, h2, h3, h4⟩
  subst h1
  have hlt : g < w.heap.size := h4.lt g rfl
  exact ⟨g, rfl, h2, (hx.col g hlt).trans h3, h4.keepD hx.bel fun b _ hb hd => hd.1 (by rw [← hd.2, hb]; exact h3)⟩
theorem OpC_new {α : Type} {enc : α → List Value} {s : Nat} {T e : TypeId} {by_ : Nat} {z : Value} {β : Prop} {P : Program} {fr : Fr} {w w0 : World} {c : Nat → Nat} {ops : Array Oper} {d : Nat} {ty : TypeId} {pos : String} {after : Array Edge} {x y : Operand} {m : Nat} (x0 : α) (hw : w0.heap.size ≤ w.heap.size) (he : EncOk enc s) (ht : ElT P T e s by_ z) (hz : z.cells.toList = enc x0) (hx : ev fr x = .int .i64 (m : Int)) (hy : ev fr y = .int .i64 (m : Int)) (hb : m * by_ ≤ 140737488355328) :
    OpC β 0 P ops ⟨some d, .makeSlice T x y, ty, pos, after, none⟩ fr w c (postNew enc s e w0 m (List.replicate m x0)) := by
  obtain ⟨i, hi, hzz, hs, hby⟩ := ht.inf
  have hm : m ≤ 140737488355328 := Nat.le_trans (Nat.le_mul_of_pos_right _ ht.bp) hb
  have hbi : (i.bytes : Int) * (m : Int) ≤ 281474976710656 := by
    rw [hby, ← Int.natCast_mul, Nat.mul_comm]; omega
  have hr := run_make (P := P) w T e i z ht.sl hi hzz .i64 .i64 (m : Int) (m : Int) (by omega) (Int.le_refl _) hbi (by omega)
  rw [hs] at hr
  simp only [Int.toNat_natCast] at hr
  refine .inl ⟨rfl, .inl ⟨.slice (some ⟨w.heap.size, 0, none⟩) m m, w.alloc (.cells (madeCells z.cells (m * s)) e), newC c w 0, .inl ⟨?_, rfl⟩, StepC.ext (Ext.alloc _ _) fun _ hb => newC_old hb, w.heap.size, rfl, hw, newC_new (Nat.le_refl _), ⟨⟨by rw [fm_len he], .inr ⟨w.heap.size, m, _, by simp, Nat.zero_le _, heap_alloc_new w _, by simp, by unfold maxLen; omega, size_madeCells _ _, ?_⟩⟩, ?_⟩⟩⟩
  · simp [execOp, hx, hy, hr]
  · rw [madeCells_rep (x := x0) he hz, List.take_of_length_le (by rw [fm_len he]; simp)]
  · intro g hg
    simp [Value.ownBlock] at hg
    exact hg.symm
def postSt {α : Type} (enc : α → List Value) (s : Nat) (e : TypeId) (w0 : World) (n : Nat) (l : List α) (po kc : Nat) (T : TypeId) (cs : Value → List Value) : PostC := fun _ w c => ∃ g, (Box w po T (cs (.slice (some ⟨g, 0, none⟩) n n)) ∧ c po = kc) ∧ w0.heap.size ≤ g ∧ c g = 0 ∧ Own enc s e (fun b => b = g) w (.slice (some ⟨g, 0, none⟩) n n) l
theorem postSt_stable {α : Type} {enc : α → List Value} {s n : Nat} {e T : TypeId} {w0 : World} {l : List α} {po kc : Nat} {cs : Value → List Value} : StableC kc (postSt enc s e w0 n l po kc T cs) := by
  rintro v w c w' c' q hq hx ⟨g, h1, h2, h3, h4⟩
  have hlt : g < w.heap.size := h4.lt g rfl
  exact ⟨g, postAt_stable v w c w' c' q hq hx h1, h2, (hx.col g hlt).trans h3, h4.keepD hx.bel fun b _ hb hd => hd.1 (by rw [← hd.2, hb]; exact h3)⟩
theorem OpC_storeNew {α : Type} {enc : α → List Value} {s n : Nat} {e U T : TypeId} {β : Prop} {P : Program} {fr : Fr} {w w0 : World} {c : Nat → Nat} {ops : Array Oper} {ty : TypeId} {pos : String} {after : Array Edge} {kc : Nat} {x y : Operand} {b off g : Nat} {cs : List Value} {l : List α} {f : Value → List Value} (h0 : kc ≠ 0)
    (hs : ∀ w, (sizeOf U).run P w = .ok 1 w) (hx : ev fr x = .pointer (some ⟨b, off, none⟩)) (hy : ev fr y = .slice (some ⟨g, 0, none⟩) n n) (hb : Box w b T cs) (hc : c b = kc) (hle : Nat.ble (off + 1) cs.length = true) (hw : w0.heap.size ≤ g) (hcg : c g = 0) (ho : Own enc s e (fun b => b = g) w (.slice (some ⟨g, 0, none⟩) n n) l) (hne : e ≠ T) (hf : splice cs off [.slice (some ⟨g, 0, none⟩) n n] = f (.slice (some ⟨g, 0, none⟩) n n)) :
    OpC β kc P ops ⟨none, .store U x y, ty, pos, after, none⟩ fr w c (postSt enc s e w0 n l b kc T f) := by
  have hst := run_storeCells_at (P := P) b off T (Value.slice (some ⟨g, 0, none⟩) n n).cells.toList 0 cs.toArray w hb (by rw [List.size_toArray]; exact (by simpa using hle : off + 1 ≤ cs.length)) (oneL.mem rfl)
  simp only [Nat.add_zero] at hst
  refine .inl ⟨rfl, .inl ⟨lkV _ fr, w.setRow b (cs.toArray.toList.take off ++ (Value.slice (some ⟨g, 0, none⟩) n n).cells.toList ++ cs.toArray.toList.drop (off + (Value.slice (some ⟨g, 0, none⟩) n n).cells.toList.length)).toArray, c, .inr ⟨?_, rfl⟩, ⟨⟨rfl, rfl, rfl, by simp, fun j _ hj => setRow_other w b j _ (fun e => hj ⟨h0, by subst e; exact hc⟩), fun _ => Nat.le_refl _⟩, fun _ _ => rfl⟩, g, ⟨?_, hc⟩, hw, hcg, ho.blk (fun g2 _ hg => setRow_other w b g2 _ (ho.notBox hb hne g2 hg)) (fun g2 _ hg => ho.loc g2 hg)⟩⟩
  · simp only [execOp, hx, hy, Instr.storeAt, Instr.sureAddr, storeVar, Sem.run_bind, Sem.run_pure, Result.andThen_ok, hs]
    simp [hst]
    rfl
  · rw [← hf]; exact setRow_heap w b cs.toArray _ T _ hb
section
variable {α : Type} {enc : α → List Value} {k : Nat} {D : Nat → Prop} {e : TypeId} {w w' : World} {l : List α}
theorem Own.block {a : Option Addr} {m c : Nat} (h : Own enc k e D w (.slice a m c) l) (hm : 0 < m) : ∃ g, a = some ⟨g, 0, none⟩ ∧ D g ∧ g < w.heap.size ∧ Own enc k e (fun b => b = g) w (.slice (some ⟨g, 0, none⟩) m c) l := by
  rcases h.row.2 with ⟨h1, h2⟩ | ⟨g, cap, cur, h1, h2, h3, h4⟩
  · simp at h1; omega
  · have h0 := h1
    simp at h1
    obtain ⟨rfl, _, _⟩ := h1
    have hb : (Value.slice (some ⟨g, 0, none⟩) m c).ownBlock = some g := rfl
    exact ⟨g, rfl, h.loc g hb, h.lt g hb, h.at fun b _ hb' => by simp [Value.ownBlock] at hb'; exact hb'.symm⟩
theorem shut_heap : ∀ {ms : List Nat} {w : World} {b : Nat} {o : Obj}, Mks w ms → w.heap[b]? = some o → o ≠ .deferred (some []) → (shut w ms).heap[b]? = some o
  | [], _, _, _, _, h, _ => h
  | m :: r, w, b, o, hm, h, ho => by
    have hne : b ≠ m := fun e => ho (by rw [e, hm.2.1] at h; simpa using h.symm)
    have hk : Mks (w.putObj m (.deferred none)) r := hm.2.2.keep fun c hc => World.putObj_heap_other (fun e : c = m => hm.1 (by rw [← e]; exact hc))
    exact shut_heap (w := w.putObj m (.deferred none)) hk ((World.putObj_heap_other hne).trans h) ho
theorem Box.shut {ms : List Nat} {b : Nat} {T : TypeId} {cs : List Value} (h : Box w b T cs) (hm : Mks w ms) : Box (shut w ms) b T cs := shut_heap hm h (fun e => by cases e)
theorem Own.shut {ms : List Nat} {v : Value} (h : Own enc k e D w v l) (hm : Mks w ms) : Own enc k e D (shut w ms) v l := by
  refine ⟨⟨h.row.1, ?_⟩, h.loc⟩
  rcases h.row.2 with h' | ⟨g, cap, cur, h1, h2, h3, h4⟩
  · exact .inl h'
  · exact .inr ⟨g, cap, cur, h1, h2, shut_heap hm h3 (fun e => by cases e), h4⟩
end
def encF (x : Fin 64) : List Value := [.int .i64 (iv x)]
theorem encF_ok : EncOk encF 1 := ⟨by decide, fun _ => rfl, fun x u hu => by simp [encF] at hu; subst hu; rfl⟩
theorem sl_F {F : Nat → Prop} {w : World} {a : Option Addr} {c : Nat} {l : List (Fin 64)} (h : Sl encJ 1 F w a c (l.map iv)) : Sl encF 1 F w a c l :=
  ⟨by have := h.le; rwa [List.length_map] at this, h.cap, h.nil, fun i x hi => h.el i (iv x) (by rw [List.getElem?_map, hi]; rfl)⟩
structure DV where
  a : Option Addr
  c : Nat
  l : List (Fin 64)
def DV.v (d : DV) : Value := .slice d.a d.l.length d.c
def encDV (d : DV) : List Value := [.slice d.a d.l.length d.c]
theorem encDV_ok : EncOk encDV 1 := ⟨by decide, fun _ => rfl, fun x u hu => by simp [encDV] at hu; subst hu; rfl⟩
def dz : DV := ⟨none, 0, []⟩
def DirO (e : TypeId) (D : Nat → Prop) (w : World) (ds : List DV) : Prop := ∀ (i : Nat) (d : DV), ds[i]? = some d → Own encF 1 e D w d.v d.l ∧ ∀ (j : Nat) (d' : DV), ds[j]? = some d' → i ≠ j → ∀ g, d.v.ownBlock = some g → d'.v.ownBlock ≠ some g
section
variable {e : TypeId} {D : Nat → Prop} {w w' : World} {ds : List DV}
theorem DirO.start {n : Nat} : DirO e D w (List.replicate n dz) := by
  intro i d h
  have : d = dz := by
    have := List.mem_of_getElem? h
    simp at this; exact this.2
  subst this
  exact ⟨Own.nil _ _, fun j d' _ _ g hg => by simp [DV.v, dz, Value.ownBlock] at hg⟩
theorem DirO.keep {γ : Prop} {D' : Nat → Prop} (h : DirO e D w ds) (x : Bel γ D' w w') (hd : ∀ g, g < w.heap.size → D g → ¬ D' g) : DirO e D w' ds := fun i d hi => ⟨(h i d hi).1.keepD x hd, (h i d hi).2⟩
theorem DirO.ext {γ : Prop} (h : DirO e D w ds) (x : Ext γ w w') : DirO e D w' ds := h.keep x fun _ _ _ => id
theorem DirO.set {i : Nat} {d d' : DV} (h : DirO e D w ds) (hi : ds[i]? = some d) (hD : ∀ g, w.heap.size ≤ g → D g) (x : Bel False (fun g => d.v.ownBlock = some g ∨ w.heap.size ≤ g) w w') (ho : Own encF 1 e (fun g => d.v.ownBlock = some g ∨ w.heap.size ≤ g) w' d'.v d'.l) : DirO e D w' (ds.set i d') := by
  have hlt : i < ds.length := (List.getElem?_eq_some_iff.1 hi).1
  have hold : ∀ j d2, j ≠ i → ds[j]? = some d2 → Own encF 1 e D w' d2.v d2.l ∧ (∀ g, d2.v.ownBlock = some g → g < w.heap.size ∧ d.v.ownBlock ≠ some g) := by
    intro j d2 hj h2
    obtain ⟨h3, h4⟩ := h j d2 h2
    have hb : ∀ g, d2.v.ownBlock = some g → g < w.heap.size ∧ d.v.ownBlock ≠ some g := fun g hg => ⟨h3.lt g hg, h4 i d hi hj g hg⟩
    exact ⟨h3.keep x fun g hl hg hq => by
      rcases hq with hq | hq
      · exact (hb g hg).2 hq
      · omega, hb⟩
  have hnew : ∀ g, d'.v.ownBlock = some g → d.v.ownBlock = some g ∨ w.heap.size ≤ g := fun g hg => ho.loc g hg
  intro j d2 hj
  rw [List.getElem?_set] at hj
  by_cases ej : i = j
  · subst ej
    rw [if_pos rfl, if_pos hlt] at hj
    simp only [Option.some.injEq] at hj
    subst hj
    refine ⟨ho.mono fun g hg hq => ?_, fun j2 d3 h3 hne g hg hg3 => ?_⟩
    · rcases hq with hq | hq
      · exact (h i d hi).1.loc g hq
      · exact hD g hq
    · rw [List.getElem?_set, if_neg hne] at h3
      have := (hold j2 d3 (fun e => hne e.symm) h3).2 g hg3
      rcases hnew g hg with hq | hq
      · exact this.2 hq
      · omega
  · rw [if_neg ej] at hj
    obtain ⟨h1, h2⟩ := hold j d2 (fun e => ej e.symm) hj
    refine ⟨h1, fun j2 d3 h3 hne g hg hg3 => ?_⟩
    rw [List.getElem?_set] at h3
    by_cases e2 : i = j2
    · subst e2
      rw [if_pos rfl, if_pos hlt] at h3
      simp only [Option.some.injEq] at h3
      subst h3
      rcases hnew g hg3 with hq | hq
      · exact (h2 g hg).2 hq
      · have := (h2 g hg).1; omega
    · rw [if_neg e2] at h3
      exact (h j d2 hj).2 j2 d3 h3 hne g hg hg3
end
theorem dl_len (ps : List Pr) (k : Nat) (b : Fin 64) : (dlO (ps.take k) b).length ≤ ps.length := by
  unfold dlO
  rw [List.length_map]
  refine Nat.le_trans (List.length_filter_le _ _) ?_
  rw [List.length_take]; omega
theorem ds_set {ps : List Pr} {ds : List DV} {k : Nat} (h : k < ps.length) (hdl : ds.length = 64) (hds : ∀ b : Fin 64, (ds.getD b.val dz).l = dlO (ps.take k) b) (a : Option Addr) (c : Nat) :
    ∀ b : Fin 64, ((ds.set (ps.getD k pz0).2.val ⟨a, c, (ds.getD (ps.getD k pz0).2.val dz).l ++ [(ps.getD k pz0).1]⟩).getD b.val dz).l = dlO (ps.take (k + 1)) b := by
  intro b
  rw [dl_succ h]
  generalize ps.getD k pz0 = y
  simp only [List.getD, List.getElem?_set]
  by_cases e : b = y.2
  · subst e
    have hl : y.2.val < ds.length := by have := y.2.isLt; omega
    have := hds y.2
    simp only [List.getD, List.getElem?_eq_getElem hl, Option.getD_some] at this
    simp [hl, this]
  · have : ¬ y.2.val = b.val := fun e' => e (Fin.ext e'.symm)
    rw [if_neg this, if_neg e]
    exact hds b
theorem DirO.mono {e : TypeId} {D D' : Nat → Prop} {w : World} {ds : List DV} (h : DirO e D w ds) (hd : ∀ g, g < w.heap.size → D g → D' g) : DirO e D' w ds := fun i d hi => ⟨(h i d hi).1.mono hd, (h i d hi).2⟩
theorem wds_rep {F : Nat → Prop} {w : World} {n : Nat} : WdsAt F w (List.replicate n sz) := fun s hs => by
  have : s = sz := (List.mem_replicate.1 hs).2
  subst this
  exact Sl.none
theorem xs_rep {i : Nat} : xsO (List.replicate 64 sz) i = 0 := by
  unfold xsO
  simp only [List.getD, List.getElem?_replicate]
  split <;> rfl
theorem WdsAt.set {F : Nat → Prop} {w : World} {l : List SV} {i : Nat} {s : SV} (h : WdsAt F w l) (hs : Sl encU 1 F w s.a s.c (wl s.x)) : WdsAt F w (l.set i s) := fun t ht => by
  rcases List.mem_or_eq_of_mem_set ht with ht | rfl
  · exact h t ht
  · exact hs
theorem cell_shut {ms : List Nat} {w : World} {p : Addr} {v : Value} (h : w.cell? p = some v) (hm : Mks w ms) : (shut w ms).cell? p = some v := by
  have hlt := World.block_lt_of_cell? w p (by rw [h])
  obtain ⟨o, ho⟩ : ∃ o, w.heap[p.block]? = some o := ⟨_, Array.getElem?_eq_getElem hlt⟩
  by_cases e : o = .deferred (some [])
  · subst e
    unfold World.cell? at h
    rw [ho] at h
    cases h
  · rw [World.cell?_of_block (w := w) (a := p) ((shut_heap hm ho e).trans ho.symm)]
    exact h
theorem At.shut {ms : List Nat} {w : World} {b off : Nat} {cs : List Value} (h : At w b off cs) (hm : Mks w ms) : At (shut w ms) b off cs := fun i v hi => cell_shut (h i v hi) hm
theorem shut_size : ∀ (ms : List Nat) (w : World), (shut w ms).heap.size = w.heap.size
  | [], _ => rfl
  | b :: r, w => (shut_size r _).trans (by simp [World.putObj])
theorem Sl.shut {α : Type} {enc : α → List Value} {k c : Nat} {F : Nat → Prop} {ms : List Nat} {w : World} {a : Option Addr} {l : List α} (h : Sl enc k F w a c l) (hm : Mks w ms) : Sl enc k F (shut w ms) a c l :=
  ⟨h.le, h.cap, h.nil, fun i x hi => by
    obtain ⟨b, off, h1, h2, h3, h4⟩ := h.el i x hi
    exact ⟨b, off, h1, ⟨h2.1, by rw [shut_size]; exact h2.2⟩, h3.shut hm, h4⟩⟩
theorem WdsAt.shut {F : Nat → Prop} {ms : List Nat} {w : World} {l : List SV} (h : WdsAt F w l) (hm : Mks w ms) : WdsAt F (shut w ms) l := fun s hs => (h s hs).shut hm
theorem ds_start (ps : List Pr) : ∀ b : Fin 64, ((List.replicate 64 dz).getD b.val dz).l = dlO (ps.take 0) b := fun b => by
  simp only [List.getD, List.getElem?_replicate]
  split <;> rfl
theorem memW_nodup (x : W64) : (memW x 64).Nodup := by
  unfold memW
  refine List.Pairwise.map _ (fun a b (h : a ≠ b) => fun e => h (by omega)) ?_
  exact List.Pairwise.filter _ List.nodup_range
theorem not_in_takeA {α : Type} {l : List α} (hn : l.Nodup) {j : Nat} {b : α} (h : l[j]? = some b) : b ∉ l.take j := by
  intro hm
  have h2 : (l.take (j + 1)).Nodup := hn.sublist (List.take_sublist _ _)
  rw [take_snoc h, List.nodup_append] at h2
  exact h2.2.2 b hm b (by simp) rfl
end Go.Lx
/- Links: what a list of pairs reaches; the closure of a set of roles, of a hierarchy and of the reference. Nothing of a program stands here. -/
namespace Go.Lx
open Go
set_option linter.unusedSimpArgs false
set_option linter.unusedVariables false
set_option linter.unnecessarySimpa false
theorem rch_congr {ps qs : List Pr} (h : ∀ x, x ∈ ps → x ∈ qs) {a b : Fin 64} (r : Rch ps a b) : Rch qs a b := by
  induction r with
  | one h1 => exact .one (h _ h1)
  | snoc _ h2 ih => exact .snoc ih (h _ h2)
theorem BelS.congr {ps qs : List Pr} (h : ∀ x, x ∈ ps ↔ x ∈ qs) {f : Nat → W64} (hb : BelS ps f) : BelS qs f := fun a c =>
  (hb a c).trans ⟨rch_congr fun x => (h x).1, rch_congr fun x => (h x).2⟩
theorem AboS.congr {ps qs : List Pr} (h : ∀ x, x ∈ ps ↔ x ∈ qs) {f : Nat → W64} (hb : AboS ps f) : AboS qs f := fun b c =>
  (hb b c).trans ⟨rch_congr fun x => (h x).1, rch_congr fun x => (h x).2⟩
theorem w64_ext {x y : W64} (h : ∀ c : Fin 64, x.getLsbD c.val = true ↔ y.getLsbD c.val = true) : x = y :=
  BitVec.eq_of_getLsbD_eq fun i hi => Bool.eq_iff_iff.2 (h ⟨i, hi⟩)
theorem setW_ex (p : Fin 64 → Prop) : ∃ x : W64, ∀ c : Fin 64, x.getLsbD c.val = true ↔ p c := by
  classical
  refine ⟨ofW (((List.finRange 64).filter fun c => decide (p c)).map iv), fun c => ?_⟩
  rw [ofW_get _ (by intro q hq; obtain ⟨a, _, rfl⟩ := List.mem_map.1 hq; exact iv_ge a)]
  rw [List.any_eq_true]
  constructor
  · rintro ⟨q, hq, e⟩
    obtain ⟨a, ha, rfl⟩ := List.mem_map.1 hq
    have : a = c := iv_inj.1 (by unfold iv at e ⊢; simpa using e)
    subst this
    simpa using (List.mem_filter.1 ha).2
  · intro h
    exact ⟨iv c, List.mem_map.2 ⟨c, List.mem_filter.2 ⟨List.mem_finRange c, by simpa using h⟩, rfl⟩, by simp [iv]⟩
def JunIs (L : List Pr) (r : Fin 64) (J : W64) : Prop := ∀ c : Fin 64, J.getLsbD c.val = true ↔ (c = r ∨ Rch L r c)
theorem JunIs.ex (L : List Pr) (r : Fin 64) : ∃ J, JunIs L r J := setW_ex _
theorem JunIs.uniq {L : List Pr} {r : Fin 64} {J K : W64} (h : JunIs L r J) (k : JunIs L r K) : J = K := w64_ext fun c => (h c).trans (k c).symm
def nxt (L : List Pr) (s : W64) : W64 := L.foldl (fun n x => if s.getLsbD x.1.val = true then n ||| oneW x.2.val else n) s
theorem nxt_aux (s : W64) (c : Fin 64) : ∀ (L : List Pr) (n : W64), (L.foldl (fun n x => if s.getLsbD x.1.val = true then n ||| oneW x.2.val else n) n).getLsbD c.val = true ↔ n.getLsbD c.val = true ∨ ∃ x ∈ L, s.getLsbD x.1.val = true ∧ x.2 = c
  | [], n => by simp
  | y :: L, n => by
    rw [List.foldl_cons, nxt_aux s c L]
    have e : (oneW y.2.val).getLsbD c.val = true ↔ y.2 = c := by
      rw [oneW_get _ _ y.2.isLt, decide_eq_true_eq]
      exact ⟨fun h => Fin.ext h.symm, fun h => by rw [h]⟩
    by_cases h : s.getLsbD y.1.val = true
    · rw [if_pos h, BitVec.getLsbD_or, Bool.or_eq_true, e]
      constructor
      · rintro ((h1 | h1) | ⟨x, h1, h2⟩)
        · exact .inl h1
        · exact .inr ⟨y, by simp, h, h1⟩
        · exact .inr ⟨x, by simp [h1], h2⟩
      · rintro (h1 | ⟨x, h1, h2, h3⟩)
        · exact .inl (.inl h1)
        · rcases List.mem_cons.1 h1 with rfl | h1
          · exact .inl (.inr h3)
          · exact .inr ⟨x, h1, h2, h3⟩
    · rw [if_neg h]
      constructor
      · rintro (h1 | ⟨x, h1, h2⟩)
        · exact .inl h1
        · exact .inr ⟨x, by simp [h1], h2⟩
      · rintro (h1 | ⟨x, h1, h2, h3⟩)
        · exact .inl h1
        · rcases List.mem_cons.1 h1 with rfl | h1
          · exact absurd h2 h
          · exact .inr ⟨x, h1, h2, h3⟩
theorem nxt_get (L : List Pr) (s : W64) (c : Fin 64) : (nxt L s).getLsbD c.val = true ↔ s.getLsbD c.val = true ∨ ∃ x ∈ L, s.getLsbD x.1.val = true ∧ x.2 = c := nxt_aux s c L s
structure JIn (L : List Pr) (r : Fin 64) (s : W64) : Prop where
  has : s.getLsbD r.val = true
  sub : ∀ c : Fin 64, s.getLsbD c.val = true → c = r ∨ Rch L r c
theorem JIn.start (L : List Pr) (r : Fin 64) : JIn L r (oneW r.val) := by
  have e : ∀ c : Fin 64, (oneW r.val).getLsbD c.val = true ↔ c = r := fun c => by
    rw [oneW_get _ _ r.isLt, decide_eq_true_eq]
    exact ⟨fun h => Fin.ext h, fun h => by rw [h]⟩
  exact ⟨(e r).2 rfl, fun c h => .inl ((e c).1 h)⟩
theorem JIn.next {L : List Pr} {r : Fin 64} {s : W64} (h : JIn L r s) : JIn L r (nxt L s) := by
  refine ⟨(nxt_get _ _ _).2 (.inl h.has), fun c hc => ?_⟩
  rcases (nxt_get _ _ _).1 hc with hc | ⟨x, h1, h2, rfl⟩
  · exact h.sub c hc
  · rcases h.sub x.1 h2 with e | h3
    · exact .inr (.one (by rw [← e]; exact h1))
    · exact .inr (.snoc h3 h1)
theorem JIn.done {L : List Pr} {r : Fin 64} {s : W64} (h : JIn L r s) (e : nxt L s = s) : JunIs L r s := fun c => by
  refine ⟨h.sub c, ?_⟩
  rintro (rfl | hr)
  · exact h.has
  · induction hr with
    | one h1 => rw [← e]; exact (nxt_get _ _ _).2 (.inr ⟨_, h1, h.has, rfl⟩)
    | snoc _ h2 ih => rw [← e]; exact (nxt_get _ _ _).2 (.inr ⟨_, h2, ih, rfl⟩)
def ClosTo (L : List Pr) (s : W64) (k : Nat) (C : W64) : Prop := ∀ c : Fin 64, C.getLsbD c.val = true ↔ ∃ r : Fin 64, 1 ≤ r.val ∧ r.val < k ∧ s.getLsbD r.val = true ∧ (c = r ∨ Rch L r c)
theorem ClosTo.uniq {L : List Pr} {s : W64} {k : Nat} {C D : W64} (h : ClosTo L s k C) (h' : ClosTo L s k D) : C = D := w64_ext fun c => (h c).trans (h' c).symm
theorem ClosTo.start (L : List Pr) (s : W64) : ClosTo L s 1 0 := fun c => by
  constructor
  · intro h; simp at h
  · rintro ⟨r, h1, h2, _⟩; omega
theorem ClosTo.no {L : List Pr} {s : W64} {k : Nat} {C : W64} (h : ClosTo L s k C) (hk : s.getLsbD k = false) : ClosTo L s (k + 1) C := fun c => by
  rw [h c]
  constructor
  · rintro ⟨r, h1, h2, h3⟩; exact ⟨r, h1, by omega, h3⟩
  · rintro ⟨r, h1, h2, h3, h4⟩
    have : r.val ≠ k := fun e => by rw [e, hk] at h3; cases h3
    exact ⟨r, h1, by omega, h3, h4⟩
theorem ClosTo.yes {L : List Pr} {s : W64} {k : Fin 64} {C J : W64} (h : ClosTo L s k.val C) (h1 : 1 ≤ k.val) (hk : s.getLsbD k.val = true) (hJ : JunIs L k J) : ClosTo L s (k.val + 1) (C ||| J) := fun c => by
  rw [BitVec.getLsbD_or, Bool.or_eq_true, h c, hJ c]
  constructor
  · rintro (⟨r, h1, h2, h3⟩ | h2)
    · exact ⟨r, h1, by omega, h3⟩
    · exact ⟨k, h1, by omega, hk, h2⟩
  · rintro ⟨r, h1, h2, h3, h4⟩
    rcases Nat.lt_or_ge r.val k.val with h5 | h5
    · exact .inl ⟨r, h1, h5, h3, h4⟩
    · have : r = k := Fin.ext (by omega)
      subst this
      exact .inr h4
structure HOk (o : OV) (L : List Pr) : Prop where
  n : o.n = 64
  ps : ∀ x, x ∈ o.pairs ↔ x ∈ L
  le : o.pairs.length ≤ L.length
  be : BelS L (xsO o.below)
  ab : AboS L (xsO o.above)
theorem HOk.jun {o : OV} {L : List Pr} (h : HOk o L) {r : Fin 64} (hr : 1 ≤ r.val) : JunIs L r (junO o r.val) := fun c => by
  have h1 := r.isLt
  unfold junO belO
  rw [if_pos ⟨by omega, by omega⟩, if_pos ⟨by omega, by rw [h.n]; omega⟩, Int.toNat_natCast, BitVec.getLsbD_or, Bool.or_eq_true, oneW_get _ _ h1, decide_eq_true_eq]
  show (xsO o.below r.val).getLsbD c.val = true ∨ _ ↔ _
  rw [h.be r c]
  constructor
  · rintro (h2 | h2)
    · exact .inr h2
    · exact .inl (Fin.ext h2)
  · rintro (rfl | h2)
    · exact .inr rfl
    · exact .inl h2
theorem closH_get (H : Option OV) (c : Fin 64) : ∀ (l : List Int) (x : W64), (l.foldl (fun x r => x ||| junH H r) x).getLsbD c.val = true ↔ x.getLsbD c.val = true ∨ ∃ r ∈ l, (junH H r).getLsbD c.val = true
  | [], x => by simp
  | y :: l, x => by
    rw [List.foldl_cons, closH_get H c l, BitVec.getLsbD_or, Bool.or_eq_true]
    constructor
    · rintro ((h | h) | ⟨r, h1, h2⟩)
      · exact .inl h
      · exact .inr ⟨y, by simp, h⟩
      · exact .inr ⟨r, by simp [h1], h2⟩
    · rintro (h | ⟨r, h1, h2⟩)
      · exact .inl (.inl h)
      · rcases List.mem_cons.1 h1 with rfl | h1
        · exact .inl (.inr h2)
        · exact .inr ⟨r, h1, h2⟩
def closW (o : OV) (s : W64) : W64 := closH (some o) (memW s 64)
theorem HOk.clos {o : OV} {L : List Pr} (h : HOk o L) (s : W64) : ClosTo L s 64 (closW o s) := fun c => by
  unfold closW closH
  rw [closH_get]
  constructor
  · rintro (h1 | ⟨r, h1, h2⟩)
    · simp at h1
    · obtain ⟨h3, h4⟩ := memW_ok s r h1
      obtain ⟨k, rfl⟩ : ∃ k : Fin 64, r = (k.val : Int) := ⟨⟨r.toNat, by omega⟩, by simp; omega⟩
      have h5 : 1 ≤ k.val := by
        rcases Nat.eq_zero_or_pos k.val with e | e
        · exfalso
          have : junH (some o) (k.val : Int) = 0 := by
            show junO o (k.val : Int) = 0
            unfold junO; rw [if_neg (by omega)]
          rw [this] at h2; simp at h2
        · exact e
      exact ⟨k, h5, k.isLt, (mem_val).1 h1, (h.jun h5 c).1 h2⟩
  · rintro ⟨r, h1, _, h3, h4⟩
    exact .inr ⟨(r.val : Int), mem_val.2 h3, (h.jun h1 c).2 h4⟩
section
variable {o : OV} {L : List Pr} (h : HOk o L)
include h
theorem HOk.mono {s t : W64} (hs : ∀ i, s.getLsbD i = true → t.getLsbD i = true) : subW (closW o s) (closW o t) = true := by
  refine sub_iff.2 fun i hi => ?_
  rcases Nat.lt_or_ge i 64 with hl | hl
  · obtain ⟨r, h1, h2, h3, h4⟩ := (h.clos s ⟨i, hl⟩).1 hi
    exact (h.clos t ⟨i, hl⟩).2 ⟨r, h1, h2, hs _ h3, h4⟩
  · rw [BitVec.getLsbD_of_ge _ _ hl] at hi; cases hi
end
structure LkOk (L : List Pr) (ρ : Fin 64 → Nat) : Prop where
  rk : ∀ x ∈ L, ρ x.1 < ρ x.2
  nd : L.Nodup
  po : ∀ x ∈ L, 1 ≤ x.1.val ∧ 1 ≤ x.2.val
theorem LkOk.nil (ρ : Fin 64 → Nat) : LkOk [] ρ := ⟨by simp, List.nodup_nil, by simp⟩
def InsP (L : List Pr) (x : Pr) (M : List Pr) : Prop := ∃ i, i ≤ L.length ∧ M = L.take i ++ x :: L.drop i
theorem InsP.mem {L M : List Pr} {x : Pr} (h : InsP L x M) (y : Pr) : y ∈ M ↔ y = x ∨ y ∈ L := by
  obtain ⟨i, _, rfl⟩ := h
  have e : y ∈ L ↔ y ∈ L.take i ∨ y ∈ L.drop i := by rw [← List.mem_append, List.take_append_drop]
  rw [e, List.mem_append, List.mem_cons]
  constructor
  · rintro (h | h | h)
    · exact .inr (.inl h)
    · exact .inl h
    · exact .inr (.inr h)
  · rintro (h | h | h)
    · exact .inr (.inl h)
    · exact .inl h
    · exact .inr (.inr h)
theorem InsP.len {L M : List Pr} {x : Pr} (h : InsP L x M) : M.length = L.length + 1 := by
  obtain ⟨i, hi, rfl⟩ := h
  simp; omega
theorem LkOk.ins {L M : List Pr} {ρ : Fin 64 → Nat} {x : Pr} (h : LkOk L ρ) (hi : InsP L x M) (hn : x ∉ L) (hr : ρ x.1 < ρ x.2) (hp : 1 ≤ x.1.val ∧ 1 ≤ x.2.val) : LkOk M ρ := by
  refine ⟨fun y hy => ?_, ?_, fun y hy => ?_⟩
  · rcases (hi.mem y).1 hy with rfl | hy
    · exact hr
    · exact h.rk y hy
  · obtain ⟨i, _, rfl⟩ := hi
    have e := h.nd
    rw [← List.take_append_drop i L, List.nodup_append] at e
    obtain ⟨e1, e2, e3⟩ := e
    rw [List.nodup_append, List.nodup_cons]
    refine ⟨e1, ⟨fun hx => hn (List.mem_of_mem_drop hx), e2⟩, fun a ha b hb => ?_⟩
    rcases List.mem_cons.1 hb with rfl | hb
    · rintro rfl; exact hn (List.mem_of_mem_take ha)
    · exact e3 a ha b hb
  · rcases (hi.mem y).1 hy with rfl | hy
    · exact hp
    · exact h.po y hy
theorem rch_single {a b x y : Fin 64} (h : a ≠ b) : Rch [(a, b)] x y ↔ x = a ∧ y = b := by
  constructor
  · intro hr
    cases hr with
    | one h1 =>
      simp at h1; exact h1
    | snoc h1 h2 =>
      simp at h2
      obtain ⟨rfl, rfl⟩ := h2
      exfalso
      cases h1 with
      | one h3 => simp at h3; exact h h3.2
      | snoc _ h3 => simp at h3; exact h h3.2
  · rintro ⟨rfl, rfl⟩; exact .one (by simp)
end Go.Lx
/- Orders and hierarchies as results; calls that make own slices in a region that draws. Nothing of a program stands here. -/
namespace Go.Lx
open Go Go.RowKit
set_option linter.unusedSimpArgs false
set_option linter.unusedVariables false
set_option linter.unnecessarySimpa false
theorem mem_comp {α : Type} [BEq α] [LawfulBEq α] (x : α) : ∀ (l acc : List α), x ∈ l.foldl compStep acc ↔ x ∈ acc ∨ x ∈ l
  | [], acc => by simp
  | y :: l, acc => by
    rw [List.foldl_cons, mem_comp x l]
    unfold compStep
    split
    · rename_i h
      have hy : y ∈ acc := List.mem_of_getLast? (by simpa using h)
      constructor
      · rintro (h1 | h1)
        · exact .inl h1
        · exact .inr (by simp [h1])
      · rintro (h1 | h1)
        · exact .inl h1
        · rcases List.mem_cons.1 h1 with rfl | h1
          · exact .inl hy
          · exact .inr h1
    · simp only [List.mem_append, List.mem_cons, List.not_mem_nil, or_false]
      exact or_assoc
theorem mem_compL {α : Type} [BEq α] [LawfulBEq α] (x : α) (l : List α) : x ∈ compL l ↔ x ∈ l := by
  unfold compL; rw [mem_comp]; simp
theorem comp_len {α : Type} [BEq α] : ∀ (l acc : List α), (l.foldl compStep acc).length ≤ acc.length + l.length
  | [], acc => by simp
  | y :: l, acc => by
    rw [List.foldl_cons]
    refine Nat.le_trans (comp_len l _) ?_
    unfold compStep
    split
    · simp
    · simp; omega
theorem compL_len {α : Type} [BEq α] (l : List α) : (compL l).length ≤ l.length := by
  have := comp_len l []
  simpa [compL] using this
theorem HOk.congr {o : OV} {L M : List Pr} (h : HOk o L) (hm : ∀ x, x ∈ L ↔ x ∈ M) (hl : L.length ≤ M.length) : HOk o M :=
  ⟨h.n, fun x => (h.ps x).trans (hm x), Nat.le_trans h.le hl, h.be.congr hm, h.ab.congr hm⟩
section
variable {α : Type} {enc : α → List Value} {s : Nat} {e : TypeId} {β : Prop} {P : Program} {ops : Array Oper} {o : Oper} {fr : Fr} {w : World} {c : Nat → Nat} {f : FuncId} {args : Array Value} {l : List α} {kc : Nat}
theorem OpC_own (hg : o.guard = none) (h : xop P fr w o = .ok (.enter f args) w) (hk : Ok P f args w fun v' w' => Own enc s e (Fsh w w') w' v' l ∧ Ext β w w') (hd : o.dst.isSome = true := by rfl) : OpC β kc P ops o fr w c (postOwn enc s e kc l) :=
  .inl ⟨by simp [Region.wanted, hg], .inr ⟨f, args, w, h, hd, hk.mono fun v' w' ⟨h1, x⟩ => ⟨newC c w kc, StepC.ext x fun _ hb => newC_old hb, h1.mono fun b _ hb => newC_new hb.1⟩⟩⟩
end
def KeepS (S : (Nat → Prop) → Value → World → Prop) : Prop := ∀ (F : Nat → Prop) (v : Value) (γ : Prop) (D : Nat → Prop) (w w' : World), Bel γ D w w' → (∀ b, b < w.heap.size → F b → ¬ D b) → S F v w → S F v w'
def postW (S : (Nat → Prop) → Value → World → Prop) : PostC := fun v w c => ∃ F, (∀ b, F b → b < w.heap.size ∧ c b = 0) ∧ S F v w
theorem postW_stable {S : (Nat → Prop) → Value → World → Prop} {kc : Nat} (hS : KeepS S) : StableC kc (postW S) := by
  intro v w c w' c' q hq hx ⟨F, hF, hr⟩
  refine ⟨F, fun b hb => ⟨Nat.lt_of_lt_of_le (hF b hb).1 hx.bel.size, (hx.col b (hF b hb).1).trans (hF b hb).2⟩, hS _ _ _ _ _ _ hx.bel (fun b _ hb hd => hd.1 ?_) hr⟩
  rw [← hd.2]; exact (hF b hb).2
theorem OpC_W {S : (Nat → Prop) → Value → World → Prop} {β : Prop} {k : Nat} {P : Program} {ops : Array Oper} {o : Oper} {fr : Fr} {w : World} {c : Nat → Nat} {f : FuncId} {args : Array Value} (hg : o.guard = none) (h : xop P fr w o = .ok (.enter f args) w) (hk : Ok P f args w fun v' w' => S (Fsh w w') v' w' ∧ Ext β w w') (hd : o.dst.isSome = true := by rfl) : OpC β k P ops o fr w c (postW S) :=
  .inl ⟨by simp [Region.wanted, hg], .inr ⟨f, args, w, h, hd, hk.mono fun _ w' ⟨a, b⟩ => ⟨newC c w 0, StepC.ext b fun _ hb => newC_old hb, Fsh w w', fun b hb => ⟨hb.2, newC_new hb.1⟩, a⟩⟩⟩
def OdRes (L : List Pr) (F : Nat → Prop) (v : Value) (w : World) : Prop := ∃ p o, v = .tuple #[.pointer (some ⟨p, 0, none⟩), .int .i64 0] ∧ OdAt F w p o ∧ HOk o L
def OdPtr (L : List Pr) (F : Nat → Prop) (v : Value) (w : World) : Prop := ∃ p o, v = .pointer (some ⟨p, 0, none⟩) ∧ OdAt F w p o ∧ HOk o L
theorem OdRes.keepS (L : List Pr) : KeepS (OdRes L) := fun F v γ D w w' x hd ⟨p, o, h1, h2, h3⟩ => ⟨p, o, h1, h2.keep x hd, h3⟩
theorem OdPtr.keepS (L : List Pr) : KeepS (OdPtr L) := fun F v γ D w w' x hd ⟨p, o, h1, h2, h3⟩ => ⟨p, o, h1, h2.keep x hd, h3⟩
def HyIs (w : World) (v : Value) (L : List Pr) : Prop := ∃ ph po o, v = .pointer (some ⟨ph, 0, none⟩) ∧ At w ph 0 [.pointer (some ⟨po, 0, none⟩)] ∧ OdAt (Lt w.heap.size) w po o ∧ HOk o L
theorem HyIs.ext {γ : Prop} {w w' : World} {v : Value} {L : List Pr} (h : HyIs w v L) (x : Ext γ w w') : HyIs w' v L :=
  let ⟨ph, po, o, h1, h2, h3, h4⟩ := h
  ⟨ph, po, o, h1, h2.keep x id, (h3.ext x).mono fun _ hb _ => hb, h4⟩
theorem HyIs.congr {w : World} {v : Value} {L M : List Pr} (h : HyIs w v L) (hm : ∀ x, x ∈ L ↔ x ∈ M) (hl : L.length ≤ M.length) : HyIs w v M :=
  let ⟨ph, po, o, h1, h2, h3, h4⟩ := h
  ⟨ph, po, o, h1, h2, h3, h4.congr hm hl⟩
theorem Rd.keepS {α : Type} (enc : α → List Value) (k : Nat) (p : List α → Prop) : KeepS fun F v w => ∃ l, Rd enc k F w v l ∧ p l := fun F v γ D w w' x hd ⟨l, h1, h2⟩ => ⟨l, h1.keep x hd, h2⟩
def LkP (L : List Pr) (x : Pr) (M : List Pr) : Prop := x ∈ L ∧ M = L ∨ x ∉ L ∧ InsP L x M
def LkRes (L : List Pr) (x : Pr) (F : Nat → Prop) (v : Value) (w : World) : Prop := ∃ u M e, v = .tuple #[u, .int .i64 e] ∧ Rd encPr 2 F w u M ∧ LkP L x M
theorem LkRes.keepS (L : List Pr) (x : Pr) : KeepS (LkRes L x) := fun F v γ D w w' x hd ⟨u, M, e, h1, h2, h3⟩ => ⟨u, M, e, h1, h2.keep x hd, h3⟩
theorem LkP.ok {L M : List Pr} {x : Pr} {ρ : Fin 64 → Nat} (h : LkOk L ρ) (hp : LkP L x M) (hr : ρ x.1 < ρ x.2) (hq : 1 ≤ x.1.val ∧ 1 ≤ x.2.val) : LkOk M ρ ∧ M.length ≤ L.length + 1 := by
  rcases hp with ⟨_, rfl⟩ | ⟨hn, hi⟩
  · exact ⟨h, by omega⟩
  · exact ⟨h.ins hi hn hr hq, by rw [hi.len]; omega⟩
def HyRes (L : List Pr) (v : Value) (w : World) : Prop := ∃ u, v = .tuple #[u, .int .i64 0] ∧ HyIs w u L
section
variable {P : Program} {fr : Fr} {w : World} {d : Option Nat} {t : TypeId} {ps : String} {af : Array Edge} {g : Option (Nat × Bool)}
theorem o_convU {T U : TypeId} {x : Operand} {a : W64} {n : Nat} (hP : P.underlying T = some (.int .u64)) (hP' : P.underlying U = some (.int .i64)) (hx : ev fr x = u64 a) (hn : a.toNat = n) (hl : n < 9223372036854775808) : xop P fr w ⟨d, .convert T U x, t, ps, af, g⟩ = .ok (.value (.int .i64 (n : Int))) w := by
  have h := o_conv (w := w) (d := d) (t := t) (ps := ps) (af := af) (g := g) (k' := .i64) hP hP' hx
  have e : IntKind.i64.wrap (a.toNat : Int) = (n : Int) := by rw [hn]; exact wrap_in (by unfold I64; omega)
  rw [e] at h
  exact h
end
section
variable {α : Type} {enc : α → List Value} {k : Nat} {F : Nat → Prop} {P : Program} {fr : Fr} {w : World} {d : Option Nat} {t : TypeId} {ps : String} {af : Array Edge} {g : Option (Nat × Bool)} {a : Option Addr} {c i m : Nat} {l : List α} {y : α} {T : TypeId} {x z : Operand}
end
theorem o_slfrom2 {P : Program} {fr : Fr} {w : World} {d : Option Nat} {t e T : TypeId} {ps : String} {af : Array Edge} {g : Option (Nat × Bool)} {x y : Operand} {a : Option Addr} {m c s j : Nat} (hP : P.underlying T = some (.slice e)) (hs : ∀ w, (sizeOf e).run P w = .ok s w) (hx : ev fr x = .slice a m c) (hj : ev fr y = .int .i64 (j : Int)) (hl : j ≤ m) (hc : m ≤ c) :
    xop P fr w ⟨d, .slice T x (some y) none none, t, ps, af, g⟩ = .ok (.value (.slice (if c = j then a else elp a (j * s)) (m - j) (c - j))) w := by
  rcases Nat.lt_or_ge j c with h | h
  · rw [if_neg (by omega)]; exact o_sfromO hP hs hx hj hl h
  · obtain rfl : c = j := by omega
    obtain rfl : m = c := by omega
    rw [if_pos rfl]
    simp [xop, execOp, hx, hj, Instr.slice, Instr.sliceAt, Instr.sliceBounds, Instr.sliceBound, asIntOf, run_underlying hP, hs, elp]
theorem o_convV {P : Program} {fr : Fr} {w : World} {d : Option Nat} {t : TypeId} {ps : String} {af : Array Edge} {g : Option (Nat × Bool)} {T U : TypeId} {x : Operand} {n : Nat} (hP : P.underlying T = some (.int .i64)) (hP' : P.underlying U = some (.int .u64)) (hx : ev fr x = .int .i64 (n : Int)) (hl : n < 18446744073709551616) : xop P fr w ⟨d, .convert T U x, t, ps, af, g⟩ = .ok (.value (u64 (BitVec.ofNat 64 n))) w := by
  have h := o_conv (w := w) (d := d) (t := t) (ps := ps) (af := af) (g := g) (k' := .u64) hP hP' hx
  rw [wrapU'] at h
  exact h
def SvIs (e : W64) (F : Nat → Prop) (v : Value) (w : World) : Prop := ∃ a c, v = .agg (encSV ⟨a, c, e⟩).toArray ∧ Sl encU 1 F w a c (wl e)
theorem SvIs.keepS (e : W64) : KeepS (SvIs e) := fun F v γ D w w' x hd ⟨a, c, h1, h2⟩ => ⟨a, c, h1, h2.keep x hd⟩
def postBoxK (w0 : World) (T : TypeId) (cs : List Value) (kc : Nat) : PostC := fun v w c => ∃ b, v = .pointer (some ⟨b, 0, none⟩) ∧ w0.heap.size ≤ b ∧ Box w b T cs ∧ c b = kc
theorem postBoxK_stable {w0 : World} {T : TypeId} {cs : List Value} {kc : Nat} : StableC kc (postBoxK w0 T cs kc) := by
  rintro v w c w' c' q hq hx ⟨b, h1, h2, h3, h4⟩
  exact ⟨b, h1, h2, h3.keep hx.bel fun hd => hq.elim hd.1 (fun h => h (by rw [← hd.2]; exact h4)), (hx.col b h3.lt).trans h4⟩
theorem OpC_boxK {β : Prop} {P : Program} {fr : Fr} {w w0 : World} {c : Nat → Nat} {ops : Array Oper} {kc : Nat} {T : TypeId} {z : Value} {o : Oper} (hw : w0.heap.size ≤ w.heap.size) (hg : o.guard = none) (h : xop P fr w o = .ok (.value (.pointer (some ⟨w.heap.size, 0, none⟩))) (w.alloc (.cells z.cells T))) (hd : o.dst.isSome = true := by rfl) : OpC β kc P ops o fr w c (postBoxK w0 T z.cells.toList kc) :=
  .inl ⟨by simp [Region.wanted, hg], .inl ⟨_, _, newC c w kc, .inl ⟨h, hd⟩, StepC.ext (Ext.alloc _ _) fun _ hb => newC_old hb, w.heap.size, rfl, hw, Box.alloc w z.cells T, newC_new (Nat.le_refl _)⟩⟩
theorem OpC_storeLk {β : Prop} {P : Program} {fr : Fr} {w w0 : World} {c : Nat → Nat} {ops : Array Oper} {ty : TypeId} {pos : String} {after : Array Edge} {kc s b m : Nat} {U T : TypeId} {y : Operand} {cs : List Value} {v : Value} (h0 : kc ≠ 0) (hs : ∀ w, (sizeOf U).run P w = .ok m w) (hx : ev fr (.tmp s) = .pointer (some ⟨b, 0, none⟩)) (hy : ev fr y = v) (hn : w0.heap.size ≤ b) (hb : Box w b T cs) (hc : c b = kc) (hv : v.cells.toList.length = m) (h1 : oneL v.cells.toList = true) (hle : v.cells.toList.length = cs.length) :
    OpC β kc P ops ⟨none, .store U (.tmp s) y, ty, pos, after, none⟩ fr w c (postBoxK w0 T v.cells.toList kc) := by
  have h := OpC_storeW (β := β) (ops := ops) (ty := ty) (pos := pos) (after := after) (x := .tmp s) h0 hs hx hy hb hc hv h1 hle
  have hl : lkV ⟨none, .store U (.tmp s) y, ty, pos, after, none⟩ fr = .pointer (some ⟨b, 0, none⟩) := hx
  rcases h with ⟨hw, ⟨u, w', c', hr, hx2, hS⟩ | ⟨f, args, w1, hr, hd, _⟩⟩ | ⟨hw, _⟩
  · refine .inl ⟨hw, .inl ⟨lkV ⟨none, .store U (.tmp s) y, ty, pos, after, none⟩ fr, w', c', ?_, hx2, ?_⟩⟩
    · rcases hr with ⟨_, hd⟩ | ⟨hr, _⟩
      · cases hd
      · exact .inr ⟨hr, rfl⟩
    · rw [hl]
      exact ⟨b, rfl, hn, hS.1, hS.2⟩
  · cases hd
  · cases hw
end Go.Lx
