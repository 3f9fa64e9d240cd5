/- Several texts in one file. -/
import Derived.Test.YtjnjalalkbamkaaGreatDoorCb
import Derived.Test.YtjnjalalkbamkaaGreatDoorOwn
import Derived.Test.YtjnjalalkbamkaaGreatDoorLk
import Derived.Test.YtjnjalalkbamkaaGreatDoorRg
import Derived.Test.YtjnjalalkbamkaaGreatDoorOwn2
import Derived.Maps.RangeRun
import Derived.WalkSpells
import Derived.Test.YtjnjalalkbamkaaGreatDoorDrawC
import Derived.Test.YtjnjalalkbamkaaGreatDoorRng
set_option linter.unusedSimpArgs false
set_option linter.unusedVariables false
set_option linter.unnecessarySimpa false
set_option linter.unusedSectionVars false
/- A book of sessions in memory, the program's and the reference's. Nothing of a program stands here. -/
namespace Go.Lx
open Go Go.RowKit
structure SE where
 n : Int
 u : Int
 a : Option Addr
 c : Nat
 x : W64
def encSe (s : SE) : List Value := [.int .i64 s.n, .int .i64 s.u, .slice s.a (wl s.x).length s.c]
theorem encSe_ok : EncOk encSe 3 := ⟨by decide, fun _ => rfl, fun x u hu => by
 simp [encSe] at hu
 rcases hu with rfl | rfl | rfl <;> rfl⟩
def SE.rs (s : SE) : RS := ⟨s.n, s.u, s.x⟩
def SesAt (F : Nat → Prop) (w : World) (l : List SE) : Prop := ∀ s ∈ l, Sl encU 1 F w s.a s.c (wl s.x)
structure BV where
 ap : Option Addr
 cp : Nat
 l : List SE
structure BkAt (F : Nat → Prop) (w : World) (p : Nat) (b : BV) : Prop where
 blk : F p
 at' : At w p 0 [.slice b.ap b.l.length b.cp]
 sl : Sl encSe 3 F w b.ap b.cp b.l
 ws : SesAt F w b.l
def BV.m (b : BV) : List RS := b.l.map SE.rs
section
variable {F F' D : Nat → Prop} {γ : Prop} {w w' : World} {p : Nat} {b : BV} {l : List SE}
theorem SesAt.keep (h : SesAt F w l) (x : Bel γ D w w') (hd : ∀ b, b < w.heap.size → F b → ¬ D b) : SesAt F w' l := fun s hs => (h s hs).keep x hd
theorem SesAt.mono (h : SesAt F w l) (hd : ∀ b, b < w.heap.size → F b → F' b) : SesAt F' w l := fun s hs => (h s hs).mono hd
theorem SesAt.ext (h : SesAt F w l) (x : Ext γ w w') : SesAt F w' l := fun s hs => (h s hs).ext x
theorem SesAt.nil : SesAt F w [] := fun s hs => by cases hs
theorem SesAt.cons {s : SE} (h : Sl encU 1 F w s.a s.c (wl s.x)) (k : SesAt F w l) : SesAt F w (s :: l) := fun t ht => by
 rcases List.mem_cons.1 ht with rfl | ht
 ·exact h
 ·exact k t ht
theorem SesAt.sub {r : List SE} (h : SesAt F w l) (hs : ∀ s ∈ r, s ∈ l) : SesAt F w r := fun s h1 => h s (hs s h1)
theorem SesAt.set {s : SE} {i : Nat} (h : SesAt F w l) (hs : Sl encU 1 F w s.a s.c (wl s.x)) : SesAt F w (l.set i s) := fun t ht => by
 rcases List.mem_or_eq_of_mem_set ht with ht | rfl
 ·exact h t ht
 ·exact hs
theorem BkAt.lt (h : BkAt F w p b) : p < w.heap.size := h.at'.lt
theorem BkAt.keep (h : BkAt F w p b) (x : Bel γ D w w') (hd : ∀ b, b < w.heap.size → F b → ¬ D b) : BkAt F w' p b :=
 ⟨h.blk, h.at'.keep x (hd p h.lt h.blk), h.sl.keep x hd, h.ws.keep x hd⟩
theorem BkAt.ext (h : BkAt F w p b) (x : Ext γ w w') : BkAt F w' p b := h.keep x fun _ _ _ => id
theorem BkAt.mono (h : BkAt F w p b) (hd : ∀ b, b < w.heap.size → F b → F' b) : BkAt F' w p b :=
 ⟨hd p h.lt h.blk, h.at', h.sl.mono hd, h.ws.mono hd⟩
theorem BkAt.top (h : BkAt F w p b) : BkAt (Lt w.heap.size) w p b := h.mono fun _ hb _ => hb
end
def BkIs (w : World) (v : Value) (m : List RS) : Prop := ∃ p b, v = .pointer (some ⟨p, 0, none⟩) ∧ BkAt (Lt w.heap.size) w p b ∧ b.m = m
theorem BV.mlen (b : BV) : b.m.length = b.l.length := List.length_map ..
def BkP (w : World) (p : Value) (e : Int) (m : List RS) : Prop := (e = 0 → BkIs w p m) ∧ (e ≠ 0 → p = .pointer none)
theorem BkIs.ext {γ : Prop} {w w' : World} {v : Value} {m : List RS} (h : BkIs w v m) (x : Ext γ w w') : BkIs w' v m :=
 let ⟨p, b, h1, h2, h3⟩ := h
 ⟨p, b, h1, (h2.ext x).top, h3⟩
theorem BkP.ext {γ : Prop} {w w' : World} {p : Value} {e : Int} {m : List RS} (h : BkP w p e m) (x : Ext γ w w') : BkP w' p e m := ⟨fun he => (h.1 he).ext x, h.2⟩
theorem BkAt.is {F : Nat → Prop} {w : World} {p : Nat} {b : BV} (h : BkAt F w p b) : BkIs w (.pointer (some ⟨p, 0, none⟩)) b.m := ⟨p, b, rfl, h.top, rfl⟩
theorem bk_new {w : World} {p : Nat} {T : TypeId} {a : Option Addr} {c k : Nat} {l : List SE} {D : Nat → Prop} {F : Nat → Prop} {e : TypeId} {m : List RS} (hb : Box w p T [.slice a k c]) (hk : k = l.length) (ho : Own encSe 3 e D w (.slice a k c) l) (hs : SesAt F w l) (hm : l.map SE.rs = m) : BkIs w (.pointer (some ⟨p, 0, none⟩)) m := by
 subst hk
 exact ⟨p, ⟨a, c, l⟩, rfl, ⟨hb.lt, hb.at, (ho.slA encSe_ok).top, hs.mono fun _ h _ => h⟩, hm⟩
theorem SesAt.top {F : Nat → Prop} {w : World} {l : List SE} (h : SesAt F w l) : SesAt (Lt w.heap.size) w l := h.mono fun _ hb _ => hb
end Go.Lx
/- What the reference's states are made of, as far as the statements about sets of ops look at them. Nothing of a program stands here. -/
namespace Go.Lx
open Go Go.RowKit
structure E12 where
 u : Int
 r : Int
 t : Int
 deriving DecidableEq
def encA12 (e : E12) : List Value := [.int .i64 e.u, .int .i64 e.r, .int .i64 e.t]
structure F18 where
 o : Int
 n : Int
 a : Option Addr
 m : Nat
 c : Nat
 a2 : Option Addr
 m2 : Nat
 c2 : Nat
structure C18 where
 e : Bool
 k : Int
 s : Str
 f : F18
structure R23 where
 rv : Bool
 ad : Int
 tg : Int
 y : W64
 n : W64
 a : Option Addr
 m : Nat
 c : Nat
 lg : Int
def Byt (F : Nat → Prop) (w : World) (b : Nat) (T : TypeId) (N : Nat) : Prop := ∃ a c l n, Box w b T [.slice a (l : List UInt8).length c, .int .i64 ((n : Nat) : Int)] ∧ n ≤ N ∧ Sl encB 1 F w a c l
section
variable {F : Nat → Prop} {w w' : World} {b N : Nat} {T : TypeId}
theorem Byt.keep {γ : Prop} {D : Nat → Prop} (h : Byt F w b T N) (x : Bel γ D w w') (hb : ¬ D b) (hF : ∀ g, g < w.heap.size → F g → ¬ D g) : Byt F w' b T N :=
 let ⟨a, c, l, n, h1, h2, h3⟩ := h
 ⟨a, c, l, n, h1.keep x hb, h2, h3.keep x hF⟩
theorem Byt.ext {γ : Prop} (h : Byt F w b T N) (x : Ext γ w w') : Byt F w' b T N := h.keep x id fun _ _ _ h => h
theorem Byt.up {M : Nat} (h : Byt F w b T N) (hn : N ≤ M) : Byt F w b T M :=
 let ⟨a, c, l, n, h1, h2, h3⟩ := h
 ⟨a, c, l, n, h1, Nat.le_trans h2 hn, h3⟩
theorem Byt.lt (h : Byt F w b T N) : b < w.heap.size := let ⟨_, _, _, _, h1, _, _⟩ := h; h1.lt
end
theorem pz_ok : pz.ok := ⟨by decide, by decide⟩
abbrev stC (d : Int) (U R : Value) (ad : W64) (L M G X Y Z : Value) : List Value := [.int .i64 d, U, R, u64 ad, L, M, G, X, Y, Z]
def StIs (F : Nat → Prop) (w : World) (v : Value) : Prop := ∃ U R ad X Y Z aL cL L aM cM M aG cG G, v = .agg (stC 10 U R ad (.slice aL (L : List Pr).length cL) (.slice aM (M : List E12).length cM) (.slice aG (G : List Ent).length cG) X Y Z).toArray ∧
 Sl encPr 2 F w aL cL L ∧ Sl encA12 3 F w aM cM M ∧ Sl encE 4 F w aG cG G ∧ OkG G ∧ L.length ≤ 10000 ∧ M.length ≤ 10000
theorem StIs.keep {γ : Prop} {F D : Nat → Prop} {w w' : World} {v : Value} (h : StIs F w v) (x : Bel γ D w w') (hd : ∀ b, b < w.heap.size → F b → ¬ D b) : StIs F w' v :=
 let ⟨U, R, ad, X, Y, Z, aL, cL, L, aM, cM, M, aG, cG, G, h1, h2, h3, h4, h5⟩ := h
 ⟨U, R, ad, X, Y, Z, aL, cL, L, aM, cM, M, aG, cG, G, h1, h2.keep x hd, h3.keep x hd, h4.keep x hd, h5⟩
theorem StIs.ext {γ : Prop} {F : Nat → Prop} {w w' : World} {v : Value} (h : StIs F w v) (x : Ext γ w w') : StIs F w' v := h.keep x fun _ _ _ h => h
theorem StIs.mono {F F' : Nat → Prop} {w : World} {v : Value} (h : StIs F w v) (hd : ∀ b, b < w.heap.size → F b → F' b) : StIs F' w v :=
 let ⟨U, R, ad, X, Y, Z, aL, cL, L, aM, cM, M, aG, cG, G, h1, h2, h3, h4, h5⟩ := h
 ⟨U, R, ad, X, Y, Z, aL, cL, L, aM, cM, M, aG, cG, G, h1, h2.mono hd, h3.mono hd, h4.mono hd, h5⟩
structure RawO where
 add : Bool
 old : Bool
 k : UInt8
 a : UInt8
 b : UInt8
 u : UInt8
section
variable {P : Program} {fr : Fr} {w : World} {d : Option Nat} {t : TypeId} {ps : String} {af : Array Edge} {g : Option (Nat × Bool)} {x y : Operand} {T U : TypeId} {k : IntKind} {a n : Nat}
end
end Go.Lx
/- Maps with keys of a basic type: what a block holds, in the order of its entries; look-up, store, length, deletion, and a range in whatever order. Nothing of a program stands here. -/
namespace Go.Lx
open Go Go.RowKit Go.MapKept Go.ChangeMaps
structure KeyEnc {κ : Type} (d : TypeDesc) (ek : κ → Value) : Prop where
 key : ∀ k, IsKey d (ek k)
 inj : ∀ a b, ek a = ek b → a = b
theorem str_key : KeyEnc .string str := ⟨fun _ => trivial, fun a b h => by simp [str] at h; exact h⟩
section
variable {κ α : Type} [DecidableEq κ]
def rowM (ek : κ → Value) (em : α → Value) (l : List (κ × α)) : List (Value × Value) := l.map fun p => (ek p.1, em p.2)
def entM (es : List MapEntry) : List (Value × Value) := es.map fun e => (e.key, e.val)
def Mp (ek : κ → Value) (em : α → Value) (w : World) (b : Nat) (l : List (κ × α)) : Prop :=
 ∃ es clock, w.heap[b]? = some (.map es clock) ∧ Stamped es clock ∧ entM es.toList = rowM ek em l
def It (ek : κ → Value) (em : α → Value) (w : World) (r b : Nat) (l left : List (κ × α)) (cur : Option (κ × α)) : Prop :=
 ∃ es clock seen, w.heap[b]? = some (.map es clock) ∧ Stamped es clock ∧ entM es.toList = rowM ek em l ∧ w.heap[r]? = some (.mapIter (some b) clock seen clock) ∧ entM (leftOf es seen).toList = rowM ek em left ∧
  ∀ p, cur = some p → ∃ e ∈ es.toList, (e.key, e.val) = (ek p.1, em p.2) ∧ ∃ s0 : Array Nat, seen = s0.push e.born
def getM (l : List (κ × α)) (k : κ) : Option α := (l.find? fun p => decide (p.1 = k)).map (·.2)
def putM (l : List (κ × α)) (k : κ) (a : α) : List (κ × α) := if l.any (fun p => decide (p.1 = k)) then l.map (fun p => if p.1 = k then (k, a) else p) else l ++ [(k, a)]
variable {ek : κ → Value} {em : α → Value} {w w' : World} {b r : Nat} {l left : List (κ × α)} {cur : Option (κ × α)}
theorem Mp.lt (h : Mp ek em w b l) : b < w.heap.size := let ⟨_, _, h1, _⟩ := h; (Array.getElem?_eq_some_iff.1 h1).1
theorem Mp.keep {γ : Prop} {D : Nat → Prop} (h : Mp ek em w b l) (x : Bel γ D w w') (hd : ¬ D b) : Mp ek em w' b l := by
 have hl := h.lt
 obtain ⟨es, c, h1, h2, h3⟩ := h
 exact ⟨es, c, by rw [x.block b hl hd]; exact h1, h2, h3⟩
theorem Mp.ext {γ : Prop} (h : Mp ek em w b l) (x : Ext γ w w') : Mp ek em w' b l := h.keep x id
theorem It.lt (h : It ek em w r b l left cur) : r < w.heap.size := let ⟨_, _, _, _, _, _, h1, _⟩ := h; (Array.getElem?_eq_some_iff.1 h1).1
theorem It.mp (h : It ek em w r b l left cur) : Mp ek em w b l := let ⟨es, c, _, h1, h2, h3, _⟩ := h; ⟨es, c, h1, h2, h3⟩
theorem It.keep {γ : Prop} {D : Nat → Prop} (h : It ek em w r b l left cur) (x : Bel γ D w w') (hd : ¬ D r) (hd' : ¬ D b) : It ek em w' r b l left cur := by
 have hl := h.lt
 have hl' := h.mp.lt
 obtain ⟨es, c, s, h1, h2, h3, h4, h5⟩ := h
 exact ⟨es, c, s, by rw [x.block b hl' hd']; exact h1, h2, h3, by rw [x.block r hl hd]; exact h4, h5⟩
theorem It.ext {γ : Prop} (h : It ek em w r b l left cur) (x : Ext γ w w') : It ek em w' r b l left cur := h.keep x id id
theorem entM_keys {es : List MapEntry} (h : entM es = rowM ek em l) : es.map (·.key) = l.map fun p => ek p.1 := by
 have := congrArg (List.map Prod.fst) h
 simpa [entM, rowM, List.map_map, Function.comp_def] using this
theorem keys_is {d : TypeDesc} (he : KeyEnc d ek) {es : List MapEntry} (h : entM es = rowM ek em l) : ∀ x ∈ es, IsKey d x.key := by
 intro x hx
 have : x.key ∈ es.map (·.key) := List.mem_map.2 ⟨x, hx, rfl⟩
 rw [entM_keys h] at this
 obtain ⟨p, _, e⟩ := List.mem_map.1 this
 rw [← e]; exact he.key p.1
theorem ent_get {es : List MapEntry} (h : entM es = rowM ek em l) {j : Nat} {e : MapEntry} (hj : es[j]? = some e) : ∃ p, l[j]? = some p ∧ e.key = ek p.1 ∧ e.val = em p.2 := by
 have h1 : (entM es)[j]? = some (e.key, e.val) := by simp [entM, hj]
 rw [h] at h1
 simp only [rowM, List.getElem?_map] at h1
 cases hp : l[j]? with
 | none => simp [hp] at h1
 | some p =>
  simp [hp] at h1
  exact ⟨p, rfl, h1.1.symm, h1.2.symm⟩
theorem keys_nd {d : TypeDesc} (he : KeyEnc d ek) {es : Array MapEntry} {c : Nat} (hs : Stamped es c) (h : entM es.toList = rowM ek em l) : (l.map (·.1)).Nodup := by
 have h3 := hs.2.2
 rw [entM_keys h] at h3
 have : (l.map (·.1)).map ek = l.map fun p => ek p.1 := by simp [List.map_map, Function.comp_def]
 rw [← this] at h3
 exact (List.pairwise_map.1 h3).imp fun hne e => hne (by rw [e])
theorem Mp.nd {d : TypeDesc} (he : KeyEnc d ek) (h : Mp ek em w b l) : (l.map (·.1)).Nodup := let ⟨_, _, _, h2, h3⟩ := h; keys_nd he h2 h3
theorem find_cases {d : TypeDesc} (he : KeyEnc d ek) {es : List MapEntry} (h : entM es = rowM ek em l) (k : κ) :
  (Instr.findNow d (ek k) es 0 = some none ∧ (∀ p ∈ l, p.1 ≠ k) ∧ ∀ x ∈ es, x.key ≠ ek k) ∨ ∃ j e a, Instr.findNow d (ek k) es 0 = some (some (j, e.val)) ∧ es[j]? = some e ∧ e.key = ek k ∧ e.val = em a ∧ l[j]? = some (k, a) := by
 rcases findNow_spec (he.key k) es 0 (keys_is he h) with ⟨h1, h2⟩ | ⟨j, e, h1, h2, h3⟩
 ·refine .inl ⟨h1, fun p hp e => ?_, h2⟩
  have : ek p.1 ∈ l.map fun p => ek p.1 := List.mem_map.2 ⟨p, hp, rfl⟩
  rw [← entM_keys h] at this
  obtain ⟨x, hx, ex⟩ := List.mem_map.1 this
  exact h2 x hx (by rw [ex, e])
 ·obtain ⟨p, hp, e1, e2⟩ := ent_get h h2
  have ek' : p.1 = k := he.inj _ _ (by rw [← e1, h3])
  refine .inr ⟨j, e, p.2, by simpa using h1, h2, h3, e2, ?_⟩
  rw [hp, ← ek']
theorem getM_no {k : κ} (h : ∀ p ∈ l, p.1 ≠ k) : getM l k = none := by
 unfold getM
 rw [List.find?_eq_none.2 (fun p hp => by simpa using h p hp)]; rfl
theorem getM_at {k : κ} {a : α} {j : Nat} (hn : (l.map (·.1)).Nodup) (h : l[j]? = some (k, a)) : getM l k = some a := by
 unfold getM
 have hm : (k, a) ∈ l := List.mem_of_getElem? h
 cases hf : l.find? fun p => decide (p.1 = k) with
 | none => exact absurd (List.find?_eq_none.1 hf _ hm) (by simp)
 | some q =>
  have hq := List.mem_of_find?_eq_some hf
  have hk := List.find?_some hf
  simp only [decide_eq_true_eq] at hk
  have : q = (k, a) := by
   have hinj := (List.pairwise_map.1 hn)
   obtain ⟨i, hi, ei⟩ := List.getElem_of_mem hq
   obtain ⟨j', hj', ej⟩ := List.getElem_of_mem hm
   rcases Nat.lt_trichotomy i j' with hlt | heq | hlt
   ·have := (List.pairwise_iff_getElem.1 hinj) i j' hi hj' hlt
    rw [ei, ej] at this; exact absurd hk this
   ·subst heq; rw [← ei, ← ej]
   ·have := (List.pairwise_iff_getElem.1 hinj) j' i hj' hi hlt
    rw [ei, ej] at this; exact absurd hk.symm this
  rw [this]; rfl
section
variable {P : Program} {fr : Fr} {d : Option Nat} {t : TypeId} {ps : String} {af : Array Edge} {g : Option (Nat × Bool)} {x y z : Operand} {T K E : TypeId} {D : TypeDesc} {k : κ} {a z0 : α}
theorem run_lookup {ok : Bool} (hT : P.underlying T = some (.map K E)) (hK : P.underlying K = some D) (he : KeyEnc D ek) (hz : ∀ w, (zeroValue E).run P w = .ok (em z0) w) (h : Mp ek em w b l) :
  (Instr.lookup T (.map (some b)) (ek k) ok).run P w = .ok (if ok then .tuple #[em ((getM l k).getD z0), .bool (getM l k).isSome] else em ((getM l k).getD z0)) w := by
 obtain ⟨es, c, h1, h2, h3⟩ := h
 have hck : ∀ e, (Instr.checkKey e 10000 K (ek k)).run P w = .ok () w := fun e => run_checkKey hK (he.key k) e 9999
 rcases find_cases he h3 k with ⟨f1, f2, _⟩ | ⟨j, e, a, f1, f2, f3, f4, f5⟩
 ·rw [getM_no f2]
  cases ok <;> simp [Instr.lookup, run_underlying hT, MapKept.run_getObj_map h1, hck, run_findKey hK f1, hz]
 ·rw [getM_at (keys_nd he h2 h3) f5]
  cases ok <;> simp [Instr.lookup, run_underlying hT, MapKept.run_getObj_map h1, hck, run_findKey hK f1, ← f4]
theorem o_lookup {ok : Bool} (hT : P.underlying T = some (.map K E)) (hK : P.underlying K = some D) (he : KeyEnc D ek) (hz : ∀ w, (zeroValue E).run P w = .ok (em z0) w) (h : Mp ek em w b l) (hx : ev fr x = .map (some b)) (hy : ev fr y = ek k) :
  xop P fr w ⟨d, .lookup T x y ok, t, ps, af, g⟩ = .ok (.value (if ok then .tuple #[em ((getM l k).getD z0), .bool (getM l k).isSome] else em ((getM l k).getD z0))) w := by
 have := run_lookup (ok := ok) (k := k) hT hK he hz h
 simp [xop, execOp, hx, hy, this]
end
theorem Bel.block1 {β : Prop} {b : Nat} (w : World) (o : Obj) : Bel β (Only b) w (setBlock w b o) :=
 ⟨rfl, rfl, rfl, by simp [setBlock], fun j _ hj => by simp only [setBlock]; rw [Array.getElem?_setIfInBounds_ne (fun e => hj e.symm)], fun _ => Nat.le_refl _⟩
theorem block1_same {w : World} {b : Nat} {o1 : Obj} (h : w.heap[b]? = some o1) (o : Obj) : (setBlock w b o).heap[b]? = some o := by
 have hl := (Array.getElem?_eq_some_iff.1 h).1
 simp [setBlock, hl]
theorem putM_no {k : κ} {a : α} (h : ∀ p ∈ l, p.1 ≠ k) : putM l k a = l ++ [(k, a)] := by
 unfold putM
 rw [if_neg]
 rw [List.any_eq_true]
 rintro ⟨p, hp, e⟩
 exact h p hp (by simpa using e)
theorem other_key {l : List (κ × α)} {k : κ} {a : α} {i j : Nat} (hn : (l.map (·.1)).Nodup) (h : l[j]? = some (k, a)) {p : κ × α} (hp : l[i]? = some p) (hij : i ≠ j) : p.1 ≠ k := by
 have hinj := List.pairwise_iff_getElem.1 (List.pairwise_map.1 hn)
 obtain ⟨hi, ei⟩ := List.getElem?_eq_some_iff.1 hp
 obtain ⟨hj, ej⟩ := List.getElem?_eq_some_iff.1 h
 intro e
 rcases Nat.lt_or_gt_of_ne hij with hlt | hlt
 ·have := hinj i j hi hj hlt
  rw [ei, ej] at this; exact this e
 ·have := hinj j i hj hi hlt
  rw [ei, ej] at this; exact this e.symm
theorem putM_at {k : κ} {a0 a : α} {j : Nat} (hn : (l.map (·.1)).Nodup) (h : l[j]? = some (k, a0)) : putM l k a = l.set j (k, a) := by
 unfold putM
 rw [if_pos (List.any_eq_true.2 ⟨(k, a0), List.mem_of_getElem? h, by simp⟩)]
 apply List.ext_getElem?
 intro i
 rw [List.getElem?_map, List.getElem?_set]
 by_cases hij : j = i
 ·subst hij
  have hj := (List.getElem?_eq_some_iff.1 h).1
  rw [h]; simp [hj]
 ·rw [if_neg hij]
  cases hp : l[i]? with
  | none => rfl
  | some p =>
   have := other_key hn h hp (fun e => hij e.symm)
   simp [this]
theorem entM_modify {es : Array MapEntry} {j : Nat} {f : MapEntry → MapEntry} {e : MapEntry} (h : es[j]? = some e) : entM (es.modify j f).toList = (entM es.toList).set j ((f e).key, (f e).val) := by
 apply List.ext_getElem?
 intro i
 simp only [entM, List.getElem?_map, Array.getElem?_toList, Array.getElem?_modify, List.getElem?_set, List.length_map, Array.length_toList]
 have hj := (Array.getElem?_eq_some_iff.1 h).1
 by_cases hij : j = i
 ·subst hij
  have he := (Array.getElem?_eq_some_iff.1 h).2
  simp [h, hj, he]
 ·simp [hij]
section
variable {P : Program} {T K E : TypeId} {D : TypeDesc} {k : κ} {a : α}
theorem run_mput (hT : P.underlying T = some (.map K E)) (hK : P.underlying K = some D) (he : KeyEnc D ek) (h : Mp ek em w b l) :
  ∃ w', (Instr.mapUpdate T (.map (some b)) (ek k) (em a)).run P w = .ok () w' ∧ Bel True (Only b) w w' ∧ Mp ek em w' b (putM l k a) := by
 obtain ⟨es, c, h1, h2, h3⟩ := h
 have hck : (Instr.checkKey false 10000 K (ek k)).run P w = .ok () w := run_checkKey hK (he.key k) false 9999
 rcases find_cases he h3 k with ⟨f1, f2, f3⟩ | ⟨j, e, a0, f1, f2, f3, f4, f5⟩
 ·refine ⟨setBlock w b (.map (es.push { key := ek k, val := em a, born := c }) (c + 1)), ?_, Bel.block1 _ _, _, _, block1_same h1 _, stamped_push h2 f3, ?_⟩
  ·simp [Instr.mapUpdate, run_underlying hT, MapKept.run_getObj_map h1, hck, run_findKey hK f1, run_setObj_map _ h1, setBlock]
  ·rw [putM_no f2]
   simp only [entM, rowM, Array.toList_push, List.map_append, List.map_cons, List.map_nil] at h3 ⊢
   rw [h3]
 ·have f2' : es[j]? = some e := by simpa using f2
  refine ⟨setBlock w b (.map (es.modify j fun e => { e with key := ek k, val := em a }) c), ?_, Bel.block1 _ _, _, _, block1_same h1 _, stamped_modify h2 _ _ (fun _ _ => rfl) (fun x _ hx => ?_), ?_⟩
  ·have hk : (Instr.keyThatStays (ek k) (ek k)).run P w = .ok (ek k) w := MapKept.run_keyThatStays (he.key k)
   simp [Instr.mapUpdate, run_underlying hT, MapKept.run_getObj_map h1, hck, run_findKey hK f1, f2', f3, hk, run_setObj_map _ h1, setBlock]
  ·rw [f2'] at hx
   obtain rfl : e = x := by simpa using hx
   exact f3.symm
  ·rw [entM_modify f2', h3, putM_at (keys_nd he h2 h3) f5]
   simp only [rowM, List.map_set]
theorem leftOf_all (es : Array MapEntry) : leftOf es #[] = es := by
 unfold leftOf
 rw [Array.filter_eq_self]
 intro x _; simp
theorem It.start {es : Array MapEntry} {c : Nat} (h1 : w.heap[b]? = some (.map es c)) (h2 : Stamped es c) (h3 : entM es.toList = rowM ek em l) : It ek em (w.alloc (.mapIter (some b) c #[] c)) w.heap.size b l l none := by
 have hl := (Array.getElem?_eq_some_iff.1 h1).1
 exact ⟨es, c, #[], by rw [heap_alloc_old w _ hl]; exact h1, h2, h3, heap_alloc_new w _, by rw [leftOf_all]; exact h3, fun p h => by cases h⟩
end
section
variable {rd : Option Nat} {P : Program} {n : Nat} {Q : Fr → World → Prop} {fr : Fr} {ops : Array Oper} {rest : List Oper} {d : Option Nat} {t : TypeId} {ps : String} {af : Array Edge} {T K E : TypeId} {D : TypeDesc} {k : κ} {a : α} {x y z : Operand}
theorem Rg_mput (hd : dstOk n d = true) (hT : P.underlying T = some (.map K E)) (hK : P.underlying K = some D) (he : KeyEnc D ek) (hx : ev fr x = .map (some b)) (hy : ev fr y = ek k) (hz : ev fr z = em a) (h : Mp ek em w b l)
  (hk : ∀ w', Bel True (Only b) w w' → Mp ek em w' b (putM l k a) → Rg rd P n ops rest Q (fr.put d undef) w') : Rg rd P n ops (⟨d, .mapUpdate T x y z, t, ps, af, none⟩ :: rest) Q fr w := by
 obtain ⟨w', h1, h2, h3⟩ := run_mput (P := P) (k := k) (a := a) hT hK he h
 refine Rg_skip hd (w' := w') ?_ (hk w' h2 h3)
 simp [execOp, hx, hy, hz, h1]
theorem Rg_mmk (ek : κ → Value) (em : α → Value) (hd : dstOk n d = true)
  (hk : ∀ b w', Ext True w w' → w.heap.size ≤ b → b < w'.heap.size → Mp ek em w' b [] → Rg rd P n ops rest Q (fr.put d (.map (some b))) w') : Rg rd P n ops (⟨d, .makeMap T none, t, ps, af, none⟩ :: rest) Q fr w := by
 refine QC hd (v := .map (some w.heap.size)) (w' := w.alloc (.map #[] 0)) ?_ (hk _ _ (Ext.alloc _ _) (Nat.le_refl _) (by simp) ⟨#[], 0, heap_alloc_new w _, stamped_empty 0, rfl⟩)
 simp [execOp, Instr.makeMap, newObj, Sem.run]
theorem o_meqnil {g : Option (Nat × Bool)} {U : TypeId} (hT : P.underlying T = some (.map K E)) (hx : ev fr x = .map (some b)) (hy : ev fr y = .map none) : xop P fr w ⟨d, .binOp .eql T x y U, t, ps, af, g⟩ = .ok (.value (.bool false)) w := by
 have := run_eql_map_nil (P := P) w T K E (some b) hT
 simp only [xop, execOp, hx, hy, eqGuard]
 simp [this]
theorem o_mkif {g : Option (Nat × Bool)} {v : Value} {U : TypeDesc} (hT : P.underlying T = some U) (hU : (match U with | .interface _ => true | _ => false) = false) (hx : ev fr x = v) : xop P fr w ⟨d, .makeInterface T x, t, ps, af, g⟩ = .ok (.value (.iface T v)) w := by
 cases U <;> simp_all [xop, execOp, Instr.makeInterface, run_underlying hT]
end
end
end Go.Lx
/- maps.clone of a map of numbers, at this translation. -/
namespace Go.Proofs.YtjnjalalkbamkaaGreatDoor
open Go Go.Lx
set_option maxRecDepth 10000
theorem x_cloneI (b : Nat) (es : Array MapEntry) (c : Nat) (w : World) (hb : w.heap[b]? = some (.map es c)) : (callFunc 132 #[.iface 165 (.map (some b))]).run Tryz.prog w = .ok (.value (.iface 165 (.map (some w.heap.size)))) (w.alloc (.map es c)) := by
 rw [run_callFunc_extern Tryz.func132 (by kernel_rfl) (by kernel_rfl) (by kernel_rfl) (e := Extern.MapsClone.clone) (by kernel_rfl)]
 obtain ⟨f, e1, e2⟩ : ∃ f, Extern.MapsClone.clone #[.iface 165 (.map (some b))] = (getObj b >>= f) ∧ ∀ es c, f (.map es c) = (newObj (.map es c) >>= fun n => pure (.iface 165 (.map (some n)))) := ⟨_, rfl, fun _ _ => rfl⟩
 rw [e1]
 simp [MapKept.run_getObj_map hb, e2, newObj, Sem.run]
end Go.Proofs.YtjnjalalkbamkaaGreatDoor
/- Tables of names: a list, and a map of numbers. Nothing of a program stands here. -/
namespace Go.Lx
open Go Go.RowKit Go.MapKept Go.ChangeMaps
def encN (i : Int) : Value := .int .i64 i
abbrev Nm (w : World) (b : Nat) (M : List (Str × Int)) : Prop := Mp str encN w b M
def Nm0 (F : Nat → Prop) (v : Value) (w : World) : Prop := v = .map none
def NmL (l : List Str) (F : Nat → Prop) (v : Value) (w : World) : Prop := ∃ g M, v = .map (some g) ∧ F g ∧ Nm w g M ∧ ∀ p ∈ M, p.1 ∈ l
def NmG (n : Nat) (l : List Str) (F : Nat → Prop) (v : Value) (w : World) : Prop := ∃ g M, v = .map (some g) ∧ F g ∧ n ≤ g ∧ Nm w g M ∧ ∀ p ∈ M, p.1 ∈ l
theorem NmG.keepS (n : Nat) (l : List Str) : KeepS (NmG n l) := fun F v γ D w w' x hd ⟨g, M, h1, h2, h0, h3, h4⟩ => ⟨g, M, h1, h2, h0, h3.keep x (hd g h3.lt h2), h4⟩
theorem Nm0.keepS : KeepS Nm0 := fun _ _ _ _ _ _ _ _ h => h
theorem NmL.keepS (l : List Str) : KeepS (NmL l) := fun F v γ D w w' x hd ⟨g, M, h1, h2, h3, h4⟩ => ⟨g, M, h1, h2, h3.keep x (hd g h3.lt h2), h4⟩
def NtM (w : World) (v : Value) (l : List Str) : Prop := ∃ p a c m, v = .pointer (some ⟨p, 0, none⟩) ∧ At w p 0 [.slice a l.length c, m] ∧ Sl encS 1 (Lt w.heap.size) w a c l ∧ ((l = [] ∧ m = .map none) ∨ NmL l (Lt w.heap.size) m w)
theorem NtM.ext {γ : Prop} {w w' : World} {v : Value} {l : List Str} (h : NtM w v l) (x : Ext γ w w') : NtM w' v l :=
 let ⟨p, a, c, m, h1, h2, h3, h4⟩ := h
 ⟨p, a, c, m, h1, h2.ext x, (h3.ext x).mono fun g hg _ => hg, h4.imp id fun ⟨g, M, k1, k2, k3, k4⟩ => ⟨g, M, k1, (k3.ext x).lt, k3.ext x, k4⟩⟩
theorem NtM.is {w : World} {v : Value} {l : List Str} (h : NtM w v l) : NtIs w v l.length :=
 let ⟨p, a, c, m, h1, h2, h3, _⟩ := h
 ⟨p, a, c, m, h1, h2, h3.le⟩
def postAg {α : Type} (S : (Nat → Prop) → Value → World → Prop) (enc : α → List Value) (k : Nat) (e : TypeId) (kc : Nat) (l : List α) : PostC := fun v w c => ∃ a m cp mm, v = .agg #[.slice a m cp, mm] ∧ postOwn enc k e kc l (.slice a m cp) w c ∧ ∃ F, (∀ g, F g → g < w.heap.size ∧ c g = 0) ∧ S F mm w
theorem postAg_stable {α : Type} {S : (Nat → Prop) → Value → World → Prop} {enc : α → List Value} {k kc : Nat} {e : TypeId} {l : List α} (hS : KeepS S) : StableC kc (postAg S enc k e kc l) := by
 rintro v w c w' c' q hq hx ⟨a, m, cp, mm, h1, h2, F, hF, hr⟩
 exact ⟨a, m, cp, mm, h1, Q1 _ _ _ _ _ q hq hx h2, F, fun g hg => ⟨Nat.lt_of_lt_of_le (hF g hg).1 hx.bel.size, (hx.col g (hF g hg).1).trans (hF g hg).2⟩, hS _ _ _ _ _ _ hx.bel (fun g _ hg hd => hd.1 (by rw [← hd.2]; exact (hF g hg).2)) hr⟩
def postBx {α : Type} (w0 : World) (T : TypeId) (S : (Nat → Prop) → Value → World → Prop) (enc : α → List Value) (k : Nat) (e : TypeId) (kc : Nat) (l : List α) : PostC := fun v w c => ∃ b a m cp mm, v = .pointer (some ⟨b, 0, none⟩) ∧ w0.heap.size ≤ b ∧ Box w b T [.slice a m cp, mm] ∧ c b = 0 ∧ postOwn enc k e kc l (.slice a m cp) w c ∧ ∃ F, (∀ g, F g → g < b ∧ c g = 0) ∧ S F mm w
theorem postBx_stable {α : Type} {w0 : World} {T : TypeId} {S : (Nat → Prop) → Value → World → Prop} {enc : α → List Value} {k kc : Nat} {e : TypeId} {l : List α} (hS : KeepS S) : StableC kc (postBx w0 T S enc k e kc l) := by
 rintro v w c w' c' q hq hx ⟨b, a, m, cp, mm, h1, h2, h3, h4, h5, F, hF, hr⟩
 have hbl := h3.lt
 exact ⟨b, a, m, cp, mm, h1, h2, h3.keep hx.bel (fun hd => hd.1 (by rw [← hd.2]; exact h4)), (hx.col b hbl).trans h4, Q1 _ _ _ _ _ q hq hx h5, F, fun g hg => ⟨(hF g hg).1, (hx.col g (Nat.lt_trans (hF g hg).1 hbl)).trans (hF g hg).2⟩, hS _ _ _ _ _ _ hx.bel (fun g _ hg hd => hd.1 (by rw [← hd.2]; exact (hF g hg).2)) hr⟩
theorem OpC_bx {α : Type} {β : Prop} {P : Program} {fr : Fr} {w w0 : World} {c : Nat → Nat} {ops : Array Oper} {T : TypeId} {S : (Nat → Prop) → Value → World → Prop} {enc : α → List Value} {k kc : Nat} {e : TypeId} {l : List α} {z : Value} {o : Oper} (hS : KeepS S) (hw : w0.heap.size ≤ w.heap.size) (hg : o.guard = none) (h : xop P fr w o = .ok (.value (.pointer (some ⟨w.heap.size, 0, none⟩))) (w.alloc (.cells z.cells T))) (hz : postAg S enc k e kc l z w c) (hd : o.dst.isSome = true := by rfl) : OpC β kc P ops o fr w c (postBx w0 T S enc k e kc l) := by
 obtain ⟨a, m, cp, mm, rfl, h2, F, hF, hr⟩ := hz
 have hB := Box.alloc w (Value.agg #[.slice a m cp, mm]).cells T
 have x : Ext β w (w.alloc (.cells (Value.agg #[.slice a m cp, mm]).cells T)) := Ext.alloc _ _
 have ho : Own enc k e (fun b => newC c w 0 b = kc) (w.alloc (.cells (Value.agg #[.slice a m cp, mm]).cells T)) (.slice a m cp) l := by
  have h3 : Own enc k e (fun b => c b = kc ∧ b < w.heap.size) w (.slice a m cp) l := Own.mono h2 fun g h1 h2 => ⟨h2, h1⟩
  exact (h3.ext x).mono fun g _ h => (newC_old h.2).trans h.1
 refine .inl ⟨by simp [Region.wanted, hg], .inl ⟨_, _, newC c w 0, .inl ⟨h, hd⟩, StepC.ext x fun _ hb => newC_old hb, w.heap.size, a, m, cp, mm, rfl, hw, ?_, newC_new (Nat.le_refl _), ho, F, fun g hg => ⟨(hF g hg).1, (newC_old (hF g hg).1).trans (hF g hg).2⟩, hS _ _ _ _ _ _ x (fun _ _ _ => id) hr⟩⟩
 have e1 : (Value.agg #[.slice a m cp, mm]).cells.toList = [.slice a m cp, mm] := by simp [Value.cells]
 rw [e1] at hB
 exact hB
section
variable {rd : Option Nat} {P : Program} {n : Nat} {Q : Fr → World → Prop} {fr : Fr} {w : World} {ops : Array Oper} {rest : List Oper} {d : Option Nat} {t : TypeId} {ps : String} {af : Array Edge} {T K E : TypeId} {k : Str} {b : Nat} {M : List (Str × Int)} {x y z : Operand} {a : Int}
theorem Rg_nput (hd : dstOk n d = true) (hT : P.underlying T = some (.map K E)) (hK : P.underlying K = some .string) (hx : ev fr x = .map (some b)) (hy : ev fr y = str k) (hz : ev fr z = .int .i64 a) (h : Nm w b M)
  (hk : ∀ w', Bel True (Only b) w w' → Nm w' b (putM M k a) → Rg rd P n ops rest Q (fr.put d undef) w') : Rg rd P n ops (⟨d, .mapUpdate T x y z, t, ps, af, none⟩ :: rest) Q fr w :=
 Rg_mput (a := a) hd hT hK str_key hx hy hz h hk
theorem Rg_nmk (hd : dstOk n d = true)
  (hk : ∀ b w', Ext True w w' → w.heap.size ≤ b → b < w'.heap.size → Nm w' b [] → Rg rd P n ops rest Q (fr.put d (.map (some b))) w') : Rg rd P n ops (⟨d, .makeMap T none, t, ps, af, none⟩ :: rest) Q fr w :=
 Rg_mmk str encN hd hk
theorem Rg_nclone {f : FuncId} {x : Operand} {tys : Array TypeId} (hd : dstOk n d = true) (hc : ∀ (b : Nat) (es : Array MapEntry) (c : Nat) (w : World), w.heap[b]? = some (.map es c) → (callFunc f #[.iface T (.map (some b))]).run P w = .ok (.value (.iface T (.map (some w.heap.size)))) (w.alloc (.map es c)))
  (hx : ev fr x = .iface T (.map (some b))) (h : Nm w b M) (hk : ∀ b' w', Ext True w w' → w.heap.size ≤ b' → b' < w'.heap.size → Nm w' b' M → Rg rd P n ops rest Q (fr.put d (.iface T (.map (some b')))) w') :
  Rg rd P n ops (⟨d, .call { callee := .value (.func f), args := #[x], argTypes := tys }, t, ps, af, none⟩ :: rest) Q fr w := by
 obtain ⟨es, c, h1, h2, h3⟩ := h
 refine QC hd (v := .iface T (.map (some w.heap.size))) (w' := w.alloc (.map es c)) ?_ (hk _ _ (Ext.alloc _ _) (Nat.le_refl _) (by simp) ⟨es, c, heap_alloc_new w _, h2, h3⟩)
 have e : ev fr (.func f) = .func (.func f) #[] #[] := rfl
 simp [execOp, resolve, e, hx, Deferred.ofValue, invoke, hc b es c w h1]
theorem o_nlook {g : Option (Nat × Bool)} (hT : P.underlying T = some (.map K E)) (hK : P.underlying K = some .string) (hz : ∀ w, (zeroValue E).run P w = .ok (.int .i64 0) w) (h : Nm w b M) (hx : ev fr x = .map (some b)) (hy : ev fr y = str k) (hn : ∀ p ∈ M, p.1 ≠ k) :
  xop P fr w ⟨d, .lookup T x y false, t, ps, af, g⟩ = .ok (.value (.int .i64 0)) w := by
 have := o_lookup (ok := false) (d := d) (t := t) (ps := ps) (af := af) (g := g) (z0 := (0 : Int)) (k := k) hT hK str_key hz h hx hy
 rw [getM_no hn] at this
 exact this
theorem o_nlook0 {g : Option (Nat × Bool)} (hT : P.underlying T = some (.map K E)) (hK : P.underlying K = some .string) (hz : ∀ w, (zeroValue E).run P w = .ok (.int .i64 0) w) (hx : ev fr x = .map none) (hy : ev fr y = str k) :
  xop P fr w ⟨d, .lookup T x y false, t, ps, af, g⟩ = .ok (.value (.int .i64 0)) w := by
 have hck : ∀ e, (Instr.checkKey e 10000 K (str k)).run P w = .ok () w := fun e => run_checkKey hK (str_key.key k) e 9999
 have hfk : (Instr.findKey K (str k) []).run P w = .ok none w := run_findKey hK rfl
 have : (Instr.lookup T (.map none) (str k) false).run P w = .ok (.int .i64 0) w := by simp [Instr.lookup, run_underlying hT, hck, hfk, hz]
 simp [xop, execOp, hx, hy, this]
theorem o_meqnil0 {g : Option (Nat × Bool)} {U : TypeId} (hT : P.underlying T = some (.map K E)) (hx : ev fr x = .map none) (hy : ev fr y = .map none) : xop P fr w ⟨d, .binOp .eql T x y U, t, ps, af, g⟩ = .ok (.value (.bool true)) w := by
 have := run_eql_map_nil (P := P) w T K E none hT
 simp only [xop, execOp, hx, hy, eqGuard]
 simp [this]
end
theorem putM_keys {M : List (Str × Int)} {k : Str} {a : Int} {l : List Str} (h : ∀ p ∈ M, p.1 ∈ l) : ∀ p ∈ putM M k a, p.1 ∈ l ++ [k] := by
 intro p hp
 unfold putM at hp
 split at hp
 ·obtain ⟨q, hq, rfl⟩ := List.mem_map.1 hp
  split
  ·simp
  ·exact List.mem_append_left _ (h q hq)
 ·rcases List.mem_append.1 hp with hp | hp
  ·exact List.mem_append_left _ (h p hp)
  ·rw [List.mem_singleton.1 hp]; simp
theorem takeN {l : List Str} {k : Nat} (h : k < l.length) : l.take (k + 1) = l.take k ++ [l.getD k []] := by
 rw [List.take_succ_eq_append_getElem h]; simp [List.getD, h]
theorem nd_take {l : List Str} {k : Nat} (hn : l.Nodup) (h : k < l.length) : l.getD k [] ∉ l.take k := by
 have e : (l.take (k + 1)).Nodup := hn.sublist (List.take_sublist _ _)
 rw [takeN h, List.nodup_append] at e
 intro hm
 exact e.2.2 _ hm _ (List.mem_singleton.2 rfl) rfl
end Go.Lx
/- The parts of a state, and a state; lists in variables that a region makes. Nothing of a program stands here. -/
namespace Go.Lx
open Go Go.RowKit
abbrev pB (b : Nat) : Value := .pointer (some ⟨b, 0, none⟩)
structure PtV where
 day : Int
 us : Nat
 rs : Nat
 aa : Option Addr
 ca : Nat
 lk : Nat
 mb : Nat
 gr : Nat
 ar : Option Addr
 cr : Nat
 ac : Option Addr
 cc : Nat
 ss : Nat
abbrev ptC (p : PtV) : List Value := [.int .i64 p.day, pB p.us, pB p.rs, .slice p.aa 0 p.ca, pB p.lk, pB p.mb, pB p.gr, .slice p.ar 0 p.cr, .slice p.ac 0 p.cc, pB p.ss]
def OkS (a : Option Addr) (c : Nat) : Prop := c ≤ maxLen ∧ (a = none → c = 0)
theorem OkS.sl {α : Type} {enc : α → List Value} {k : Nat} {F : Nat → Prop} {w : World} {a : Option Addr} {c : Nat} (h : OkS a c) : Sl enc k F w a c [] := ⟨Nat.zero_le _, h.1, h.2, fun i x h => by simp at h⟩
theorem OkS.set {F : Nat → Prop} {w : World} {a : Option Addr} {c : Nat} (h : OkS a c) : Sl encU 1 F w a c (wl 0) := h.sl (enc := encU)
structure PtIs (w : World) (p : PtV) (n m : Nat) (L : List Men) : Prop where
 us : NtIs w (pB p.us) n
 rs : NtIs w (pB p.rs) m
 lk : HyIs w (pB p.lk) []
 mb : MbIs w (pB p.mb) L
 gr : GbIs w (pB p.gr) []
 ss : BkIs w (pB p.ss) []
 oa : OkS p.aa p.ca
 orl : OkS p.ar p.cr
theorem PtIs.ext {γ : Prop} {w w' : World} {p : PtV} {n m : Nat} {L : List Men} (h : PtIs w p n m L) (x : Ext γ w w') : PtIs w' p n m L :=
 ⟨h.us.ext x, h.rs.ext x, h.lk.ext x, h.mb.ext x, h.gr.ext x, h.ss.ext x, h.oa, h.orl⟩
theorem PtIs.lists {w : World} {p : PtV} {n m : Nat} {L : List Men} {a : Option Addr} (h : PtIs w p n m L) : PtIs w { p with ar := a, cr := 0, ac := none, cc := 0 } n m L :=
 ⟨h.us, h.rs, h.lk, h.mb, h.gr, h.ss, h.oa, ⟨Nat.zero_le _, fun _ => rfl⟩⟩
theorem NtIs.blk {w : World} {v : Value} {n : Nat} (h : NtIs w v n) : ∃ b, v = pB b ∧ NtIs w (pB b) n := let ⟨p, a, c, m, h1, h2, h3⟩ := h; ⟨p, h1, p, a, c, m, rfl, h2, h3⟩
theorem MbIs.blk {w : World} {v : Value} {L : List Men} (h : MbIs w v L) : ∃ b, v = pB b ∧ MbIs w (pB b) L := let ⟨p, a, c, h1, h2, h3⟩ := h; ⟨p, h1, p, a, c, rfl, h2, h3⟩
theorem HyIs.blk {w : World} {v : Value} {L : List Pr} (h : HyIs w v L) : ∃ b, v = pB b ∧ HyIs w (pB b) L := let ⟨p, q, o, h1, h2⟩ := h; ⟨p, h1, p, q, o, rfl, h2⟩
theorem BkIs.blk {w : World} {v : Value} {m : List RS} (h : BkIs w v m) : ∃ b, v = pB b ∧ BkIs w (pB b) m := let ⟨p, q, h1, h2⟩ := h; ⟨p, h1, p, q, rfl, h2⟩
def encRul (_ : Unit) : List Value := [.bool false, .int .i64 0, .int .i64 0, .slice none 0 0, .slice none 0 0, .slice none 0 0, .int .i64 0]
theorem encRul_ok : EncOk encRul 7 := ⟨by decide, fun _ => rfl, fun x u hu => by
 simp [encRul] at hu
 rcases hu with rfl | rfl | rfl | rfl <;> rfl⟩
theorem OpC.mono3 {β : Prop} {k : Nat} {P : Program} {ops : Array Oper} {o : Oper} {fr : Fr} {w : World} {c : Nat → Nat} {S S' : PostC} (h : OpC β k P ops o fr w c S) (hs : ∀ v w' c', StepC β k w c w' c' → S v w' c' → S' v w' c') : OpC β k P ops o fr w c S' := by
 rcases h with ⟨h1, h2⟩ | ⟨h1, h2⟩
 ·left
  refine ⟨h1, ?_⟩
  rcases h2 with ⟨v, w', c', g1, g2, g3⟩ | ⟨f, args, w0, g1, g0, g2⟩
  ·exact .inl ⟨v, w', c', g1, g2, hs _ _ _ g2 g3⟩
  ·exact .inr ⟨f, args, w0, g1, g0, g2.mono fun v w' ⟨c', a, b⟩ => ⟨c', a, hs _ _ _ a b⟩⟩
 ·exact .inr ⟨h1, hs _ _ _ (StepC.rfl' _ _ _) h2⟩
def postBoxU (w0 : World) (T : TypeId) (f : Value → List Value) (S : (Nat → Prop) → Value → World → Prop) (kc : Nat) : PostC := fun v w c => ∃ b, v = .pointer (some ⟨b, 0, none⟩) ∧ w0.heap.size ≤ b ∧ c b = kc ∧ ∃ u, Box w b T (f u) ∧ ∃ F', (∀ g, F' g → g < w.heap.size ∧ c g = 0) ∧ S F' u w
theorem postBoxU_stable {w0 : World} {T : TypeId} {f : Value → List Value} {S : (Nat → Prop) → Value → World → Prop} {kc : Nat} (hS : KeepS S) : StableC kc (postBoxU w0 T f S kc) := by
 rintro v w c w' c' q hq hx ⟨b, h1, h2, h4, u, h3, F', hF', hr⟩
 exact ⟨b, h1, h2, (hx.col b h3.lt).trans h4, u, h3.keep hx.bel fun hd => hq.elim hd.1 (fun h => h (by rw [← hd.2]; exact h4)), F', fun g hg => ⟨Nat.lt_of_lt_of_le (hF' g hg).1 hx.bel.size, (hx.col g (hF' g hg).1).trans (hF' g hg).2⟩, hS _ _ _ _ _ _ hx.bel (fun g _ hg hd => hd.1 (by rw [← hd.2]; exact (hF' g hg).2)) hr⟩
theorem postBoxU_of {w0 : World} {T : TypeId} {f : Value → List Value} {S : (Nat → Prop) → Value → World → Prop} {kc : Nat} {β : Prop} {P : Program} {ops : Array Oper} {o : Oper} {fr : Fr} {w : World} {c : Nat → Nat} {cs : List Value} {F' : Nat → Prop} {u : Value} (hS : KeepS S) (h : OpC β kc P ops o fr w c (postBoxK w0 T cs kc)) (e : cs = f u) (hF' : ∀ g, F' g → g < w.heap.size ∧ c g = 0) (hr : S F' u w) : OpC β kc P ops o fr w c (postBoxU w0 T f S kc) :=
 h.mono3 fun v w' c' hx ⟨b, h1, h2, h3, h4⟩ => ⟨b, h1, h2, h4, u, e ▸ h3, F', fun g hg => ⟨Nat.lt_of_lt_of_le (hF' g hg).1 hx.bel.size, (hx.col g (hF' g hg).1).trans (hF' g hg).2⟩, hS _ _ _ _ _ _ hx.bel (fun g _ hg hd => hd.1 (by rw [← hd.2]; exact (hF' g hg).2)) hr⟩
def SvN (n : Nat) (e : W64) (F : Nat → Prop) (v : Value) (w : World) : Prop := (∀ g, F g → n ≤ g) ∧ ∃ a c, v = .agg (encSV ⟨a, c, e⟩).toArray ∧ Sl encU 1 F w a c (wl e)
theorem SvN.keepS (n : Nat) (e : W64) : KeepS (SvN n e) := fun F v γ D w w' x hd ⟨h0, a, c, h1, h2⟩ => ⟨h0, a, c, h1, h2.keep x hd⟩
theorem b7_0 : (7 : W64).getLsbD 0 = true := by decide
def SlW (x : W64) (F : Nat → Prop) (v : Value) (w : World) : Prop := ∃ a c, v = .slice a (wl x).length c ∧ Sl encU 1 F w a c (wl x)
theorem SlW.keepS (x : W64) : KeepS (SlW x) := fun F v γ D w w' x' hd ⟨a, c, h1, h2⟩ => ⟨a, c, h1, h2.keep x' hd⟩
end Go.Lx
/- The first example of campaigns: its memberships, its plan, the items it begins with. Nothing of a program stands here. -/
namespace Go.Lx
open Go Go.RowKit
def mbL : List Men := [⟨1, 1, 20⟩, ⟨2, 1, 20⟩, ⟨2, 2, 20⟩]
def mbP : List Pr := [(1, 1), (2, 1), (2, 2)]
theorem mbL_ok : ∀ k, k ≤ 3 → OkN (mbL.take k) := by
 intro k hk
 have h : OkN mbL := ⟨by decide, by
  intro x hx
  simp only [mbL, List.mem_cons, List.not_mem_nil, or_false] at hx
  rcases hx with rfl | rfl | rfl <;> (unfold Men.rg; decide), by
  simp only [mbL, List.pairwise_cons, List.mem_cons, List.not_mem_nil, or_false, List.Pairwise.nil, and_true]
  refine ⟨?_, ?_, ?_⟩
  ·rintro x (rfl | rfl) <;> (unfold LtN; decide)
  ·rintro x rfl; unfold LtN; decide
  ·rintro x h; cases h⟩
 exact ⟨by rw [List.length_take]; have := h.len; omega, fun x hx => h.rg x (List.mem_of_mem_take hx), h.srt.sublist (List.take_sublist _ _)⟩
theorem mb_step : ∀ k, k < 3 → fnN (mbL.take k) ⟨iv (mbP.getD k (0, 0)).1, iv (mbP.getD k (0, 0)).2, 0⟩ = false ∧ insN (mbL.take k) ⟨iv (mbP.getD k (0, 0)).1, iv (mbP.getD k (0, 0)).2, 20⟩ = mbL.take (k + 1) ∧ (1 ≤ iv (mbP.getD k (0, 0)).1 ∧ iv (mbP.getD k (0, 0)).1 ≤ 256) ∧ (1 ≤ iv (mbP.getD k (0, 0)).2 ∧ iv (mbP.getD k (0, 0)).2 ≤ 63) := by
 intro k hk
 match k, hk with
 | 0, _ => decide
 | 1, _ => decide
 | 2, _ => decide
theorem mbL_in : ∀ x ∈ mbL, x.u ≤ (3 : Nat) ∧ hasW 6 x.r = true := by
 intro x hx
 simp only [mbL, List.mem_cons, List.not_mem_nil, or_false] at hx
 rcases hx with rfl | rfl | rfl <;> decide
structure PlV where
 sa : Option Addr
 sc : Nat
 ra : Option Addr
 rc : Nat
def rvL : List Pr := [(1, 2), (1, 3)]
abbrev plC (q : PlV) : List Value := [.slice q.sa (wl 6).length q.sc, .slice q.ra rvL.length q.rc, .int .i64 3, .int .i64 12, .int .i64 15, .bool false]
structure PlIs (w : World) (q : PlV) : Prop where
 s : Sl encU 1 (Lt w.heap.size) w q.sa q.sc (wl 6)
 r : Sl encPr 2 (Lt w.heap.size) w q.ra q.rc rvL
theorem PlIs.ext {γ : Prop} {w w' : World} {q : PlV} (h : PlIs w q) (x : Ext γ w w') : PlIs w' q := ⟨(h.s.ext x).top, (h.r.ext x).top⟩
theorem PlIs.keep {γ : Prop} {D : Nat → Prop} {w w' : World} {q : PlV} {n : Nat} (hs : Sl encU 1 (fun g => g < n) w q.sa q.sc (wl 6)) (hr : Sl encPr 2 (fun g => g < n) w q.ra q.rc rvL) (x : Bel γ D w w') (hd : ∀ g, g < n → ¬ D g) : PlIs w' q := ⟨(hs.keep x fun g _ h => hd g h).top, (hr.keep x fun g _ h => hd g h).top⟩
theorem sub66 : subW 6 6 = true := by decide
theorem u33 : (decide ((3 : Int) ≥ 1) && decide ((3 : Int) ≤ ((3 : Nat) : Int))) = true := by decide
def rvP (u r : Int) (x : Pr) : Bool := iv x.1 == r && iv x.2 != u
def rvw (u r : Int) : Int := ((rvL.find? (rvP u r)).map fun x => iv x.2).getD 3
theorem find_at {α : Type} (p : α → Bool) (z : α) : ∀ (l : List α) (k : Nat), k < l.length → (∀ j, j < k → p (l.getD j z) = false) → p (l.getD k z) = true → l.find? p = some (l.getD k z)
 | [], k, h, _, _ => absurd h (Nat.not_lt_zero _)
 | x :: l, 0, _, _, h => by simp only [List.getD_cons_zero] at h ⊢; rw [List.find?_cons_of_pos h]
 | x :: l, k + 1, hk, ha, h => by
  have h0 := ha 0 (Nat.zero_lt_succ _)
  simp only [List.getD_cons_zero] at h0
  rw [List.find?_cons_of_neg (by rw [h0]; simp), List.getD_cons_succ]
  exact find_at p z l k (by simpa using hk) (fun j hj => by have := ha (j + 1) (by omega); rwa [List.getD_cons_succ] at this) (by rwa [List.getD_cons_succ] at h)
theorem rvw_at {u r : Int} {k : Nat} (hk : k < rvL.length) (ha : ∀ j, j < k → rvP u r (rvL.getD j (0, 0)) = false) (h : rvP u r (rvL.getD k (0, 0)) = true) : rvw u r = iv (rvL.getD k (0, 0)).2 := by
 rw [rvw, find_at _ (0, 0) _ k hk ha h]; rfl
theorem rvw_no {u r : Int} {k : Nat} (hk : ¬ k < rvL.length) (ha : ∀ j, j < k → rvP u r (rvL.getD j (0, 0)) = false) : rvw u r = 3 := by
 have : rvL.find? (rvP u r) = none := List.find?_eq_none.2 fun x hx => by
  obtain ⟨j, hj, rfl⟩ := List.mem_iff_getElem.1 hx
  have := ha j (by omega)
  rw [show rvL.getD j (0, 0) = rvL[j] by simp [List.getD, hj]] at this
  simp [this]
 rw [rvw, this]; rfl
def itm (u r : Int) : Itm := ⟨u, r, rvw u r, 1⟩
def exW (k : Nat) : W64 := onW mbL ((k + 1 : Nat) : Int) 10 &&& 6
def itsU (k : Nat) : List Itm := (List.range k).flatMap fun i => (memW (exW i) 64).map (itm ((i + 1 : Nat) : Int))
theorem itsU_succ (k : Nat) : itsU (k + 1) = itsU k ++ (memW (exW k) 64).map (itm ((k + 1 : Nat) : Int)) := by
 unfold itsU
 rw [List.range_succ, List.flatMap_append]
 simp
theorem ex_ne : ∀ k : Nat, k < 3 → ∀ (i : Nat) (y : Int), (memW (exW k) 64)[i]? = some y → ((k + 1 : Nat) : Int) ≠ 3 := by
 intro k hk i y hy
 match k, hk with
 | 0, _ => decide
 | 1, _ => decide
 | 2, _ =>
  exfalso
  have e : memW (exW 2) 64 = [] := by decide +kernel
  rw [e] at hy
  simp at hy
def awIt : List Itm := [⟨1, 1, 2, 1⟩, ⟨2, 1, 3, 1⟩, ⟨2, 2, 3, 1⟩]
theorem its_all : itsU 3 = awIt := by decide +kernel
theorem its_len : ∀ k, k < 3 → (itsU k).length ≤ 3 ∧ (memW (exW k) 64).length ≤ 3 := by
 intro k hk
 match k, hk with
 | 0, _ => decide +kernel
 | 1, _ => decide +kernel
 | 2, _ => decide +kernel
theorem map_takeA {α β : Type} {f : α → β} {l : List α} {i : Nat} {y : α} (h : l[i]? = some y) : (l.take (i + 1)).map f = (l.take i).map f ++ [f y] := by
 have hi := (List.getElem?_eq_some_iff.1 h).1
 rw [List.take_succ_eq_append_getElem hi, List.map_append, List.map_cons, List.map_nil, (List.getElem?_eq_some_iff.1 h).2]
def PtrIs (n : Nat) (T : TypeId) (cs : List Value) (F : Nat → Prop) (v : Value) (w : World) : Prop := ∃ b, v = pB b ∧ n ≤ b ∧ F b ∧ Box w b T cs
theorem PtrIs.keepS (n : Nat) (T : TypeId) (cs : List Value) : KeepS (PtrIs n T cs) := fun F v γ D w w' x hd ⟨b, h1, h2, h3, h4⟩ => ⟨b, h1, h2, h3, h4.keep x (hd b h4.lt h3)⟩
theorem Own.iv {α : Type} {enc : α → List Value} {k : Nat} {e : TypeId} {D : Nat → Prop} {w : World} {v : Value} {l : List α} (h : Own enc k e D w v l) (n : Nat) (hn : n ≤ w.heap.size) : ∃ bt et, ((bt = n ∧ et = n) ∨ (D bt ∧ et = bt + 1)) ∧ et ≤ w.heap.size ∧ Own enc k e (fun g => bt ≤ g ∧ g < et) w v l := by
 cases hb : v.ownBlock with
 | none => exact ⟨n, n, .inl ⟨rfl, rfl⟩, hn, h.at fun g _ hg => by rw [hb] at hg; cases hg⟩
 | some g => exact ⟨g, g + 1, .inr ⟨h.loc g hb, rfl⟩, h.lt g hb, h.at fun g' _ hg => by rw [hb] at hg; cases hg; exact ⟨Nat.le_refl _, Nat.lt_succ_self _⟩⟩
def awC : Cpg := ⟨10, 12, 15, 3, false, awIt⟩
def mkF {α : Type} (f : α → α) (l : List α) (k : Nat) : List α := (l.take k).map f ++ l.drop k
theorem mkF_len {α : Type} (f : α → α) (l : List α) (k : Nat) : (mkF f l k).length = l.length := by
 unfold mkF
 simp only [List.length_append, List.length_map, List.length_take, List.length_drop]; omega
theorem mkF_zero {α : Type} (f : α → α) (l : List α) : mkF f l 0 = l := by simp [mkF]
theorem mkF_end {α : Type} {f : α → α} {l : List α} {k : Nat} (h : l.length ≤ k) : mkF f l k = l.map f := by
 unfold mkF
 rw [List.take_of_length_le h, List.drop_of_length_le h, List.append_nil]
theorem mkF_get {α : Type} {f : α → α} {l : List α} {k : Nat} {z : α} (h : k < l.length) : (mkF f l k)[k]? = some (l.getD k z) := by
 unfold mkF
 rw [List.getElem?_append_right (by simp; omega)]
 simp [List.getD, h, show min k l.length = k by omega]
theorem mkF_succ {α : Type} {f : α → α} {l : List α} {k : Nat} {z : α} (h : k < l.length) : (mkF f l k).set k (f (l.getD k z)) = mkF f l (k + 1) := by
 unfold mkF
 have hl : ((l.take k).map f).length = k := by simp; omega
 rw [List.set_append_right _ _ (by omega), hl, Nat.sub_self, List.drop_eq_getElem_cons h, List.set_cons_zero, List.take_succ_eq_append_getElem h, List.map_append, List.append_assoc]
 simp [List.getD, h]
def tkI (c : Cpg) (x : Itm) : Itm := if x.d = 1 then ⟨x.u, x.r, c.ch, if c.kp then 3 else 4⟩ else x
end Go.Lx
/- The first example of campaigns, behind its last day. Nothing of a program stands here. -/
namespace Go.Lx
open Go Go.RowKit
def awD : Cpg := ⟨16, 12, 15, 3, false, [⟨1, 1, 2, 4⟩, ⟨2, 1, 3, 4⟩, ⟨2, 2, 3, 4⟩]⟩
def opsL : List COp := [⟨false, 1, 1, 1, 20, pz⟩, ⟨false, 1, 2, 1, 20, pz⟩, ⟨false, 1, 2, 2, 20, pz⟩]
structure FinS (k : Nat) (o : Itm) : Prop where
 u : 1 ≤ o.u ∧ o.u ≤ 256
 r : 1 ≤ o.r ∧ o.r ≤ 63
 f : fnN mbL ⟨o.u, o.r, 0⟩ = true
 t : (mbL.getD (fdN mbL ⟨o.u, o.r, 0⟩) mez).t = 20
 d : o.d = 4
 p : opsL.getD k coz = ⟨false, 1, o.u, o.r, 20, pz⟩
theorem fin_step : ∀ k : Nat, k < 3 → FinS k (awD.l.getD k itz) := by
 intro k hk
 match k, hk with
 | 0, _ => exact ⟨by decide, by decide, by decide, by decide, by decide, by decide⟩
 | 1, _ => exact ⟨by decide, by decide, by decide, by decide, by decide, by decide⟩
 | 2, _ => exact ⟨by decide, by decide, by decide, by decide, by decide, by decide⟩
theorem ops_of : (ofO opsL).2 = 0 ∧ (ofO opsL).1.length = 3 := by decide +kernel
theorem ops_ok : ∀ x ∈ opsL, x.p.ok := by
 intro x hx
 simp only [opsL, List.mem_cons, List.not_mem_nil, or_false] at hx
 rcases hx with rfl | rfl | rfl <;> exact ⟨by decide, by decide⟩
theorem takeO {k : Nat} {o : Itm} (hk : k < 3) (h : FinS k o) : opsL.take (k + 1) = opsL.take k ++ [⟨false, 1, o.u, o.r, 20, pz⟩] := by
 have hl : k < opsL.length := hk
 rw [List.take_succ_eq_append_getElem hl, ← h.p]
 simp [List.getD, hl]
section
variable {P : Program} {fr : Fr} {w : World} {d : Option Nat} {t T : TypeId} {ps : String} {af : Array Edge} {g : Option (Nat × Bool)} {x : Operand} {fs : Array Field} {F : Field} {f : Nat} {vs : Array Value} {v : Value}
theorem o_field1 (hT : P.underlying T = some (.struct fs)) (hf : fs[f]? = some F) (ha : ∀ w, (isAgg F.type).run P w = .ok false w) (hs : ∀ w, (sizeOf F.type).run P w = .ok 1 w) (hx : ev fr x = .agg vs) (hv : vs[F.offset]? = some v) : xop P fr w ⟨d, .field T x f, t, ps, af, g⟩ = .ok (.value v) w := by
 have e : (asAgg (Value.agg vs)).run P w = .ok vs w := rfl
 simp [xop, execOp, hx, Instr.field, run_underlying hT, hf, part, ha, hs, e, hv]
end
