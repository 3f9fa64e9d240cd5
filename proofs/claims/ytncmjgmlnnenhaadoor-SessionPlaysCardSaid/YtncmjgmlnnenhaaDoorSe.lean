/- A book of sessions in memory, the program's and the reference's. Nothing of a program stands here. -/
import Derived.Test.YtncmjgmlnnenhaaDoorSess
import Derived.Test.YtncmjgmlnnenhaaDoorSlx
namespace Go.Lx
open Go Go.RowKit
set_option linter.unusedSimpArgs false
set_option linter.unusedVariables false
set_option linter.unnecessarySimpa false
structure SE where
  n : Int
  u : Int
  a : Option Addr
  c : Nat
  x : W64
def encSe (s : SE) : List Value := [.int .i64 s.n, .int .i64 s.u, .slice s.a (wl s.x).length s.c]
theorem encSe_ok : EncOk encSe 3 := ⟨by decide, fun _ => rfl, fun x u hu => by
  simp [encSe] at hu
  rcases hu with rfl | rfl | rfl <;> rfl⟩
def sez : SE := ⟨0, 0, none, 0, 0⟩
def SE.rs (s : SE) : RS := ⟨s.n, s.u, s.x⟩
def SE.sv (s : SE) : SV := ⟨s.a, s.c, s.x⟩
def encRs (s : RS) : List Value := [.int .i64 s.n, .int .i64 s.u, u64 s.x]
theorem encRs_ok : EncOk encRs 3 := ⟨by decide, fun _ => rfl, fun x u hu => by
  simp [encRs] at hu
  rcases hu with rfl | rfl | rfl <;> rfl⟩
/-- The sets of the sessions of l lie in blocks of F. -/
def SesAt (F : Nat → Prop) (w : World) (l : List SE) : Prop := ∀ s ∈ l, Sl encU 1 F w s.a s.c (wl s.x)
structure BV where
  ap : Option Addr
  cp : Nat
  l : List SE
structure BkAt (F : Nat → Prop) (w : World) (p : Nat) (b : BV) : Prop where
  blk : F p
  at' : At w p 0 [.slice b.ap b.l.length b.cp]
  sl : Sl encSe 3 F w b.ap b.cp b.l
  ws : SesAt F w b.l
def BV.m (b : BV) : List RS := b.l.map SE.rs
section
variable {F F' D : Nat → Prop} {γ : Prop} {w w' : World} {p : Nat} {b : BV} {l : List SE}
theorem SesAt.keep (h : SesAt F w l) (x : Bel γ D w w') (hd : ∀ b, b < w.heap.size → F b → ¬ D b) : SesAt F w' l := fun s hs => (h s hs).keep x hd
theorem SesAt.mono (h : SesAt F w l) (hd : ∀ b, b < w.heap.size → F b → F' b) : SesAt F' w l := fun s hs => (h s hs).mono hd
theorem SesAt.ext (h : SesAt F w l) (x : Ext γ w w') : SesAt F w' l := fun s hs => (h s hs).ext x
theorem SesAt.nil : SesAt F w [] := fun s hs => by cases hs
theorem SesAt.app {r : List SE} (h : SesAt F w l) (k : SesAt F w r) : SesAt F w (l ++ r) := fun s hs => (List.mem_append.1 hs).elim (h s) (k s)
theorem SesAt.cons {s : SE} (h : Sl encU 1 F w s.a s.c (wl s.x)) (k : SesAt F w l) : SesAt F w (s :: l) := fun t ht => by
  rcases List.mem_cons.1 ht with rfl | ht
  · exact h
  · exact k t ht
theorem SesAt.sub {r : List SE} (h : SesAt F w l) (hs : ∀ s ∈ r, s ∈ l) : SesAt F w r := fun s h1 => h s (hs s h1)
theorem SesAt.set {s : SE} {i : Nat} (h : SesAt F w l) (hs : Sl encU 1 F w s.a s.c (wl s.x)) : SesAt F w (l.set i s) := fun t ht => by
  rcases List.mem_or_eq_of_mem_set ht with ht | rfl
  · exact h t ht
  · exact hs
theorem BkAt.lt (h : BkAt F w p b) : p < w.heap.size := h.at'.lt
theorem BkAt.keep (h : BkAt F w p b) (x : Bel γ D w w') (hd : ∀ b, b < w.heap.size → F b → ¬ D b) : BkAt F w' p b :=
  ⟨h.blk, h.at'.keep x (hd p h.lt h.blk), h.sl.keep x hd, h.ws.keep x hd⟩
theorem BkAt.ext (h : BkAt F w p b) (x : Ext γ w w') : BkAt F w' p b := h.keep x fun _ _ _ => id
theorem BkAt.mono (h : BkAt F w p b) (hd : ∀ b, b < w.heap.size → F b → F' b) : BkAt F' w p b :=
  ⟨hd p h.lt h.blk, h.at', h.sl.mono hd, h.ws.mono hd⟩
theorem BkAt.top (h : BkAt F w p b) : BkAt (Lt w.heap.size) w p b := h.mono fun _ hb _ => hb
end
/-- A pointer to a book of the sessions m. -/
def BkIs (w : World) (v : Value) (m : List RS) : Prop := ∃ p b, v = .pointer (some ⟨p, 0, none⟩) ∧ BkAt (Lt w.heap.size) w p b ∧ b.m = m
theorem BV.mlen (b : BV) : b.m.length = b.l.length := List.length_map ..
theorem BV.mget (b : BV) (i : Nat) : b.m.getD i rz = (b.l.getD i sez).rs := by
  simp only [BV.m, List.getD, List.getElem?_map]
  cases b.l[i]? <;> rfl
theorem mset {l : List SE} {i : Nat} {s : SE} : (l.set i s).map SE.rs = (l.map SE.rs).set i s.rs := by rw [List.map_set]
theorem rs_get (l : List SE) (i : Nat) : (l.map SE.rs).getD i rz = (l.getD i sez).rs := by
  simp only [List.getD, List.getElem?_map]
  cases l[i]? <;> rfl
theorem map_open {l : List SE} {u : Int} : (l.take (gap (l.map SE.rs)) ++ ⟨(gap (l.map SE.rs) : Int) + 1, u, none, 0, 0⟩ :: l.drop (gap (l.map SE.rs))).map SE.rs = openM (l.map SE.rs) u := by
  simp [openM, newS, SE.rs, List.map_take, List.map_drop]
theorem map_close {l : List SE} (hm : OkM (l.map SE.rs)) {i : Nat} (hi : i < l.length) : (l.take i ++ l.drop (i + 1)).map SE.rs = closeM (l.map SE.rs) (l.getD i sez).n := by
  rw [List.map_append, List.map_take, List.map_drop, close_eq hm (by simpa using hi), rs_get]; rfl
/-- A book, or none and an error. -/
def BkP (w : World) (p : Value) (e : Int) (m : List RS) : Prop := (e = 0 → BkIs w p m) ∧ (e ≠ 0 → p = .pointer none)
theorem BkIs.ext {γ : Prop} {w w' : World} {v : Value} {m : List RS} (h : BkIs w v m) (x : Ext γ w w') : BkIs w' v m :=
  let ⟨p, b, h1, h2, h3⟩ := h
  ⟨p, b, h1, (h2.ext x).top, h3⟩
theorem BkP.ext {γ : Prop} {w w' : World} {p : Value} {e : Int} {m : List RS} (h : BkP w p e m) (x : Ext γ w w') : BkP w' p e m := ⟨fun he => (h.1 he).ext x, h.2⟩
theorem BkAt.is {F : Nat → Prop} {w : World} {p : Nat} {b : BV} (h : BkAt F w p b) : BkIs w (.pointer (some ⟨p, 0, none⟩)) b.m := ⟨p, b, rfl, h.top, rfl⟩
/-- A new book behind a pointer. -/
theorem bk_new {w : World} {p : Nat} {T : TypeId} {a : Option Addr} {c k : Nat} {l : List SE} {D : Nat → Prop} {F : Nat → Prop} {e : TypeId} {m : List RS} (hb : Box w p T [.slice a k c]) (hk : k = l.length) (ho : Own encSe 3 e D w (.slice a k c) l) (hs : SesAt F w l) (hm : l.map SE.rs = m) : BkIs w (.pointer (some ⟨p, 0, none⟩)) m := by
  subst hk
  exact ⟨p, ⟨a, c, l⟩, rfl, ⟨hb.lt, hb.at, (ho.slA encSe_ok).top, hs.mono fun _ h _ => h⟩, hm⟩
theorem SesAt.top {F : Nat → Prop} {w : World} {l : List SE} (h : SesAt F w l) : SesAt (Lt w.heap.size) w l := h.mono fun _ hb _ => hb
/-- What a session's effective roles are, for a hierarchy's closure. -/
def effW (C : W64 → W64) (m : List RS) (n : Int) (x : W64) : W64 := if 0 ≤ fnd m n then C ((m.getD (fnd m n).toNat rz).x &&& x) else 0
def encOp (o : SOp) : List Value := [.int .u8 (o.k.toNat : Int), .int .u8 (o.s.toNat : Int), .int .i64 o.u, .int .i64 o.r]
theorem encOp_ok : EncOk encOp 4 := ⟨by decide, fun _ => rfl, fun x u hu => by
  simp [encOp] at hu
  rcases hu with rfl | rfl | rfl | rfl <;> rfl⟩
def opz : SOp := ⟨0, 0, 0, 0⟩
end Go.Lx
